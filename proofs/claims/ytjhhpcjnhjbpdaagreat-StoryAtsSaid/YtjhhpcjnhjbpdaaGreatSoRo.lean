/- The document's Order, and whether two lists of numbers are the same: walked. -/
import Derived.Test.YtjhhpcjnhjbpdaaGreatQF
import Derived.Deep.OwnRows
import Derived.Deep.QuietTactic
import Derived.BigQuiet
set_option linter.unusedSimpArgs false
set_option linter.unusedVariables false
namespace Go.Proofs.YtjhhpcjnhjbpdaaGreat
open Go.RowKit Mo
/-- a block of n bools -/
def DnB (W : World) (g n : Nat) (D : Nat → Bool) : Prop := ∃ cs : Array Value, Blk W g 4 cs ∧ ∀ i : Nat, i < n → cs[i]? = some (.bool (D i))
theorem DnB.made (W : World) (n : Nat) : DnB (W.alloc (.cells (madeCells #[.bool false] n) 4)) W.heap.size n (fun _ => false) := by
  obtain ⟨c, h1, _, h2⟩ := World.rowIs_made W (.bool false) n 4
  exact ⟨c, h1, h2⟩
theorem DnB.lt {W : World} {g n : Nat} {D : Nat → Bool} (h : DnB W g n D) : g < W.heap.size := by obtain ⟨_, h, _⟩ := h; exact h.lt
theorem DnB.at {W : World} {g n : Nat} {D : Nat → Bool} (h : DnB W g n D) {i : Nat} (hi : i < n) {b : Bool} (e : D i = b) : W.cell? ⟨g, i, none⟩ = some (.bool b) := by
  obtain ⟨cs, h1, h2⟩ := h
  rw [h1.cell, h2 i hi, e]
theorem DnB.frozen {W : World} {g n : Nat} {D : Nat → Bool} (h : DnB W g n D) (i : Nat) : W.frozen? ⟨g, i, none⟩ = false := by obtain ⟨_, h, _⟩ := h; exact h.frozen i
theorem DnB.set_ {W : World} {g n : Nat} {D : Nat → Bool} (h : DnB W g n D) (i : Nat) (b : Bool) : DnB (W.setCell ⟨g, i, none⟩ (.bool b)) g n (fun j => if j = i then b else D j) := by
  obtain ⟨cs, h1, h2⟩ := h
  refine ⟨_, h1.set_ i _, fun j hj => ?_⟩
  have := h2 j hj
  rw [Array.getElem?_setIfInBounds]
  by_cases e : j = i
  · subst e
    have hz := (Array.getElem?_eq_some_iff.1 this).1
    simp [hz]
  · rw [if_neg (Ne.symm e)]; simp [e, this]
theorem DnB.ext {W : World} {g n : Nat} {D D' : Nat → Bool} (h : DnB W g n D) (e : ∀ i, i < n → D i = D' i) : DnB W g n D' := by
  obtain ⟨cs, h1, h2⟩ := h
  exact ⟨cs, h1, fun i hi => by rw [h2 i hi, e i hi]⟩
theorem DnB.drewN {W : World} {g n : Nat} {D : Nat → Bool} (h : DnB W g n D) (k : Nat) : DnB (W.drewN k) g n D := by obtain ⟨cs, h1, h2⟩ := h; exact ⟨cs, h1.drewN k, h2⟩
theorem DnB.alloc {W : World} {g n : Nat} {D : Nat → Bool} (h : DnB W g n D) (o : Obj) : DnB (W.alloc o) g n D := by obtain ⟨cs, h1, h2⟩ := h; exact ⟨cs, h1.alloc o, h2⟩
theorem DnB.keeps {S : Nat → Prop} {W W' : World} {g n : Nat} {D : Nat → Bool} (h : DnB W g n D) (hk : Keeps S W W') (hs : ¬ S g) : DnB W' g n D := by obtain ⟨cs, h1, h2⟩ := h; exact ⟨cs, h1.keeps hk hs, h2⟩
theorem DnB.grown {W W' : World} {g n : Nat} {D : Nat → Bool} {row : Option Nat} (h : DnB W g n D) (hg : W.grownBy W' row) (hr : row ≠ some g) : DnB W' g n D := by
  obtain ⟨cs, h1, h2⟩ := h
  exact ⟨cs, (hg.block g h1.lt (Ne.symm hr)).trans h1, h2⟩
/-- one that happened, and isn't in a list yet -/
def cand (l : List VCall20) (D : List Int) (j : Nat) : Prop := (∃ h : j < l.length, l[j].fate = 2) ∧ (j : Int) ∉ D
/-- the first of the least, among the first n -/
def Best (l : List VCall20) (D : List Int) (n : Nat) (a : Int) : Prop := (a = -1 ∧ ∀ j, j < n → ¬ cand l D j) ∨ ∃ c : Nat, c < n ∧ a = (c : Int) ∧ cand l D c ∧ ∀ j : Nat, j < n → cand l D j → j = c ∨ lexT (tOf l) (c : Int) (j : Int)
theorem Best.zero (l : List VCall20) (D : List Int) : Best l D 0 (-1) := .inl ⟨rfl, fun j h => absurd h (Nat.not_lt_zero _)⟩
theorem Best.skip {l : List VCall20} {D : List Int} {n : Nat} {a : Int} (h : Best l D n a) (hn : ¬ cand l D n) : Best l D (n + 1) a := by
  rcases h with ⟨h1, h2⟩ | ⟨c, h1, h2, h3, h4⟩
  · refine .inl ⟨h1, fun j hj => ?_⟩
    rcases Nat.lt_or_eq_of_le (Nat.lt_succ_iff.1 hj) with e | e
    · exact h2 j e
    · rw [e]; exact hn
  · refine .inr ⟨c, by omega, h2, h3, fun j hj hc => ?_⟩
    rcases Nat.lt_or_eq_of_le (Nat.lt_succ_iff.1 hj) with e | e
    · exact h4 j e hc
    · rw [e] at hc; exact absurd hc hn
theorem Best.first {l : List VCall20} {D : List Int} {n : Nat} (h : Best l D n (-1)) (hn : cand l D n) : Best l D (n + 1) (n : Int) := by
  rcases h with ⟨_, h2⟩ | ⟨c, _, h2, _⟩
  · refine .inr ⟨n, by omega, rfl, hn, fun j hj hc => ?_⟩
    rcases Nat.lt_or_eq_of_le (Nat.lt_succ_iff.1 hj) with e | e
    · exact absurd hc (h2 j e)
    · exact .inl e
  · omega
theorem Best.take {l : List VCall20} {D : List Int} {n c : Nat} (h : Best l D n (c : Int)) (hn : cand l D n) (ht : tOf l (n : Int) < tOf l (c : Int)) : Best l D (n + 1) (n : Int) := by
  rcases h with ⟨h1, _⟩ | ⟨c', h1, h2, h3, h4⟩
  · omega
  · obtain rfl : c = c' := by omega
    refine .inr ⟨n, by omega, rfl, hn, fun j hj hc => ?_⟩
    rcases Nat.lt_or_eq_of_le (Nat.lt_succ_iff.1 hj) with e | e
    · rcases h4 j e hc with h5 | h5
      · subst h5; exact .inr (.inl ht)
      · unfold lexT at h5 ⊢; exact .inr (.inl (by omega))
    · exact .inl e
theorem Best.leave {l : List VCall20} {D : List Int} {n c : Nat} (h : Best l D n (c : Int)) (ht : ¬ tOf l (n : Int) < tOf l (c : Int)) : Best l D (n + 1) (c : Int) := by
  rcases h with ⟨h1, _⟩ | ⟨c', h1, h2, h3, h4⟩
  · omega
  · obtain rfl : c = c' := by omega
    refine .inr ⟨c, by omega, rfl, h3, fun j hj hc => ?_⟩
    rcases Nat.lt_or_eq_of_le (Nat.lt_succ_iff.1 hj) with e | e
    · exact h4 j e hc
    · subst e; refine .inr ?_; unfold lexT; omega
theorem Best.some {l : List VCall20} {D : List Int} {n : Nat} {a : Int} (h : Best l D n a) (ha : a ≠ -1) : ∃ c : Nat, a = (c : Int) ∧ c < n := by
  rcases h with ⟨h, _⟩ | ⟨c, h1, h2, _⟩
  · exact absurd h ha
  · exact ⟨c, h2, h1⟩
/-- the next one of the order -/
theorem Best.next {l : List VCall20} {R : List Int} {m c : Nat} (hR : OrdL l R) (h : Best l (R.take m) l.length (c : Int)) : ∃ hm : m < R.length, R[m] = (c : Int) := by
  rcases h with ⟨h1, _⟩ | ⟨c', h1, h2, ⟨⟨hc, hf⟩, h3⟩, h4⟩
  · omega
  · obtain rfl : c = c' := by omega
    obtain ⟨q, hq, he⟩ := List.mem_iff_getElem.1 ((hR.mem (c : Int)).2 ⟨c, rfl, hc, hf⟩)
    have hmq : m ≤ q := by
      apply Nat.le_of_not_lt
      intro hlt
      exact h3 (List.mem_take_iff_getElem.2 ⟨q, by omega, he⟩)
    have hm : m < R.length := by omega
    refine ⟨hm, ?_⟩
    rcases Nat.lt_or_eq_of_le hmq with hlt | rfl
    · exfalso
      obtain ⟨p, hp, _, hpl, hpf⟩ := hR.at hm
      have hnp : (p : Int) ∉ R.take m := by
        intro hmem
        obtain ⟨i, hi, hie⟩ := List.mem_take_iff_getElem.1 hmem
        have := List.pairwise_iff_getElem.1 hR.nodup i m (by omega) hm (by omega)
        exact this (hie.trans hp.symm)
      have hlt' := List.pairwise_iff_getElem.1 hR.pw m q hm hq hlt
      rw [hp, he] at hlt'
      rcases h4 p hpl ⟨⟨hpl, hpf⟩, hnp⟩ with h5 | h5
      · subst h5; exact hlt'.ne rfl
      · exact hlt'.asymm h5
    · exact he
theorem Best.done {l : List VCall20} {R : List Int} {m : Nat} (hR : OrdL l R) (hm : m ≤ R.length) (h : Best l (R.take m) l.length (-1)) : m = R.length := by
  rcases h with ⟨_, h⟩ | ⟨c, _, h, _⟩
  · apply Classical.byContradiction
    intro hne
    have hlt : m < R.length := by omega
    obtain ⟨p, hp, _, hpl, hpf⟩ := hR.at hlt
    refine h p hpl ⟨⟨hpl, hpf⟩, fun hmem => ?_⟩
    obtain ⟨i, hi, hie⟩ := List.mem_take_iff_getElem.1 hmem
    have := List.pairwise_iff_getElem.1 hR.nodup i m (by omega) hlt (by omega)
    exact this (hie.trans hp.symm)
  · omega
def slen : Value → Nat
  | .slice _ n _ => n
  | _ => 0
theorem info_bl : (Tryz.prog.info? 4).map (fun i => (i.zero, i.size, i.bytes)) = some (some (.bool false), 1, 1) := by kernel_rfl
theorem own_em {w : World} {e : TypeId} {base b : Nat} (hb : w.heap.size = b) (h : base ≤ b) : (w.alloc (.cells #[] e)).ownsRow base e 1 (.slice (some ⟨b, 0, none⟩) 0 0) 0 [] := own_empty hb h
theorem own_kp {S : Nat → Prop} {w w' : World} {base : Nat} {e : TypeId} {size n : Nat} {v : Value} {xs : List Value} (h : w.ownsRow base e size v n xs) (hk : Keeps S w w') (hs : ∀ g, v.ownBlock = some g → ¬ S g) : w'.ownsRow base e size v n xs := by
  refine ⟨h.1, ?_⟩
  rcases h.2 with h2 | ⟨g, cap, cur, rfl, hb, hg, rest⟩
  · exact .inl h2
  · exact .inr ⟨g, cap, cur, rfl, hb, (hk.block g (Array.getElem?_eq_some_iff.1 hg).1 (hs g rfl)).trans hg, rest⟩
theorem own_slen {w : World} {base : Nat} {e : TypeId} {size n : Nat} {v : Value} {xs : List Value} (h : w.ownsRow base e size v n xs) : slen v = n := by
  obtain ⟨A, c, rfl, _⟩ := own_shape h
  rfl
theorem Keeps.ofB {w w' : World} (h : Below w.heap.size w w') : Keeps (fun _ => False) w w' := Keeps.of_below h
/-- what the document's Order gives -/
def ROrdIs (l : List VCall20) (R : List Int) (w : World) (e : Ending) (w' : World) : Prop := ∃ B cap, e = .returned (.slice B R.length cap) ∧ Reads w' w'.heap.size 1 B R.length (R.map (Value.int .i64)) ∧ (∀ a, B = some a → w.heap.size ≤ a.block) ∧ Below w.heap.size w w'
set_option maxRecDepth 100000 in
set_option maxHeartbeats 4000000 in
theorem rorder_any (A : Option Addr) (c : Nat) (l : List VCall20) (R : List Int) (w : World) (ha : Reads w w.heap.size 8 A l.length (l.flatMap VCall20.cells)) (hl : l.length ≤ 100000) (hR : OrdL l R) :
    Calls Tryz.prog 22 #[.slice A l.length c] w (ROrdIs l R w) := by
  have HA := Lib.hid ha; have HR := Lib.hid hR
  have hRl := hR.len
  clear ha hR
  obtain ⟨i0, hi0, hz0, hz1, hz2⟩ := info_parts info_it
  have hmk := run_make_row' (P := Tryz.prog) 86 4 (.bool false) 1 Tryz.underlying86 info_bl rfl .i64 .i64 l.length (by omega) (by omega)
  go_enter Tryz.func22, Tryz.ntmps22
  go_wp2_with fail
  clear hmk
  have N0 : Hid (((w.alloc (.cells #[] 3)).alloc (.cells (madeCells #[.bool false] l.length) 4)).ownsRow w.heap.size 3 1 (.slice (some ⟨w.heap.size, 0, none⟩) 0 0) 0 []) := Lib.hid ((own_em rfl (Nat.le_refl _)).alloc _)
  have D0 : Hid (DnB ((w.alloc (.cells #[] 3)).alloc (.cells (madeCells #[.bool false] l.length) 4)) (w.heap.size + 1) l.length (fun _ => false)) := Lib.hid (by have := DnB.made (w.alloc (.cells #[] 3)) l.length; simpa using this)
  go_loopw [3] (fun s3 wr => ∃ m : Nat, m ≤ R.length ∧ slen s3 = m ∧ s3.ownBlock ≠ some (w.heap.size + 1) ∧ Hid (wr.ownsRow w.heap.size 3 1 s3 m ((R.take m).map (Value.int .i64))) ∧ Hid (DnB wr (w.heap.size + 1) l.length (fun j => decide ((j : Int) ∈ R.take m))) ∧ Hid (Below w.heap.size w wr)) (fun s3 _ => R.length - slen s3)
  case atStart => exact ⟨0, Nat.zero_le _, rfl, by simp [Value.ownBlock], N0, Lib.hid (D0.out.ext fun i _ => by simp), Lib.hid (by repeat (first | exact Below.refl _ _ | refine below_alloc_ ?_ _ | refine Below.drew ?_))⟩
  case round =>
    clear N0 D0
    obtain ⟨m, hm, hsl, hap, HO, HD, HW⟩ := hrel
    rename World => wo
    have HSL := Lib.hid hsl; have HAP := Lib.hid hap
    clear hsl hap
    obtain ⟨D, hD⟩ : ∃ D, R.take m = D := ⟨_, rfl⟩
    have HDD := Lib.hid hD
    rw [hD] at HD HO
    clear hD
    go_wp2_with fail
    go_loopw [5, 6] (fun s5 s6 wr => ∃ (i : Nat) (a : Int), i ≤ l.length ∧ s6 = .int .i64 i ∧ s5 = .int .i64 a ∧ Hid (Best l D i a) ∧ Hid (Below wo.heap.size wo wr)) (fun _ s _ => l.length - (intOf s).toNat)
    case atStart => exact ⟨0, -1, Nat.zero_le _, rfl, rfl, Lib.hid (Best.zero l D), Lib.hid (Below.refl _ _)⟩
    case round =>
      obtain ⟨i, a, hi, rfl, rfl, HB, HI⟩ := hrel
      rename World => wi
      have WI := Lib.hid (below_then HW.out HI.out)
      have DI := Lib.hid (HD.out.keeps (Keeps.ofB HI.out) id)
      by_cases hlt : i < l.length
      · have hd : decide ((i : Int) < (l.length : Int)) = true := by simp; omega
        have hd' : decide (i < l.length) = true := by simp; omega
        obtain ⟨ad, hA, hadb, hcell⟩ := HA.out.2 (by omega)
        subst hA
        have HC := Lib.hid hcell; have HAB := Lib.hid hadb
        obtain ⟨x0, x1, x2, x3, x4, x5, x6, x7⟩ := call_at8 WI.out hadb hcell i hlt
        have HCA := Lib.hid (show cand l D i ↔ (l[i].fate = 2 ∧ (i : Int) ∉ D) from ⟨fun ⟨⟨_, h⟩, h2⟩ => ⟨h, h2⟩, fun ⟨h, h2⟩ => ⟨⟨hlt, h⟩, h2⟩⟩)
        have HT := Lib.hid (tOf_at hlt)
        clear hcell hadb
        generalize l[i] = x at *
        obtain ⟨xi, xf, xt, xn, xfr, xto, xfa, xs⟩ := x
        simp only at x0 x1 x2 x3 x4 x5 x6 x7 HCA HT
        have dl := DI.out.lt
        have i0 : (0 : Int) ≤ (i : Int) := by omega
        have i1 : (i : Int) < (l.length : Int) := by omega
        by_cases hin : (i : Int) ∈ D
        · have b0 := DI.out.at hlt (b := true) (by simpa using hin)
          have BN := Lib.hid (HB.out.skip (fun h => (HCA.out.1 h).2 hin))
          clear hin
          go_wp2_with fail
          go_quiet (fail)
          go_wp2_with fail
          go_roundw
          case rel => exact ⟨i + 1, a, by omega, by go_num, rfl, BN, Lib.hid (below_dn HI.out _)⟩
          case measure => simp [intOf]; omega
        · have b0 := DI.out.at hlt (b := false) (by simpa using hin)
          by_cases hf : xfa = 2
          · have e1 : (xfa == 2) = true := by simpa using hf
            have HCN := Lib.hid (HCA.out.2 ⟨hf, hin⟩)
            clear hf hin
            by_cases ha : a = -1
            · subst ha
              have BN := Lib.hid (HB.out.first HCN.out)
              go_wp2_with fail
              go_quiet (fail)
              go_wp2_with fail
              go_roundw
              case rel => exact ⟨i + 1, (i : Int), by omega, by go_num, rfl, BN, Lib.hid (below_dn HI.out _)⟩
              case measure => simp [intOf]; omega
            · obtain ⟨q, rfl, hq⟩ := HB.out.some ha
              have hql : q < l.length := by omega
              obtain ⟨y0, y1, y2, y3, y4, y5, y6, y7⟩ := call_at8 WI.out HAB.out HC.out q hql
              have HTQ := Lib.hid (tOf_at hql)
              generalize l[q] = y at *
              obtain ⟨yi, yf, yt, yn, yfr, yto, yfa, ys⟩ := y
              simp only at y0 y1 y2 y3 y4 y5 y6 y7 HTQ
              have g1 : decide ((q : Int) < 0) = false := by simp
              have g2 : (0 : Int) ≤ (q : Int) := by omega
              have g3 : (q : Int) < (l.length : Int) := by omega
              clear ha
              by_cases ht : xs < ys
              · have g4 : decide (xs < ys) = true := by simpa using ht
                have BN := Lib.hid (HB.out.take HCN.out (by rw [HT.out, HTQ.out]; exact ht))
                clear ht
                go_wp2_with fail
                go_quiet (fail)
                go_wp2_with fail
                go_roundw
                case rel => exact ⟨i + 1, (i : Int), by omega, by go_num, rfl, BN, Lib.hid (below_dn HI.out _)⟩
                case measure => simp [intOf]; omega
              · have g4 : decide (xs < ys) = false := by simp; omega
                have BN := Lib.hid (HB.out.leave (by rw [HT.out, HTQ.out]; exact ht))
                clear ht
                go_wp2_with fail
                go_quiet (fail)
                go_wp2_with fail
                go_roundw
                case rel => exact ⟨i + 1, (q : Int), by omega, by go_num, rfl, BN, Lib.hid (below_dn HI.out _)⟩
                case measure => simp [intOf]; omega
          · have e1 : (xfa == 2) = false := by simpa using hf
            have BN := Lib.hid (HB.out.skip (fun h => hf (HCA.out.1 h).1))
            clear hf hin
            go_wp2_with fail
            go_quiet (fail)
            go_wp2_with fail
            go_roundw
            case rel => exact ⟨i + 1, a, by omega, by go_num, rfl, BN, Lib.hid (below_dn HI.out _)⟩
            case measure => simp [intOf]; omega
      · have hd : decide ((i : Int) < (l.length : Int)) = false := by simp; omega
        have hd' : decide (i < l.length) = false := by simp; omega
        obtain rfl : i = l.length := by omega
        have OI := Lib.hid (own_kp HO.out (Keeps.ofB HI.out) (fun _ _ h => h))
        have BB := Lib.hid (show Best l (R.take m) l.length a by rw [HDD.out]; exact HB.out)
        by_cases ha : a = -1
        · subst ha
          have hmR := BB.out.done HR.out hm
          obtain ⟨A1, c1, hv, hrd, hfr⟩ := own_shape OI.out
          have HFR := Lib.hid hfr
          have HRD := Lib.hid (show Reads wi wi.heap.size 1 A1 R.length (R.map (Value.int .i64)) by
            rw [← hmR]
            rw [← HDD.out, hmR, List.take_of_length_le (Nat.le_refl _)] at hrd
            rw [← hmR] at hrd
            exact hrd)
          subst hv
          have HMR := Lib.hid hmR
          clear hrd hmR hfr
          go_wp2_with fail
          go_ret
          exact ⟨A1, c1, by rw [HMR.out]; rfl, HRD.out, HFR.out, WI.out⟩
        · obtain ⟨q, rfl, hq⟩ := HB.out.some ha
          obtain ⟨hmR, hRm⟩ := BB.out.next HR.out
          have g1 : decide ((q : Int) < 0) = false := by simp
          have dl := DI.out.lt
          have f0 := DI.out.frozen q
          obtain ⟨bq, hbq⟩ : ∃ b, decide ((q : Int) ∈ D) = b := ⟨_, rfl⟩
          have b0 := DI.out.at hq hbq
          have g2 : (0 : Int) ≤ (q : Int) := by omega
          have g3 : (q : Int) < (l.length : Int) := by omega
          have HRM := Lib.hid hRm
          clear ha hbq hRm
          have OS := Lib.hid (own_kp OI.out ((Keeps.refl (· = w.heap.size + 1) wi).set_ (p := ⟨w.heap.size + 1, q, none⟩) (Or.inl rfl) (.bool true)) (fun g hg => by intro e; rw [e] at hg; exact HAP.out hg))
          have DS := Lib.hid (DI.out.set_ q true)
          have WS := Lib.hid (WI.out.setCell (show w.heap.size ≤ (⟨w.heap.size + 1, q, none⟩ : Addr).block from Nat.le_succ _) (.bool true))
          have hRt := List.take_succ_eq_append_getElem hmR
          rw [HRM.out, HDD.out] at hRt
          have HRT := Lib.hid hRt
          clear hRt
          go_wp2_with (at_builtin
                       refine wpList_append_any _ rfl (.tmp 54) (.tmp 56) 43 rfl w.heap.size 3 i0 _ 1 8 Tryz.underlying43 hi0 hz0 hz1 hz2 rfl (by omega) u3 m _ (by rfl) (OS.out.alloc _) (wi.heap.size + 1) (some ⟨wi.heap.size, 0, none⟩) 1 1 [.int .i64 (q : Int)] (by rfl) (reads_cells1 (by simp)) (one_it [(q : Int)]) (by simp only [maxLen]; omega) (by omega) (by have := WI.out.size; simp; omega) ?_
                       intro v1 w2 hown1 hg1 hat1
                       have HO1 := Lib.hid hown1
                       have HB1 := Lib.hid (Below.grown (below_alloc_ WS.out _) hg1 (by have := WI.out.size; simp; omega) (fun j hj => (OI.out.lt j hj).1))
                       have DB1 := Lib.hid ((DS.out.alloc _).grown hg1 HAP.out)
                       have HA1 := Lib.hid (show v1.ownBlock ≠ some (w.heap.size + 1) from by
                         rcases hat1 with h | h
                         · rw [h]; exact HAP.out
                         · rw [h]; intro e; injection e with e; simp at e; omega)
                       have HS1 := Lib.hid (own_slen hown1)
                       clear hown1 hg1 hat1)
          go_roundw
          case rel => exact ⟨m + 1, by omega, HS1.out, HA1.out, Lib.hid (by rw [HRT.out, List.map_append]; exact HO1.out), Lib.hid (DB1.out.ext fun j _ => by
            rw [HRT.out]
            by_cases hj : j = q
            · subst hj; simp
            · rw [if_neg hj, decide_eq_decide]
              simp only [List.mem_append, List.mem_singleton]
              exact ⟨fun h => .inl h, fun h => h.elim id (fun h => absurd (by omega) hj)⟩), HB1⟩
          case measure => have h1 := HS1.out; have h2 := HSL.out; simp only [h1, h2]; omega
end Go.Proofs.YtjhhpcjnhjbpdaaGreat
