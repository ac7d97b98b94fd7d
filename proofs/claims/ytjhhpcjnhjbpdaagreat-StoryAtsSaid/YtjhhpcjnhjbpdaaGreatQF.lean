/- Joined: SoY, SoZ, SoLa. -/
import Derived.Test.YtjhhpcjnhjbpdaaGreatSoX
/- The story: At. -/
set_option linter.unusedSimpArgs false
set_option linter.unusedVariables false
namespace Go.Proofs.YtjhhpcjnhjbpdaaGreat
open Go.RowKit Mo
theorem check_any (r : Nat) (A B : Option Addr) (c d : Nat) (ops : List VEntry) (l : List VCall20) (F : Nat → Int → Option (Int × Int)) (R : List Int) (G : Nat → Int → Option (Int × Int)) (EE : Nat → Int) (w : World) (hb : r < 18446744073709551616)
    (ha : Reads w w.heap.size 2 A ops.length (ops.flatMap VEntry.cells)) (hx : ∀ u ∈ ops, VEntry.ok w u) (hl : ops.length ≤ 1000) (hb2 : Reads w w.heap.size 8 B l.length (l.flatMap VCall20.cells)) (hx2 : ∀ u ∈ l, VCall20.ok w u) (hl2 : l.length ≤ 1000) (hlc : l.length ≤ d) (hF : OpRuns ops F) (hR : OrdL l R) (hG0 : G 0 = F ops.length) (hG : MvRuns l r R G EE) :
    Calls Tryz.prog 7 #[.float .f64 r, .slice A ops.length c, .slice B l.length d] w (ChkPost r ops l R EE w) := by
  cases h : rateOk r
  · refine (check_bad r A B ops.length c l.length d w hb h).mono ?_
    rintro e w' ⟨rfl, rfl⟩
    exact ⟨0, 210, rfl, .inl ⟨h, rfl, rfl⟩, Below.refl _ _⟩
  · exact check_ok r A B c d ops l F R G EE w hb h ha hx hl hb2 hx2 hl2 hlc hF hR hG0 hG
/-- in an order, those up to a time are the first k0 -/
def UpTo (l : List VCall20) (R : List Int) (t : Int) (k0 : Nat) : Prop := k0 ≤ R.length ∧ (∀ j, j < k0 → tOf l (R.getD j 0) ≤ t) ∧ ∀ j, k0 ≤ j → j < R.length → t < tOf l (R.getD j 0)
theorem OrdL.mono {l : List VCall20} {R : List Int} (h : OrdL l R) {i j : Nat} (hij : i < j) (hj : j < R.length) : tOf l (R.getD i 0) ≤ tOf l (R.getD j 0) := by
  have := List.pairwise_iff_getElem.1 h.pw i j (by omega) hj hij
  rw [List.getD_eq_getElem?_getD, List.getD_eq_getElem?_getD, List.getElem?_eq_getElem hj, List.getElem?_eq_getElem (by omega)]
  unfold lexT at this
  simp only [Option.getD_some]
  omega
theorem upTo_ex {l : List VCall20} {R : List Int} (h : OrdL l R) (t : Int) : ∃ k0, UpTo l R t k0 := by
  have : ∀ n, n ≤ R.length → ∃ k0, k0 ≤ n ∧ (∀ j, j < k0 → tOf l (R.getD j 0) ≤ t) ∧ ∀ j, k0 ≤ j → j < n → t < tOf l (R.getD j 0) := by
    intro n
    induction n with
    | zero => exact fun _ => ⟨0, Nat.le_refl _, fun j h => absurd h (Nat.not_lt_zero _), fun j _ h => absurd h (Nat.not_lt_zero _)⟩
    | succ n ih =>
      intro hn
      obtain ⟨k0, h1, h2, h3⟩ := ih (by omega)
      by_cases ht : tOf l (R.getD n 0) ≤ t
      · refine ⟨n + 1, Nat.le_refl _, fun j hj => ?_, fun j h1 h2 => by omega⟩
        rcases Nat.lt_or_eq_of_le (Nat.lt_succ_iff.1 hj) with e | e
        · exact Int.le_trans (h.mono e (by omega)) ht
        · rw [e]; exact ht
      · refine ⟨k0, by omega, h2, fun j h4 h5 => ?_⟩
        rcases Nat.lt_or_eq_of_le (Nat.lt_succ_iff.1 h5) with e | e
        · exact h3 j h4 e
        · rw [e]; omega
  exact this _ (Nat.le_refl _)
/-- what At says -/
def AtSpec (r : Nat) (ops : List VEntry) (l : List VCall20) (R : List Int) (EE : Nat → Int) (G : Nat → Int → Option (Int × Int)) (t : Int) (k0 : Nat) (L : List (Int × Int)) (E : Int) : Prop :=
  (∃ V, ChkSpec r ops l R EE V E ∧ E ≠ 0 ∧ L = []) ∨ (∃ V, ChkSpec r ops l R EE V 0 ∧ ((inT t = false ∧ E = 217 ∧ L = []) ∨ (inT t = true ∧ E = 0 ∧ L = ents (G k0))))
def AtPost (r : Nat) (ops : List VEntry) (l : List VCall20) (R : List Int) (EE : Nat → Int) (G : Nat → Int → Option (Int × Int)) (t : Int) (k0 : Nat) (w : World) (e : Ending) (w' : World) : Prop := ∃ A c L E, e = .returned (.tuple #[.slice A L.length c, .int .i64 E]) ∧ Reads w' w'.heap.size 2 A L.length (L.flatMap eC) ∧ AtSpec r ops l R EE G t k0 L E ∧ (∀ a, A = some a → w.heap.size ≤ a.block) ∧ Below w.heap.size w w'
theorem chk_rate {r : Nat} {ops : List VEntry} {l : List VCall20} {R : List Int} {EE : Nat → Int} {V : Int} (h : ChkSpec r ops l R EE V 0) : rateOk r = true := by
  rcases h with ⟨_, _, h⟩ | ⟨h, _⟩ | ⟨h, _⟩ | ⟨h, _⟩
  · exact absurd h (by decide)
  · exact h
  · exact h
  · exact h
set_option maxRecDepth 100000 in
set_option maxHeartbeats 8000000 in
theorem at_any (r : Nat) (A B : Option Addr) (c d : Nat) (ops : List VEntry) (l : List VCall20) (F : Nat → Int → Option (Int × Int)) (R : List Int) (G : Nat → Int → Option (Int × Int)) (EE : Nat → Int) (t : Int) (k0 : Nat) (w : World) (hb : r < 18446744073709551616)
    (ha : Reads w w.heap.size 2 A ops.length (ops.flatMap VEntry.cells)) (hx : ∀ u ∈ ops, VEntry.ok w u) (hl : ops.length ≤ 1000) (hb2 : Reads w w.heap.size 8 B l.length (l.flatMap VCall20.cells)) (hx2 : ∀ u ∈ l, VCall20.ok w u) (hl2 : l.length ≤ 1000) (hlc : l.length ≤ d) (hF : OpRuns ops F) (hR : OrdL l R) (hG0 : G 0 = F ops.length) (hG : MvRuns l r R G EE) (hk0 : UpTo l R t k0) :
    Calls Tryz.prog 10 #[.float .f64 r, .slice A ops.length c, .slice B l.length d, .int .i64 t] w (AtPost r ops l R EE G t k0 w) := by
  have HA := Lib.hid ha; have HX := Lib.hid hx; have HB := Lib.hid hb2; have HX2 := Lib.hid hx2; have HF := Lib.hid hF; have HR := Lib.hid hR; have HG0 := Lib.hid hG0; have HG := Lib.hid hG; have K0 := Lib.hid hk0
  clear ha hx hb2 hx2 hF hR hG0 hG hk0
  go_enter Tryz.func10, Tryz.ntmps10
  go_wp2_with fail
  refine (check_any r A B c d ops l F R G EE _ hb HA.out HX.out hl HB.out HX2.out hl2 hlc HF.out HR.out HG0.out HG.out).mono ?_
  rintro e w1 ⟨V, E, rfl, hs, hw1⟩
  have W1 := Lib.hid hw1
  by_cases he : E = 0
  · subst he
    have CS := Lib.hid hs
    have HK := Lib.hid (chk_rate hs)
    clear hs hw1
    cases ht : inT t
    · have T0 := Lib.hid ht
      clear ht
      go_wp2_with (go_at_call 24; (with_reducible refine (in_f (t := t) _ T0.out).mono ?_); rintro e w2 ⟨rfl, rfl⟩)
      go_ret2
      exact ⟨none, 0, [], _, rfl, ⟨rfl, fun h => absurd h (Nat.lt_irrefl 0)⟩, .inr ⟨V, CS.out, .inl ⟨T0.out, rfl, rfl⟩⟩, (fun a ha => by cases ha), W1.out⟩
    · have T1 := Lib.hid ht
      clear ht
      go_wp2_with (go_at_call 24; (with_reducible refine (in_t (t := t) _ T1.out).mono ?_); rintro e w2 ⟨rfl, rfl⟩)
      refine (book_any r A c ops F _ ((HA.out.below W1.out).more W1.out.size) HX.out (by omega) hb HK.out HF.out).mono ?_
      rintro e w4 ⟨b, m, rfl, hb4, hm4, hk4, hw4⟩
      have B4 := Lib.hid hk4
      have W4 := Lib.hid (below_then W1.out hw4)
      have hmw : w.heap.size ≤ m := by have := W1.out.size; omega
      clear hk4 hw4 hb4 hm4
      go_wp2_with fail
      refine (order_any B d l _ ((HB.out.below W4.out).more W4.out.size) (by omega)).mono ?_
      rintro e w5 ⟨O, cap, R', rfl, hro, hcp, hrd, hfr, hw5⟩
      obtain rfl : R = R' := HR.out.unique hro
      have R5 := Lib.hid hrd
      have W5 := Lib.hid (below_then W4.out hw5)
      have B5 := Lib.hid (B4.out.pass hw5)
      have OB := Lib.hid (show ∀ a, O = some a → a.block ≠ m from fun a ha => by
        have h1 := hfr a ha
        have h3 := B4.out.m.lt
        omega)
      clear hro hrd hfr hw5
      have hRl := HR.out.len
      go_wp2_with fail
      clear B4 W4 W1
      go_loopw [38] (fun s wr => ∃ k : Nat, k ≤ R.length ∧ s = .int .i64 k ∧ Hid (Bk wr b r m (ops.length + 2 * k) (G (min k k0))) ∧ Hid (Below w.heap.size w wr) ∧ Hid (Reads wr wr.heap.size 1 O R.length (R.map (Value.int .i64)))) (fun s _ => R.length - (intOf s).toNat)
      case atStart => exact ⟨0, Nat.zero_le _, rfl, Lib.hid (by rw [Nat.zero_min, HG0.out]; exact B5.out), W5, R5⟩
      case round =>
        obtain ⟨k, hk, rfl, BK, HW, RR⟩ := hrel
        rename World => wo
        clear B5 W5 R5
        by_cases hlt : k < R.length
        · have hd : decide ((k : Int) < (R.length : Int)) = true := by simp; omega
          have hd' : decide (k < R.length) = true := by simp; omega
          obtain ⟨ao, hO, haob, hoc⟩ := RR.out.2 (by omega)
          obtain ⟨p, hp, hp', hpl, hpf⟩ := HR.out.at hlt
          obtain ⟨ad, hA, hadb, hcell⟩ := HB.out.2 (by omega)
          have OM := Lib.hid (OB.out ao hO)
          subst hO; subst hA
          have ok := ord_at hoc hlt hp
          obtain ⟨x0, x1, x2, x3, x7⟩ := call_at HW.out hadb hcell p hpl
          have HXX := Lib.hid (HX2.out l[p] (List.getElem_mem hpl))
          obtain ⟨V2, hMV⟩ := HG.out k hlt
          rw [hp, cAt_at hpl] at hMV
          have MV := Lib.hid hMV
          have TP := Lib.hid (show tOf l (R.getD k 0) = l[p].tt by rw [hp', tOf_at hpl])
          have hnm : (ad.add (p * 8)).block ≠ m := by rw [block_of_add]; omega
          clear hcell hadb hoc hp hp' hpf hMV haob
          generalize l[p] = x at *
          obtain ⟨xi, xf, xt, xn, xfr, xto, xfa, xs⟩ := x
          obtain ⟨v0, v1, v2, v3, _⟩ := HXX.out
          simp only at x0 x1 x2 x3 x7 MV TP v0 v1 v2 v3
          have p0 : (0 : Int) ≤ (p : Int) := by omega
          have p1 : (p : Int) < (l.length : Int) := by omega
          by_cases hkk : k < k0
          · have e1 : decide (xs ≤ t) = true := by have := K0.out.2.1 k hkk; rw [TP.out] at this; simpa using this
            have FK := Lib.hid (HG.out.ok HK.out (Int.le_refl 0) (by rw [HG0.out]; exact HF.out.ok _ (Nat.le_refl _)) k (by omega))
            have BM := Lib.hid (show Bk wo.drew b r m (ops.length + 2 * k) (G k) from by
              have := BK.out
              rw [Nat.min_eq_left (by omega)] at this
              exact ⟨this.b.drew, this.m.drew⟩)
            have hm1 : min (k + 1) k0 = k + 1 := Nat.min_eq_left (by omega)
            have HM1 := Lib.hid hm1
            obtain ⟨E2, hE2⟩ : ∃ E2, EE k = E2 := ⟨_, rfl⟩
            rw [hE2] at MV
            clear BK hm1 hE2
            go_wp2_with fail
            go_region_held3 (fun w' => w'.cell? ⟨(ad.add (p * 8)).block, (ad.add (p * 8)).off + 1, none⟩ = some (.int .i64 xf) ∧ w'.cell? ⟨(ad.add (p * 8)).block, (ad.add (p * 8)).off + 2, none⟩ = some (.int .i64 xt) ∧ w'.cell? ⟨(ad.add (p * 8)).block, (ad.add (p * 8)).off + 3, none⟩ = some (.int .i64 xn))
              (first | exact ⟨x1, x2, x3⟩ | exact ⟨keep_cell (w1 := wo.drew) x1 hk4 hnm, keep_cell (w1 := wo.drew) x2 hk4 hnm, keep_cell (w1 := wo.drew) x3 hk4 hnm⟩)
              (((go_at_call 17; (with_reducible refine (move_any b r m (ops.length + 2 * k) (G k) xf xt xn _ V2 E2 (0 + (k : Int)) (G (k + 1)) _ BM.out FK.out (by omega) v1 v2 HK.out hb rfl (by simp only [maxLen]; omega) MV.out).mono ?_); rintro e w4 ⟨rfl, hb4, hk4⟩)))
            go_wp2_with fail
            go_roundw
            case rel => exact ⟨k + 1, by omega, by go_num, Lib.hid (by rw [HM1.out]; exact hb4), Lib.hid (below_kp (below_drew_ HW.out) hk4 hmw), Lib.hid (RR.out.dr.kp hk4 (fun a ha => by cases ha; exact OM.out))⟩
            case measure => simp [intOf]; omega
          · have e1 : decide (xs ≤ t) = false := by have := K0.out.2.2 k (by omega) hlt; rw [TP.out] at this; simpa using this
            have hm1 : min (k + 1) k0 = min k k0 := by omega
            have HM1 := Lib.hid hm1
            clear hm1
            go_wp2_with fail
            go_roundw
            case rel => exact ⟨k + 1, by omega, by go_num, Lib.hid (by rw [HM1.out]; exact ⟨BK.out.b, BK.out.m.mono (by omega)⟩), HW, RR⟩
            case measure => simp [intOf]; omega
        · have hd : decide ((k : Int) < (R.length : Int)) = false := by simp; omega
          have hd' : decide (k < R.length) = false := by simp; omega
          have FK := Lib.hid (HG.out.ok HK.out (Int.le_refl 0) (by rw [HG0.out]; exact HF.out.ok _ (Nat.le_refl _)) k0 K0.out.1)
          have BM := Lib.hid (show Bk wo b r m (ops.length + 2 * k) (G k0) from by
              have := BK.out
              rw [Nat.min_eq_right (by have := K0.out.1; omega)] at this
              exact this)
          clear BK
          go_wp2_with fail
          refine (list_any b r m (ops.length + 2 * k) (G k0) _ BM.out (by omega) FK.out.sup).mono ?_
          rintro e w6 ⟨A6, c6, rfl, hr6, hf6, hw6⟩
          have F6 := Lib.hid (fun a ha => Nat.le_trans HW.out.size (hf6 a ha))
          have R6 := Lib.hid hr6
          have W6 := Lib.hid (below_then HW.out hw6)
          clear hr6 hw6 hf6
          go_wp2_with fail
          go_ret2
          exact ⟨A6, c6, _, _, rfl, R6.out, .inr ⟨V, CS.out, .inr ⟨T1.out, rfl, rfl⟩⟩, F6.out, W6.out⟩
  · have e1 : (E == 0) = false := by simpa using he
    have e2 : (E != 0) = true := by simpa using he
    have HE := Lib.hid he
    have CS := Lib.hid hs
    clear he hs hw1
    go_wp2_with fail
    go_ret2
    exact ⟨none, 0, [], _, rfl, ⟨rfl, fun h => absurd h (Nat.lt_irrefl 0)⟩, .inl ⟨V, CS.out, HE.out, rfl⟩, (fun a ha => by cases ha), W1.out⟩
end Go.Proofs.YtjhhpcjnhjbpdaaGreat

/- The chapter's example of a story. -/
set_option linter.unusedSimpArgs false
set_option linter.unusedVariables false
namespace Go.Proofs.YtjhhpcjnhjbpdaaGreat
open Go.RowKit Mo
theorem reads_blk {w : World} {g : Nat} {t : TypeId} {cs : Array Value} {size n : Nat} {xs : List Value} (h : Blk w g t cs) (e : cs.toList = xs) (hl : xs.length = n * size) : Reads w w.heap.size size (some ⟨g, 0, none⟩) n xs := by
  refine ⟨hl, fun _ => ⟨_, rfl, h.lt, fun j u hu => ?_⟩⟩
  rw [Addr.add_lit, h.cell]
  subst e
  simpa using hu
/-- nothing is wrong with a story -/
def Fine (r : Nat) (ops : List VEntry) (l : List VCall20) (R : List Int) (EE : Nat → Int) : Prop := rateOk r = true ∧ (∀ j, j < ops.length → badO ops j = false) ∧ (∀ j, j < l.length → wrong l j = 0) ∧ ∀ j, j < R.length → tie l R j = false ∧ EE j = 0
theorem opd_fine {ops : List VEntry} {V : Int} (h : OpdIs ops V) (hb : ∀ j, j < ops.length → badO ops j = false) : V = -1 := by
  rcases h with ⟨i, h1, h2, h3, _⟩ | ⟨h, _⟩
  · rw [hb i h1] at h3; cases h3
  · exact h
theorem cls_fine {l : List VCall20} {V E : Int} (h : ClsIs l V E) (hb : ∀ j, j < l.length → wrong l j = 0) : V = 0 ∧ E = 0 := by
  rcases h with ⟨i, h1, _, _, h3, _⟩ | ⟨h1, h2, _⟩
  · exact absurd (hb i h1) h3
  · exact ⟨h1, h2⟩
theorem chk_of_fine {r : Nat} {ops : List VEntry} {l : List VCall20} {R : List Int} {EE : Nat → Int} {V E : Int} (h : ChkSpec r ops l R EE V E) (hf : Fine r ops l R EE) : V = R.length ∧ E = 0 := by
  obtain ⟨f1, f2, f3, f4⟩ := hf
  rcases h with ⟨h, _⟩ | ⟨_, h1, h2, _⟩ | ⟨_, _, h1, h2⟩ | ⟨_, _, _, h⟩
  · rw [f1] at h; cases h
  · have := opd_fine h2 f2; omega
  · exact absurd (cls_fine h1 f3).2 h2
  · rcases h with ⟨k, hk, _, _, ⟨h, _⟩ | ⟨_, h, _⟩⟩ | ⟨_, h1, h2⟩
    · rw [(f4 k hk).1] at h; cases h
    · exact absurd (f4 k hk).2 h
    · exact ⟨h1, h2⟩
theorem fine_of_chk {r : Nat} {ops : List VEntry} {l : List VCall20} {R : List Int} {EE : Nat → Int} {V : Int} (h : ChkSpec r ops l R EE V 0) : Fine r ops l R EE := by
  rcases h with ⟨_, _, h⟩ | ⟨_, _, _, h⟩ | ⟨_, _, h1, h2⟩ | ⟨h1, h2, h3, h⟩
  · cases h
  · cases h
  · exact absurd rfl h2
  · refine ⟨h1, ?_, ?_, ?_⟩
    · rcases h2 with ⟨i, _, h, _⟩ | ⟨_, h⟩
      · omega
      · exact h
    · rcases h3 with ⟨i, _, _, h, h', _⟩ | ⟨_, _, h⟩
      · exact absurd h.symm h'
      · exact h
    · rcases h with ⟨k, hk, _, _, ⟨_, h⟩ | ⟨_, _, h⟩⟩ | ⟨h, _, _⟩
      · cases h
      · cases h
      · exact h
theorem cs_far {w : World} {p q : Addr} {v : Value} (h : w.cell? p = some v) (hb : p.block ≠ q.block) (u : Value) : (w.setCell q u).cell? p = some v :=
  (World.cell?_of_block (w := w) (Below.heap_setCell w q u p.block hb)).trans h
def exO : List VEntry := [⟨1, 100⟩, ⟨2, 0⟩]
def exL : List VCall20 := [⟨7, 1, 2, 40, 5, 9, 2, 7⟩, ⟨8, 1, 2, 60, 5, 9, 2, 6⟩]
def exM : List VCall20 := [⟨7, 1, 2, 40, 5, 9, 2, 7⟩, ⟨8, 1, 2, 61, 5, 9, 2, 6⟩]
def ex0 : Int → Option (Int × Int) := fun _ => none
def ex1 : Int → Option (Int × Int) := fput ex0 1 (100, 0)
def ex2 : Int → Option (Int × Int) := fput ex1 2 (0, 0)
def ex3 : Int → Option (Int × Int) := fput (fput ex2 1 (100 - 60 - 0, 0 + 0)) 2 (0 + 60, 0)
def ex4 : Int → Option (Int × Int) := fput (fput ex3 1 (40 - 40 - 0, 0 + 0)) 2 (60 + 40, 0)
def ex5 : Int → Option (Int × Int) := fput (fput ex2 1 (100 - 61 - 0, 0 + 0)) 2 (0 + 61, 0)
def exF : Nat → Int → Option (Int × Int) := fun k => if k = 0 then ex0 else if k = 1 then ex1 else ex2
def exG : Nat → Int → Option (Int × Int) := fun k => if k = 0 then ex2 else if k = 1 then ex3 else ex4
def exH : Nat → Int → Option (Int × Int) := fun k => if k = 0 then ex2 else if k = 1 then ex5 else ex5
def exE : Nat → Int := fun _ => 0
def exE2 : Nat → Int := fun k => if k = 0 then 0 else 146
theorem ex_r : rateOk 0 = true := by decide +kernel
theorem ex_fee : prodV 40 0 false = 0 ∧ prodV 60 0 false = 0 ∧ prodV 61 0 false = 0 := by decide +kernel
theorem ex_o1 : OpIs ex0 1 100 0 ex1 := .inr (.inr (.inr ⟨by decide, rfl, by decide, rfl, rfl⟩))
theorem ex_o2 : OpIs ex1 2 0 0 ex2 := .inr (.inr (.inr ⟨by decide, by decide, by decide, rfl, rfl⟩))
theorem ex_m1 : MvIs ex2 0 1 2 60 0 0 ex3 := .inr (.inr (.inr (.inr (.inr (.inr (.inr ⟨(100, 0), (0, 0), ⟨by decide, by decide, by decide, by decide, by decide⟩, by decide, by decide, by decide, by decide, rfl, rfl, rfl⟩))))))
theorem ex_m2 : MvIs ex3 0 1 2 40 0 0 ex4 := .inr (.inr (.inr (.inr (.inr (.inr (.inr ⟨(40, 0), (60, 0), ⟨by decide, by decide, by decide, by decide, by decide⟩, by decide, by decide, by decide, by decide, rfl, rfl, rfl⟩))))))
theorem ex_m3 : MvIs ex2 0 1 2 61 0 0 ex5 := .inr (.inr (.inr (.inr (.inr (.inr (.inr ⟨(100, 0), (0, 0), ⟨by decide, by decide, by decide, by decide, by decide⟩, by decide, by decide, by decide, by decide, rfl, rfl, rfl⟩))))))
theorem ex_m4 : MvIs ex5 0 1 2 40 0 146 ex5 := .inr (.inr (.inr (.inr (.inl ⟨(39, 0), ⟨by decide, by decide, by decide, by decide, by decide⟩, by decide, by decide, rfl, rfl, rfl⟩))))
theorem ex_F : OpRuns exO exF := by
  refine ⟨rfl, fun k h => ?_⟩
  rcases (show k = 0 ∨ k = 1 by simp [exO] at h; omega) with rfl | rfl
  · exact ⟨0, ex_o1⟩
  · exact ⟨0, ex_o2⟩
theorem ex_R (l : List VCall20) (h : l.map (fun x => (x.fate, x.tt)) = [(2, 7), (2, 6)]) : OrdL l [1, 0] := by
  obtain ⟨x, y, rfl⟩ : ∃ x y, l = [x, y] := by
    have : l.length = 2 := by simpa using congrArg List.length h
    match l, this with
    | [x, y], _ => exact ⟨x, y, rfl⟩
  simp at h
  obtain ⟨⟨h1, h2⟩, h3, h4⟩ := h
  refine ⟨?_, fun z => ⟨fun hz => ?_, ?_⟩⟩
  · simp [lexT, tOf, h2, h4]
  · simp at hz
    rcases hz with rfl | rfl
    · exact ⟨1, rfl, by simp, h3⟩
    · exact ⟨0, rfl, by simp, h1⟩
  · rintro ⟨i, rfl, hi, _⟩
    rcases (show i = 0 ∨ i = 1 by simp at hi; omega) with rfl | rfl <;> simp
theorem ex_G : MvRuns exL 0 [1, 0] exG exE := by
  intro k h
  rcases (show k = 0 ∨ k = 1 by simp at h; omega) with rfl | rfl
  · exact ⟨0, by show MvIs ex2 (prodV 60 0 false) 1 2 60 0 0 ex3; rw [ex_fee.2.1]; exact ex_m1⟩
  · exact ⟨0, by show MvIs ex3 (prodV 40 0 false) 1 2 40 0 0 ex4; rw [ex_fee.1]; exact ex_m2⟩
theorem ex_H : MvRuns exM 0 [1, 0] exH exE2 := by
  intro k h
  rcases (show k = 0 ∨ k = 1 by simp at h; omega) with rfl | rfl
  · exact ⟨0, by show MvIs ex2 (prodV 61 0 false) 1 2 61 0 0 ex5; rw [ex_fee.2.2]; exact ex_m3⟩
  · exact ⟨0, by show MvIs ex5 (prodV 40 0 false) 1 2 40 0 146 ex5; rw [ex_fee.1]; exact ex_m4⟩
theorem ex_opd : ∀ j, j < exO.length → badO exO j = false := by
  intro j h
  rcases (show j = 0 ∨ j = 1 by simp [exO] at h; omega) with rfl | rfl <;> decide +kernel
theorem ex_cls : ∀ j, j < exL.length → wrong exL j = 0 := by
  intro j h
  rcases (show j = 0 ∨ j = 1 by simp [exL] at h; omega) with rfl | rfl <;> decide +kernel
theorem ex_cls2 : ∀ j, j < exM.length → wrong exM j = 0 := by
  intro j h
  rcases (show j = 0 ∨ j = 1 by simp [exM] at h; omega) with rfl | rfl <;> decide +kernel
theorem ex_tie : tie exL [1, 0] 0 = false ∧ tie exL [1, 0] 1 = false ∧ tie exM [1, 0] 0 = false ∧ tie exM [1, 0] 1 = false := by decide +kernel
theorem ex_fine : Fine 0 exO exL [1, 0] exE := by
  refine ⟨ex_r, ex_opd, ex_cls, fun j h => ?_⟩
  rcases (show j = 0 ∨ j = 1 by simp at h; omega) with rfl | rfl
  · exact ⟨ex_tie.1, rfl⟩
  · exact ⟨ex_tie.2.1, rfl⟩
theorem ex_bad {V E : Int} (h : ChkSpec 0 exO exM [1, 0] exE2 V E) : V = 0 ∧ E = 216 := by
  rcases h with ⟨h, _⟩ | ⟨_, h1, h2, _⟩ | ⟨_, _, h1, h2⟩ | ⟨_, _, _, h⟩
  · rw [ex_r] at h; cases h
  · have := opd_fine h2 ex_opd; omega
  · exact absurd (cls_fine h1 ex_cls2).2 h2
  · rcases h with ⟨k, hk, h0, hV, h⟩ | ⟨h, _, _⟩
    · rcases (show k = 0 ∨ k = 1 by simp at hk; omega) with rfl | rfl
      · rcases h with ⟨h, _⟩ | ⟨_, h, _⟩
        · rw [ex_tie.2.2.1] at h; cases h
        · exact absurd rfl h
      · rcases h with ⟨h, _⟩ | ⟨_, _, h⟩
        · rw [ex_tie.2.2.2] at h; cases h
        · exact ⟨hV, h⟩
    · exact absurd (h 1 (by decide)).2 (by decide)
theorem ex_upto : UpTo exL [1, 0] 6 1 := by
  refine ⟨by decide, fun j h => ?_, fun j h1 h2 => ?_⟩
  · obtain rfl : j = 0 := by omega
    decide
  · obtain rfl : j = 1 := by simp at h2; omega
    decide
theorem ex_ents : ents ex3 = [(1, 40), (2, 60)] := by decide +kernel
theorem ex_ok (w : World) : (∀ u ∈ exO, VEntry.ok w u) ∧ (∀ u ∈ exL, VCall20.ok w u) ∧ ∀ u ∈ exM, VCall20.ok w u := by
  refine ⟨?_, ?_, ?_⟩
  · intro u hu
    simp [exO] at hu
    rcases hu with rfl | rfl <;> exact ⟨by decide, by decide⟩
  · intro u hu
    simp [exL] at hu
    rcases hu with rfl | rfl <;> exact ⟨by decide, by decide, by decide, by decide, by decide, by decide, by decide, by decide⟩
  · intro u hu
    simp [exM] at hu
    rcases hu with rfl | rfl <;> exact ⟨by decide, by decide, by decide, by decide, by decide, by decide, by decide, by decide⟩
theorem ex_check (w : World) (g h : Nat) (H1 : Blk w g 42 #[.int .i64 1, .int .i64 100, .int .i64 2, .int .i64 0]) (H2 : Blk w h 36 #[.int .i64 7, .int .i64 1, .int .i64 2, .int .i64 40, .int .i64 5, .int .i64 9, .int .i64 2, .int .i64 7, .int .i64 8, .int .i64 1, .int .i64 2, .int .i64 60, .int .i64 5, .int .i64 9, .int .i64 2, .int .i64 6]) :
    Calls Tryz.prog 7 #[.float .f64 0, .slice (some ⟨g, 0, none⟩) 2 2, .slice (some ⟨h, 0, none⟩) 2 2] w fun e w' => e = .returned (.tuple #[.int .i64 2, .int .i64 0]) ∧ Below w.heap.size w w' := by
  refine (check_any 0 (some ⟨g, 0, none⟩) (some ⟨h, 0, none⟩) 2 2 exO exL exF [1, 0] exG exE w (by decide) (reads_blk H1 rfl rfl) (ex_ok w).1 (by decide) (reads_blk H2 rfl rfl) (ex_ok w).2.1 (by decide) (by decide) ex_F (ex_R exL rfl) rfl ex_G).mono ?_
  rintro e w' ⟨V, E, rfl, hs, hb⟩
  obtain ⟨rfl, rfl⟩ := chk_of_fine hs ex_fine
  exact ⟨rfl, hb⟩
theorem ex_check2 (w : World) (g h : Nat) (H1 : Blk w g 42 #[.int .i64 1, .int .i64 100, .int .i64 2, .int .i64 0]) (H2 : Blk w h 36 #[.int .i64 7, .int .i64 1, .int .i64 2, .int .i64 40, .int .i64 5, .int .i64 9, .int .i64 2, .int .i64 7, .int .i64 8, .int .i64 1, .int .i64 2, .int .i64 61, .int .i64 5, .int .i64 9, .int .i64 2, .int .i64 6]) :
    Calls Tryz.prog 7 #[.float .f64 0, .slice (some ⟨g, 0, none⟩) 2 2, .slice (some ⟨h, 0, none⟩) 2 2] w fun e w' => e = .returned (.tuple #[.int .i64 0, .int .i64 216]) ∧ Below w.heap.size w w' := by
  refine (check_any 0 (some ⟨g, 0, none⟩) (some ⟨h, 0, none⟩) 2 2 exO exM exF [1, 0] exH exE2 w (by decide) (reads_blk H1 rfl rfl) (ex_ok w).1 (by decide) (reads_blk H2 rfl rfl) (ex_ok w).2.2 (by decide) (by decide) ex_F (ex_R exM rfl) rfl ex_H).mono ?_
  rintro e w' ⟨V, E, rfl, hs, hb⟩
  obtain ⟨rfl, rfl⟩ := ex_bad hs
  exact ⟨rfl, hb⟩
theorem ex_order (w : World) (h : Nat) (H2 : Blk w h 36 #[.int .i64 7, .int .i64 1, .int .i64 2, .int .i64 40, .int .i64 5, .int .i64 9, .int .i64 2, .int .i64 7, .int .i64 8, .int .i64 1, .int .i64 2, .int .i64 60, .int .i64 5, .int .i64 9, .int .i64 2, .int .i64 6]) :
    Calls Tryz.prog 12 #[.slice (some ⟨h, 0, none⟩) 2 2] w fun e w' => ∃ ad c, e = .returned (.slice (some ad) 2 c) ∧ w'.cell? ad = some (.int .i64 1) ∧ w.heap.size ≤ ad.block ∧ Below w.heap.size w w' := by
  refine (order_any (some ⟨h, 0, none⟩) 2 exL w (reads_blk H2 rfl rfl) (by decide)).mono ?_
  rintro e w' ⟨O, cap, R', rfl, hro, _, hrd, hfr, hb⟩
  obtain rfl := (ex_R exL rfl).unique hro
  obtain ⟨ad, rfl, _, hc⟩ := hrd.2 (by decide)
  have h0 := hc 0 (.int .i64 1) rfl
  unfold Addr.add at h0
  exact ⟨ad, cap, rfl, h0, hfr ad rfl, hb⟩
theorem ex_at (w : World) (g h : Nat) (H1 : Blk w g 42 #[.int .i64 1, .int .i64 100, .int .i64 2, .int .i64 0]) (H2 : Blk w h 36 #[.int .i64 7, .int .i64 1, .int .i64 2, .int .i64 40, .int .i64 5, .int .i64 9, .int .i64 2, .int .i64 7, .int .i64 8, .int .i64 1, .int .i64 2, .int .i64 60, .int .i64 5, .int .i64 9, .int .i64 2, .int .i64 6]) :
    Calls Tryz.prog 10 #[.float .f64 0, .slice (some ⟨g, 0, none⟩) 2 2, .slice (some ⟨h, 0, none⟩) 2 2, .int .i64 6] w fun e w' => ∃ ad c, e = .returned (.tuple #[.slice (some ad) 2 c, .int .i64 0]) ∧ w'.cell? ⟨ad.block, ad.off + 1, none⟩ = some (.int .i64 40) ∧ w'.cell? ⟨ad.block, ad.off + 2 + 1, none⟩ = some (.int .i64 60) ∧ w'.cell? ⟨ad.block, ad.off + 3, none⟩ = some (.int .i64 60) ∧ w.heap.size ≤ ad.block ∧ Below w.heap.size w w' := by
  refine (at_any 0 (some ⟨g, 0, none⟩) (some ⟨h, 0, none⟩) 2 2 exO exL exF [1, 0] exG exE 6 1 w (by decide) (reads_blk H1 rfl rfl) (ex_ok w).1 (by decide) (reads_blk H2 rfl rfl) (ex_ok w).2.1 (by decide) (by decide) ex_F (ex_R exL rfl) rfl ex_G ex_upto).mono ?_
  rintro e w' ⟨A, c, L, E, rfl, hr, hs, hfr, hb⟩
  obtain ⟨rfl, rfl⟩ : E = 0 ∧ L = [(1, 40), (2, 60)] := by
    rcases hs with ⟨V, h1, h2, _⟩ | ⟨V, h1, ⟨h2, _⟩ | ⟨_, h2, h3⟩⟩
    · exact absurd (chk_of_fine h1 ex_fine).2 h2
    · cases h2
    · exact ⟨h2, h3.trans ex_ents⟩
  obtain ⟨ad, rfl, _, hc⟩ := hr.2 (by decide)
  have h1 := hc 1 (.int .i64 40) rfl
  have h3 := hc 3 (.int .i64 60) rfl
  unfold Addr.add at h1 h3
  exact ⟨ad, c, rfl, h1, h3, h3, hfr ad rfl, hb⟩
set_option maxRecDepth 100000 in
set_option maxHeartbeats 4000000 in
theorem awake20_any (w : World) : Calls Tryz.prog 6 #[] w fun e w' => e = .returned (.bool true) ∧ Below w.heap.size w w' := by
  go_enter Tryz.func6, Tryz.ntmps6
  go_wp2_with fail
  have O0 := Lib.hid ((Blk.new w 42 #[.int .i64 1, .int .i64 100, .int .i64 2, .int .i64 0]).alloc (.cells #[.int .i64 7, .int .i64 1, .int .i64 2, .int .i64 40, .int .i64 5, .int .i64 9, .int .i64 2, .int .i64 7, .int .i64 8, .int .i64 1, .int .i64 2, .int .i64 60, .int .i64 5, .int .i64 9, .int .i64 2, .int .i64 6] 36))
  have L0 : Hid (Blk ((w.alloc (.cells #[.int .i64 1, .int .i64 100, .int .i64 2, .int .i64 0] 42)).alloc (.cells #[.int .i64 7, .int .i64 1, .int .i64 2, .int .i64 40, .int .i64 5, .int .i64 9, .int .i64 2, .int .i64 7, .int .i64 8, .int .i64 1, .int .i64 2, .int .i64 60, .int .i64 5, .int .i64 9, .int .i64 2, .int .i64 6] 36)) (w.heap.size + 1) 36 _) := Lib.hid (Blk.new' (by simp))
  have W0 : Hid (Below w.heap.size w ((w.alloc (.cells #[.int .i64 1, .int .i64 100, .int .i64 2, .int .i64 0] 42)).alloc (.cells #[.int .i64 7, .int .i64 1, .int .i64 2, .int .i64 40, .int .i64 5, .int .i64 9, .int .i64 2, .int .i64 7, .int .i64 8, .int .i64 1, .int .i64 2, .int .i64 60, .int .i64 5, .int .i64 9, .int .i64 2, .int .i64 6] 36))) := Lib.hid (by repeat (first | exact Below.refl _ _ | refine below_alloc_ ?_ _ | refine Below.drew ?_))
  refine (ex_check _ _ _ O0.out L0.out).mono ?_
  rintro e w1 ⟨rfl, hb⟩
  have O1 := Lib.hid (blk_pass O0.out (Below.refl _ _) hb); have L1 := Lib.hid (blk_pass L0.out (Below.refl _ _) hb); have W1 := Lib.hid (below_then W0.out hb)
  clear hb
  go_wp2_with fail
  refine (ex_order _ _ L1.out).mono ?_
  rintro e w2 ⟨a2, c2, rfl, o0, hf2, hb⟩
  have n2 : a2.block ≠ w.heap.size + 1 := by have := L1.out.lt; omega
  have O2 := Lib.hid (blk_pass O1.out (Below.refl _ _) hb); have L2 := Lib.hid (blk_pass L1.out (Below.refl _ _) hb); have W2 := Lib.hid (below_then W1.out hb)
  have q2 := World.block_lt_of_cell? w2 _ o0
  clear hb O0 O1 L0 L1 W0 W1
  go_wp2_with fail
  refine (ex_at _ _ _ O2.out L2.out).mono ?_
  rintro e w3 ⟨a3, c3, rfl, s1, s2, s3, hf3, hb⟩
  have n3 : a3.block ≠ w.heap.size + 1 := by have := L2.out.lt; omega
  have O3 := Lib.hid (blk_pass O2.out (Below.refl _ _) hb); have L3 := Lib.hid (blk_pass L2.out (Below.refl _ _) hb); have W3 := Lib.hid (below_then W2.out hb)
  replace o0 := below_cell o0 hb
  have lz := L3.out.lt
  have f11 := L3.out.frozen 11
  have c11 : w3.cell? ⟨w.heap.size + 1, 11, none⟩ = some (.int .i64 60) := (L3.out.cell 11).trans rfl
  clear hb O2 L2 W2
  go_wp2_with fail
  have O4 := Lib.hid (Blk.far O3.out (p := ⟨w.heap.size + 1, 11, none⟩) (Nat.ne_of_lt (Nat.lt_succ_self _)) (.int .i64 61))
  have L4 := Lib.hid (blk_upd (i := 11) (u := .int .i64 61) L3.out rfl)
  have W4 := Lib.hid (below_set_ W3.out (p := ⟨w.heap.size + 1, 11, none⟩) (Nat.le_succ _) (.int .i64 61))
  refine (ex_check2 _ _ _ O4.out L4.out).mono ?_
  rintro e w5 ⟨rfl, hb⟩
  have W5 := Lib.hid (below_then W4.out hb)
  replace o0 := below_cell (cs_far o0 (q := ⟨w.heap.size + 1, 11, none⟩) n2 _) hb
  replace s1 := below_cell (cs_far s1 (q := ⟨w.heap.size + 1, 11, none⟩) n3 _) hb
  replace s2 := below_cell (cs_far s2 (q := ⟨w.heap.size + 1, 11, none⟩) n3 _) hb
  replace s3 := below_cell (cs_far s3 (q := ⟨w.heap.size + 1, 11, none⟩) n3 _) hb
  go_wp2_with fail
  go_ret
  exact ⟨rfl, W5.out⟩
end Go.Proofs.YtjhhpcjnhjbpdaaGreat

/- Words for the laws of the story. -/
set_option linter.unusedSimpArgs false
set_option linter.unusedVariables false
namespace Go.Proofs.YtjhhpcjnhjbpdaaGreat
open Go.RowKit Mo
/-- a story's slices, as they lie in memory -/
structure StIn (w : World) (r : Nat) (A : Option Addr) (c : Nat) (ops : List VEntry) (B : Option Addr) (d : Nat) (l : List VCall20) : Prop where
  hr : r < 18446744073709551616
  ha : Reads w w.heap.size 2 A ops.length (ops.flatMap VEntry.cells)
  hx : ∀ u ∈ ops, VEntry.ok w u
  hl : ops.length ≤ 20
  hb : Reads w w.heap.size 8 B l.length (l.flatMap VCall20.cells)
  hx2 : ∀ u ∈ l, VCall20.ok w u
  hl2 : l.length ≤ 40
  hlc : l.length ≤ d
theorem StIn.mk' {w : World} {r : Nat} (hwr : (Lit.float .f64 r).wf = true) {A : Option Addr} {c : Nat} {ops : List VEntry} (ha : SlOk w 2 A c (ops.flatMap VEntry.cells)) (hx : ∀ u ∈ ops, VEntry.ok w u) {B : Option Addr} {d : Nat} {l : List VCall20} (hb : SlOk w 8 B d (l.flatMap VCall20.cells)) (hlc : l.length ≤ d) (hx2 : ∀ u ∈ l, VCall20.ok w u) (h1 : ops.length ≤ 20) (h2 : l.length ≤ 40) : StIn w r A c ops B d l :=
  ⟨by simpa [Lit.wf] using hwr, ha.reads (n := ops.length) (flatMap_len _ _ 2 (fun _ => rfl)) (by decide), hx, h1, hb.reads (n := l.length) (flatMap_len _ _ 8 (fun _ => rfl)) (by decide), hx2, h2, hlc⟩
/-- what a story comes to -/
structure StRun (r : Nat) (ops : List VEntry) (l : List VCall20) (F : Nat → Int → Option (Int × Int)) (R : List Int) (G : Nat → Int → Option (Int × Int)) (EE : Nat → Int) : Prop where
  f : OpRuns ops F
  o : OrdL l R
  g0 : G 0 = F ops.length
  g : MvRuns l r R G EE
theorem stRun_ex (r : Nat) (ops : List VEntry) (l : List VCall20) : ∃ F R G EE, StRun r ops l F R G EE := by
  obtain ⟨F, hF⟩ := opRuns_of ops
  obtain ⟨R, hR⟩ := ordL_exists l
  obtain ⟨G, EE, h0, hG⟩ := mvRuns_of l r R (F ops.length)
  exact ⟨F, R, G, EE, hF, hR, h0, hG⟩
theorem StIn.check {w W : World} {r : Nat} {A : Option Addr} {c : Nat} {ops : List VEntry} {B : Option Addr} {d : Nat} {l : List VCall20} {F : Nat → Int → Option (Int × Int)} {R : List Int} {G : Nat → Int → Option (Int × Int)} {EE : Nat → Int} (h : StIn w r A c ops B d l) (k : StRun r ops l F R G EE) (hw : Below w.heap.size w W) :
    Calls Tryz.prog 7 #[.float .f64 r, .slice A ops.length c, .slice B l.length d] W (ChkPost r ops l R EE W) :=
  check_any r A B c d ops l F R G EE W h.hr ((h.ha.below hw).more hw.size) h.hx (by have := h.hl; omega) ((h.hb.below hw).more hw.size) h.hx2 (by have := h.hl2; omega) h.hlc k.f k.o k.g0 k.g
theorem StIn.at {w W : World} {r : Nat} {A : Option Addr} {c : Nat} {ops : List VEntry} {B : Option Addr} {d : Nat} {l : List VCall20} {F : Nat → Int → Option (Int × Int)} {R : List Int} {G : Nat → Int → Option (Int × Int)} {EE : Nat → Int} (h : StIn w r A c ops B d l) (k : StRun r ops l F R G EE) (hw : Below w.heap.size w W) {t : Int} {k0 : Nat} (hk : UpTo l R t k0) :
    Calls Tryz.prog 10 #[.float .f64 r, .slice A ops.length c, .slice B l.length d, .int .i64 t] W (AtPost r ops l R EE G t k0 W) :=
  at_any r A B c d ops l F R G EE t k0 W h.hr ((h.ha.below hw).more hw.size) h.hx (by have := h.hl; omega) ((h.hb.below hw).more hw.size) h.hx2 (by have := h.hl2; omega) h.hlc k.f k.o k.g0 k.g hk
theorem few_t (r : Nat) (A B : Option Addr) (n c m d : Nat) (w : World) (h1 : n ≤ 20) (h2 : m ≤ 40) : Calls Tryz.prog 5 #[.agg #[.float .f64 r, .slice A n c, .slice B m d]] w fun e w' => e = .returned (.bool true) ∧ Below w.heap.size w w' := by
  have d1 : decide ((n : Int) ≤ 20) = true := by simp; omega
  have d2 : decide ((m : Int) ≤ 40) = true := by simp; omega
  go_enter Tryz.func5, Tryz.ntmps5
  go_wp2_with fail
  go_ret
  exact ⟨rfl, by repeat (first | exact Below.refl _ _ | refine below_alloc_ ?_ _ | refine Below.drew ?_)⟩
theorem few_f (r : Nat) (A B : Option Addr) (n c m d : Nat) (w : World) (h : ¬ (n ≤ 20 ∧ m ≤ 40)) : Calls Tryz.prog 5 #[.agg #[.float .f64 r, .slice A n c, .slice B m d]] w fun e w' => e = .returned (.bool false) ∧ Below w.heap.size w w' := by
  by_cases h1 : n ≤ 20
  · have d1 : decide ((n : Int) ≤ 20) = true := by simp; omega
    have d2 : decide ((m : Int) ≤ 40) = false := by simp; omega
    clear h
    go_enter Tryz.func5, Tryz.ntmps5
    go_wp2_with fail
    go_ret
    exact ⟨rfl, by repeat (first | exact Below.refl _ _ | refine below_alloc_ ?_ _ | refine Below.drew ?_)⟩
  · have d1 : decide ((n : Int) ≤ 20) = false := by simp; omega
    clear h
    go_enter Tryz.func5, Tryz.ntmps5
    go_wp2_with fail
    go_ret
    exact ⟨rfl, by repeat (first | exact Below.refl _ _ | refine below_alloc_ ?_ _ | refine Below.drew ?_)⟩
/-- all that happened stand in the order -/
theorem OrdL.lenEq {l : List VCall20} {R : List Int} (h : OrdL l R) : R.length = (cmt l l.length).length := by
  have hn : (cmt l l.length).Nodup := (cmt_rise l l.length).imp (fun h => by omega)
  exact ((List.perm_ext_iff_of_nodup h.nodup hn).2 fun x => by rw [h.mem, cmt_mem]).length_eq
/-- the times of a call with which nothing is wrong -/
theorem wrong_time {l : List VCall20} {i : Nat} (hi : i < l.length) (h : wrong l i = 0) (hf : l[i].fate = 2) : l[i].fr < l[i].tt ∧ l[i].tt < l[i].too := by
  unfold wrong at h
  rw [List.getElem?_eq_getElem hi] at h
  dsimp only at h
  split at h
  · omega
  · split at h
    · omega
    · split at h
      · omega
      · rename_i h3
        simp only [hf, true_and, not_or, Int.not_le] at h3
        exact h3
theorem call_at8 {w wr : World} {ad : Addr} {xs : List VCall20} (hb : Below w.heap.size w wr) (ha : ad.block < w.heap.size) (h : ∀ j u, (xs.flatMap VCall20.cells)[j]? = some u → w.cell? (ad.add j) = some u) (k : Nat) (hk : k < xs.length) :
    wr.cell? (ad.add (k * 8)) = some (.int .i64 xs[k].x_id) ∧ wr.cell? ⟨(ad.add (k * 8)).block, (ad.add (k * 8)).off + 1, none⟩ = some (.int .i64 xs[k].x_xf) ∧ wr.cell? ⟨(ad.add (k * 8)).block, (ad.add (k * 8)).off + 2, none⟩ = some (.int .i64 xs[k].x_xt) ∧ wr.cell? ⟨(ad.add (k * 8)).block, (ad.add (k * 8)).off + 3, none⟩ = some (.int .i64 xs[k].x_xn) ∧ wr.cell? ⟨(ad.add (k * 8)).block, (ad.add (k * 8)).off + 4, none⟩ = some (.int .i64 xs[k].fr) ∧ wr.cell? ⟨(ad.add (k * 8)).block, (ad.add (k * 8)).off + 5, none⟩ = some (.int .i64 xs[k].too) ∧ wr.cell? ⟨(ad.add (k * 8)).block, (ad.add (k * 8)).off + 6, none⟩ = some (.int .i64 xs[k].fate) ∧ wr.cell? ⟨(ad.add (k * 8)).block, (ad.add (k * 8)).off + 7, none⟩ = some (.int .i64 xs[k].tt) := by
  have q := calls_at h k hk
  have q0 := q 0 (by omega); have q1 := q 1 (by omega); have q2 := q 2 (by omega); have q3 := q 3 (by omega); have q4 := q 4 (by omega); have q5 := q 5 (by omega); have q6 := q 6 (by omega); have q7 := q 7 (by omega)
  simp only [VCall20.cells, List.getElem_cons_zero, List.getElem_cons_succ, Nat.add_zero] at q0 q1 q2 q3 q4 q5 q6 q7
  replace q1 := cell_in _ 1 (by omega) q1; replace q2 := cell_in _ 2 (by omega) q2; replace q3 := cell_in _ 3 (by omega) q3; replace q4 := cell_in _ 4 (by omega) q4; replace q5 := cell_in _ 5 (by omega) q5; replace q6 := cell_in _ 6 (by omega) q6; replace q7 := cell_in _ 7 (by omega) q7
  have bl : (ad.add (k * 8)).block < w.heap.size := by rw [block_of_add]; exact ha
  exact ⟨cellB hb bl q0, cellB hb bl q1, cellB hb bl q2, cellB hb bl q3, cellB hb bl q4, cellB hb bl q5, cellB hb bl q6, cellB hb bl q7⟩
theorem Blk.c8 {w : World} {g : Nat} {t : TypeId} {a0 a1 a2 a3 a4 a5 a6 a7 : Value} (h : Blk w g t #[a0, a1, a2, a3, a4, a5, a6, a7]) :
    w.cell? ⟨g, 0, none⟩ = some a0 ∧ w.cell? ⟨g, 1, none⟩ = some a1 ∧ w.cell? ⟨g, 2, none⟩ = some a2 ∧ w.cell? ⟨g, 3, none⟩ = some a3 ∧ w.cell? ⟨g, 4, none⟩ = some a4 ∧ w.cell? ⟨g, 5, none⟩ = some a5 ∧ w.cell? ⟨g, 6, none⟩ = some a6 ∧ w.cell? ⟨g, 7, none⟩ = some a7 :=
  ⟨h.cell 0, h.cell 1, h.cell 2, h.cell 3, h.cell 4, h.cell 5, h.cell 6, h.cell 7⟩
end Go.Proofs.YtjhhpcjnhjbpdaaGreat
