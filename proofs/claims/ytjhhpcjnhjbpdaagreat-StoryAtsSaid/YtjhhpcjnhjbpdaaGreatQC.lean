/- Joined: SoJ, SoK, SoV, SoL. -/
import Derived.Test.YtjhhpcjnhjbpdaaGreatQB
import Derived.Test.YtjhhpcjnhjbpdaaGreatOpen20
/- The calls' order: the closure. -/
set_option linter.unusedSimpArgs false
set_option linter.unusedVariables false
namespace Go.Proofs.YtjhhpcjnhjbpdaaGreat
open Go.RowKit
set_option maxRecDepth 100000 in
theorem compare_any (x y : Int) (w : World) : Calls Tryz.prog 30 #[.int .i64 x, .int .i64 y] w fun e w' => e = .returned (.int .i64 (cmp3 x y)) ∧ w' = w := by
  have n1 : (x != x) = false := by simp
  have n2 : (y != y) = false := by simp
  rcases Int.lt_trichotomy x y with h | h | h
  · have d : decide (x < y) = true := by simpa using h
    have e : cmp3 x y = -1 := by unfold cmp3; rw [if_pos h]
    rw [e]
    clear e
    go_enter Tryz.func30, Tryz.ntmps30
    go_wp2
    go_ret
    exact ⟨rfl, rfl⟩
  · have d : decide (x < y) = false := by simp; omega
    have d2 : decide (y < x) = false := by simp; omega
    have e : cmp3 x y = 0 := by unfold cmp3; rw [if_neg (by omega), if_neg (by omega)]
    rw [e]
    clear e h
    go_enter Tryz.func30, Tryz.ntmps30
    go_wp2
    go_ret
    exact ⟨rfl, rfl⟩
  · have d : decide (x < y) = false := by simp; omega
    have d2 : decide (y < x) = true := by simp; omega
    have e : cmp3 x y = 1 := by unfold cmp3; rw [if_neg (by omega), if_pos h]
    rw [e]
    clear e
    go_enter Tryz.func30, Tryz.ntmps30
    go_wp2
    go_ret
    exact ⟨rfl, rfl⟩
/-- a call's stamp, by its place -/
def tOf (l : List VCall20) (e : Int) : Int := ((l[e.toNat]?).map VCall20.tt).getD 0
theorem tOf_at {l : List VCall20} {i : Nat} (h : i < l.length) : tOf l (i : Int) = l[i].tt := by
  unfold tOf
  rw [Int.toNat_natCast, List.getElem?_eq_getElem h]
  rfl
/-- the calls, behind a variable of their own -/
structure LEnv (bx B0 : Nat) (A : Option Addr) (c : Nat) (l : List VCall20) (W : World) : Prop where
  cell : W.cell? ⟨bx, 0, none⟩ = some (.slice A l.length c)
  reads : Reads W B0 8 A l.length (l.flatMap VCall20.cells)
theorem LEnv.env {bx B0 g : Nat} {A : Option Addr} {c : Nat} {l : List VCall20} (h1 : bx < g) (h2 : B0 ≤ g) : Env g (LEnv bx B0 A c l) := by
  refine ⟨fun W i v h => ⟨?_, h.reads.setCell h2 v⟩, fun W k h => ⟨h.cell, h.reads.drewN k⟩⟩
  rw [World.cell?_setCell_other W _ _ _ (fun e => by have := congrArg Addr.block e; simp at this; omega)]
  exact h.cell
theorem calls_at {W : World} {ad : Addr} {xs : List VCall20} (h : ∀ j u, (xs.flatMap VCall20.cells)[j]? = some u → W.cell? (ad.add j) = some u) (k : Nat) (hk : k < xs.length) (j : Nat) (hj : j < 8) : W.cell? (ad.add (k * 8 + j)) = some (xs[k].cells[j]'(by exact hj)) :=
  h (k * 8 + j) _ ((flatMap_at xs VCall20.cells 8 (fun _ => rfl) k j hk hj).trans (List.getElem?_eq_getElem (by exact hj)))
set_option maxRecDepth 100000 in
theorem closure_any (bx B0 : Nat) (A : Option Addr) (c : Nat) (l : List VCall20) (hl : l.length ≤ 100000) (i j : Nat) (hi : i < l.length) (hj : j < l.length) (W : World) (h : LEnv bx B0 A c l W) :
    Calls Tryz.prog 29 #[.int .i64 i, .int .i64 j, .pointer (some ⟨bx, 0, none⟩)] W fun e w' => e = .returned (.int .i64 (cmp3 (tOf l i) (tOf l j))) ∧ ∃ q, w' = W.drewN q := by
  obtain ⟨ad, hA, _, hcell⟩ := h.reads.2 (by omega)
  have c0 := h.cell
  subst hA
  have q0 := calls_at hcell i hi 7 (by omega)
  have q1 := calls_at hcell j hj 7 (by omega)
  simp only [VCall20.cells, List.getElem_cons_zero, List.getElem_cons_succ] at q0 q1
  replace q0 := cell_in _ 7 (by omega) q0; replace q1 := cell_in _ 7 (by omega) q1
  rw [tOf_at hi, tOf_at hj]
  generalize l[i].tt = x at *
  generalize l[j].tt = y at *
  have g0 : (i : Int) < (l.length : Int) := by omega
  have g1 : (j : Int) < (l.length : Int) := by omega
  clear hcell h
  go_enter Tryz.func29, Tryz.ntmps29
  go_wp2_with fail
  go_quiet ((go_at_call 30; with_reducible exact Calls.quiet_of_same (compare_any x y _)))
  go_wp2_with fail
  go_ret
  exact ⟨rfl, _, rfl⟩
theorem closure_cmp (bx B0 : Nat) (A : Option Addr) (c : Nat) (l : List VCall20) (hl : l.length ≤ 100000) : Cmp bx (tOf l) (fun e => ∃ i : Nat, e = i ∧ i < l.length) (LEnv bx B0 A c l) := by
  refine ⟨fun W x y hI hx hy => ?_⟩
  obtain ⟨i, rfl, hi⟩ := hx
  obtain ⟨j, rfl, hj⟩ := hy
  exact closure_any bx B0 A c l hl i j hi hj W hI
end Go.Proofs.YtjhhpcjnhjbpdaaGreat

/- The calls' order: Order. -/
set_option linter.unusedSimpArgs false
set_option linter.unusedVariables false
namespace Go.Proofs.YtjhhpcjnhjbpdaaGreat
open Go.RowKit
/-- the places of those that happened, among the first k -/
def cmt (l : List VCall20) (k : Nat) : List Int := ((List.range k).filter (fun i => ((l[i]?).map VCall20.fate) == some 2)).map (fun i : Nat => (i : Int))
theorem cmt_succ1 {l : List VCall20} {k : Nat} (hk : k < l.length) (h : l[k].fate = 2) : cmt l (k + 1) = cmt l k ++ [(k : Int)] := by
  unfold cmt
  rw [List.range_succ, List.filter_append]
  simp [List.getElem?_eq_getElem hk, h]
theorem cmt_succ0 {l : List VCall20} {k : Nat} (hk : k < l.length) (h : l[k].fate ≠ 2) : cmt l (k + 1) = cmt l k := by
  unfold cmt
  rw [List.range_succ, List.filter_append]
  simp [List.getElem?_eq_getElem hk, h]
theorem cmt_len (l : List VCall20) (k : Nat) : (cmt l k).length ≤ k := by
  unfold cmt
  rw [List.length_map]
  exact Nat.le_trans (List.length_filter_le _ _) (by rw [List.length_range]; exact Nat.le_refl _)
theorem cmt_mem {l : List VCall20} {x : Int} : x ∈ cmt l l.length ↔ ∃ i : Nat, x = i ∧ ∃ h : i < l.length, l[i].fate = 2 := by
  unfold cmt
  rw [List.mem_map]
  constructor
  · rintro ⟨i, hi, rfl⟩
    rw [List.mem_filter, List.mem_range] at hi
    obtain ⟨h1, h2⟩ := hi
    rw [List.getElem?_eq_getElem h1] at h2
    exact ⟨i, rfl, h1, by simpa using h2⟩
  · rintro ⟨i, rfl, h1, h2⟩
    exact ⟨i, by rw [List.mem_filter, List.mem_range, List.getElem?_eq_getElem h1]; exact ⟨h1, by simpa using h2⟩, rfl⟩
theorem cmt_rise (l : List VCall20) (k : Nat) : (cmt l k).Pairwise (· < ·) := by
  unfold cmt
  rw [List.pairwise_map]
  exact ((List.pairwise_lt_range (n := k)).filter _).imp (fun h => by omega)
/-- the order of those that happened -/
structure OrdL (l : List VCall20) (R : List Int) : Prop where
  pw : R.Pairwise (lexT (tOf l))
  mem : ∀ x, x ∈ R ↔ ∃ i : Nat, x = i ∧ ∃ h : i < l.length, l[i].fate = 2
def dOf (L : List Int) (i : Nat) : Int := L.getD i 0
theorem dOf_range (L : List Int) : (List.range L.length).map (dOf L) = L := by
  apply List.ext_getElem
  · simp
  · intro i h1 h2
    simp [dOf, h2]
theorem ordL_of {l : List VCall20} {L : List Int} (hL : ∀ x, x ∈ L ↔ ∃ i : Nat, x = i ∧ ∃ h : i < l.length, l[i].fate = 2) {E : Nat → Int} (hs : Sam (dOf L) E 0 L.length) (ht : Srt (tOf l) E 0 L.length) : OrdL l ((List.range L.length).map E) := by
  refine ⟨?_, fun x => ?_⟩
  · rw [List.pairwise_map, List.pairwise_iff_getElem]
    intro i j hi hj hij
    simp only [List.getElem_range, List.length_range] at *
    exact ht i j (Nat.zero_le _) hij (by simpa using hj)
  · rw [← hL, List.mem_map]
    constructor
    · rintro ⟨i, hi, rfl⟩
      obtain ⟨p, _, p2, p3⟩ := (hs.1 (E i)).2 ⟨i, Nat.zero_le _, List.mem_range.1 hi, rfl⟩
      rw [← p3]
      unfold dOf
      rw [List.getD_eq_getElem?_getD, List.getElem?_eq_getElem p2]
      exact List.getElem_mem p2
    · intro hx
      obtain ⟨p, p2, p3⟩ := List.getElem_of_mem hx
      obtain ⟨i, _, i2, i3⟩ := (hs.1 x).1 ⟨p, Nat.zero_le _, p2, by unfold dOf; rw [List.getD_eq_getElem?_getD, List.getElem?_eq_getElem p2]; exact p3⟩
      exact ⟨i, List.mem_range.2 i2, i3⟩
set_option maxRecDepth 100000 in
theorem sorts_any (g n cap bx : Nat) (D : Nat → Int) (T : Int → Int) (S : Int → Prop) (I : World → Prop) (hE : Env g I) (hC : Cmp bx T S I) (w : World) (h : Arr w g n cap D) (hI : I w) (hn : n ≤ 100000)
    (hr : ∀ i j, i < j → j < n → D i < D j) (hS : ∀ i, i < n → S (D i)) :
    Calls Tryz.prog 28 #[.slice (some ⟨g, 0, none⟩) n cap, .func (.func 29) #[] #[.pointer (some ⟨bx, 0, none⟩)]] w (Mgd T g n cap D 0 n I w) := by
  have H0 := Lib.hid (stable_any g n cap bx D T S I hE hC w h hI hn hr hS)
  clear h hI hE hC hr hS
  go_enter Tryz.func28, Tryz.ntmps28
  go_wp2_with fail
  refine H0.out.mono ?_
  rintro x w1 ⟨E, rfl, hA, hs, ht, hI, hkk⟩
  go_wp2_with fail
  go_end0
  exact ⟨E, rfl, hA, hs, ht, hI, hkk⟩
set_option maxRecDepth 100000 in
theorem ins0_any (A : Option Addr) (cap : Nat) (fv : Value) (w : World) : Calls Tryz.prog 61 #[.slice A 0 cap, .int .i64 0, .int .i64 0, fv] w fun e w' => e = .returned (.tuple #[]) ∧ w = w' := by
  go_enter Tryz.func61, Tryz.ntmps61
  go_wp2_with fail
  refine wp_loop_rounds 1 ?_
  rw [rounds_succ]
  go_wp2_with fail
  go_end0
  exact ⟨rfl, rfl⟩
set_option maxRecDepth 100000 in
theorem sorts0_any (A : Option Addr) (cap : Nat) (fv : Value) (w : World) : Calls Tryz.prog 28 #[.slice A 0 cap, fv] w fun e w' => e = .returned (.tuple #[]) ∧ w = w' := by
  go_enter Tryz.func28, Tryz.ntmps28
  go_wp2_with fail
  have hs : Calls Tryz.prog 49 #[.slice A 0 cap, .int .i64 0, fv] w fun e w' => e = .returned (.tuple #[]) ∧ w = w' := by
    go_enter Tryz.func49, Tryz.ntmps49
    go_wp2_with fail
    refine wp_loop_rounds 1 ?_
    rw [rounds_succ]
    go_wp2_with fail
    refine (ins0_any A cap fv w).mono ?_
    rintro x w1 ⟨rfl, rfl⟩
    go_wp2_with fail
    refine wp_loop_rounds 1 ?_
    rw [rounds_succ]
    go_wp2_with fail
    go_end0
    exact ⟨rfl, rfl⟩
  refine hs.mono ?_
  rintro x w1 ⟨rfl, rfl⟩
  go_wp2_with fail
  go_end0
  exact ⟨rfl, rfl⟩
end Go.Proofs.YtjhhpcjnhjbpdaaGreat

/- The order is one, and is there. -/
set_option linter.unusedSimpArgs false
set_option linter.unusedVariables false
namespace Go.Proofs.YtjhhpcjnhjbpdaaGreat
theorem OrdL.nodup {l : List VCall20} {R : List Int} (h : OrdL l R) : R.Nodup := h.pw.imp (fun h => h.ne)
theorem OrdL.unique {l : List VCall20} {R R' : List Int} (h : OrdL l R) (h' : OrdL l R') : R = R' := by
  refine List.Perm.eq_of_pairwise (le := lexT (tOf l)) (fun a b _ _ h1 h2 => absurd h2 h1.asymm) h.pw h'.pw ?_
  exact (List.perm_ext_iff_of_nodup h.nodup h'.nodup).2 fun x => by rw [h.mem, h'.mem]
theorem ordL_exists (l : List VCall20) : ∃ R, OrdL l R := by
  let le : Int → Int → Bool := fun x y => decide (tOf l x < tOf l y) || (decide (tOf l x = tOf l y) && decide (x ≤ y))
  have tr : ∀ a b c : Int, le a b = true → le b c = true → le a c = true := fun a b c h1 h2 => by simp only [le, Bool.or_eq_true, Bool.and_eq_true, decide_eq_true_eq] at *; omega
  have tl : ∀ a b : Int, (le a b || le b a) = true := fun a b => by simp only [le, Bool.or_eq_true, Bool.and_eq_true, decide_eq_true_eq]; omega
  have hp := List.mergeSort_perm (cmt l l.length) le
  have hn : ((cmt l l.length).mergeSort le).Nodup := hp.nodup_iff.2 ((cmt_rise l l.length).imp (fun h => by omega))
  refine ⟨(cmt l l.length).mergeSort le, ?_, fun x => by rw [hp.mem_iff, cmt_mem]⟩
  have hs := List.pairwise_mergeSort tr tl (cmt l l.length)
  refine (hs.and hn).imp ?_
  rintro a b ⟨h1, h2⟩
  simp only [le, Bool.or_eq_true, Bool.and_eq_true, decide_eq_true_eq] at h1
  unfold lexT
  omega
end Go.Proofs.YtjhhpcjnhjbpdaaGreat

/- The calls' order: Order, walked. -/
set_option linter.unusedSimpArgs false
set_option linter.unusedVariables false
namespace Go.Proofs.YtjhhpcjnhjbpdaaGreat
open Go.RowKit
theorem info_it : (Tryz.prog.info? 3).map (fun i => (i.zero, i.size, i.bytes)) = some (some (.int .i64 0), 1, 8) := by kernel_rfl
theorem one_it (L : List Int) : ∀ u ∈ L.map (Value.int .i64), u.oneCell' = true := by
  intro u hu
  obtain ⟨x, _, rfl⟩ := List.mem_map.1 hu
  rfl
theorem own_base {w : World} {base base' : Nat} {e : TypeId} {size n : Nat} {v : Value} {xs : List Value} (h : w.ownsRow base e size v n xs) (hb : base' ≤ base) : w.ownsRow base' e size v n xs :=
  ⟨h.1, h.2.imp id (fun ⟨g, cap, cur, a, b, rest⟩ => ⟨g, cap, cur, a, Nat.le_trans hb b, rest⟩)⟩
theorem reads_cells1 {w : World} {e : TypeId} {v : Value} {b : Nat} (hb : w.heap.size = b) : Reads (w.alloc (.cells #[v] e)) (b + 1) 1 (some ⟨b, 0, none⟩) 1 [v] := reads_one hb
theorem own_cap {w : World} {base : Nat} {e : TypeId} {size n : Nat} {A : Option Addr} {c : Nat} {xs : List Value} (h : w.ownsRow base e size (.slice A n c) n xs) : n ≤ c := by
  rcases h.2 with ⟨h1, h2⟩ | ⟨g, cap, cur, h1, _, _, hn, _⟩
  · rw [h2]; exact Nat.zero_le _
  · injection h1 with _ _ h3
    rw [h3]; exact hn
/-- what Order gives -/
def OrdIs (l : List VCall20) (w : World) (e : Ending) (w' : World) : Prop := ∃ B cap R, e = .returned (.slice B R.length cap) ∧ OrdL l R ∧ R.length ≤ cap ∧ Reads w' w'.heap.size 1 B R.length (R.map (Value.int .i64)) ∧ (∀ a, B = some a → w.heap.size ≤ a.block) ∧ Below w.heap.size w w'
set_option maxRecDepth 100000 in
set_option maxHeartbeats 4000000 in
theorem order_any (A : Option Addr) (c : Nat) (l : List VCall20) (w : World) (ha : Reads w w.heap.size 8 A l.length (l.flatMap VCall20.cells)) (hl : l.length ≤ 100000) :
    Calls Tryz.prog 12 #[.slice A l.length c] w (OrdIs l w) := by
  have HA := Lib.hid ha
  clear ha
  obtain ⟨i0, hi0, hz0, hz1, hz2⟩ := info_parts info_it
  go_enter Tryz.func12, Tryz.ntmps12
  go_wp2_with fail
  have c0 : ∀ W, Below (w.heap.size + 1) (w.alloc (.cells #[.slice A l.length c] 24)) W → W.cell? ⟨w.heap.size, 0, none⟩ = some (.slice A l.length c) := fun W hb => (hb.cell (p := ⟨w.heap.size, 0, none⟩) (Nat.lt_succ_self _)).trans (Blk.new w 24 #[.slice A l.length c]).c1
  have C0 := Lib.hid c0
  clear c0
  go_loopw [3, 8] (fun s3 s8 wr => ∃ k : Nat, k ≤ l.length ∧ s8 = .int .i64 k ∧ Hid (wr.ownsRow (w.heap.size + 1) 3 1 s3 (cmt l k).length ((cmt l k).map (Value.int .i64))) ∧ Hid (Below (w.heap.size + 1) (w.alloc (.cells #[.slice A l.length c] 24)) wr)) (fun _ s _ => l.length - (intOf s).toNat)
  case atStart => exact ⟨0, Nat.zero_le _, rfl, Lib.hid ⟨by simp [cmt], .inl ⟨rfl, rfl⟩⟩, Lib.hid (Below.refl _ _)⟩
  case round =>
    obtain ⟨k, hk, rfl, HO, HB⟩ := hrel
    have HW := Lib.hid (show Below w.heap.size w wr from ((Below.refl _ w).alloc (Nat.le_refl _) _).trans (HB.out.mono (Nat.le_succ _)))
    have hsz : w.heap.size + 1 ≤ wr.heap.size := by have := HB.out.size; simpa using this
    have hcl := cmt_len l k
    by_cases hlt : k < l.length
    · have hd : decide ((k : Int) < (l.length : Int)) = true := by simp; omega
      have hd' : decide (k < l.length) = true := by simp; omega
      obtain ⟨ad, hA, hadb, hcell⟩ := (HA.out.below HW.out).2 (by omega)
      subst hA
      have q := calls_at hcell k hlt
      have q0 := q 0 (by omega); have q1 := q 1 (by omega); have q2 := q 2 (by omega); have q3 := q 3 (by omega); have q4 := q 4 (by omega); have q5 := q 5 (by omega); have q6 := q 6 (by omega); have q7 := q 7 (by omega)
      simp only [VCall20.cells, List.getElem_cons_zero, List.getElem_cons_succ, Nat.add_zero] at q0 q1 q2 q3 q4 q5 q6 q7
      replace q1 := cell_in _ 1 (by omega) q1; replace q2 := cell_in _ 2 (by omega) q2; replace q3 := cell_in _ 3 (by omega) q3; replace q4 := cell_in _ 4 (by omega) q4; replace q5 := cell_in _ 5 (by omega) q5; replace q6 := cell_in _ 6 (by omega) q6; replace q7 := cell_in _ 7 (by omega) q7
      have h2 : l[k].fate = 2 ∨ l[k].fate ≠ 2 := by omega
      have S1 := Lib.hid (fun h => cmt_succ1 hlt h); have S0 := Lib.hid (fun h => cmt_succ0 hlt h)
      clear q hcell
      generalize l[k] = x at *
      obtain ⟨x0, x1, x2, x3, x4, x5, x6, x7⟩ := x
      simp only at q0 q1 q2 q3 q4 q5 q6 q7 h2 S1 S0
      rcases h2 with h2 | h2
      · have b0 : (x6 == 2) = true := by simpa using h2
        have E := Lib.hid (S1.out h2)
        clear h2
        go_wp2_with (at_builtin
                     refine wpList_append_any _ rfl (.tmp 16) (.tmp 18) 43 rfl (w.heap.size + 1) 3 i0 _ 1 8 Tryz.underlying43 hi0 hz0 hz1 hz2 rfl (by omega) u3 (cmt l k).length _ (by rfl) ((HO.out.alloc _).alloc _) (wr.heap.size + 1 + 1) (some ⟨wr.heap.size + 1, 0, none⟩) 1 1 [.int .i64 (k : Int)] (by rfl) (reads_cells1 (by simp)) (one_it [(k : Int)]) (by simp only [maxLen]; omega) (by omega) (by simp; omega) ?_
                     intro v1 w2 hown1 hg1 hat1
                     have HO1 := Lib.hid hown1
                     have HB1 := Lib.hid (Below.grown ((HB.out.alloc hsz _).alloc (by simp; omega) _) hg1 (by simp; omega) (fun j hj => (HO.out.lt j hj).1))
                     clear hown1 hg1 hat1)
        go_roundw
        case rel => exact ⟨k + 1, by omega, by go_num, Lib.hid (by rw [E.out, List.length_append, List.map_append]; exact HO1.out), HB1⟩
        case measure => simp [intOf]; omega
      · have b0 : (x6 == 2) = false := by simpa using h2
        have E := Lib.hid (S0.out h2)
        clear h2
        go_wp2_with fail
        go_roundw
        case rel => exact ⟨k + 1, by omega, by go_num, Lib.hid (by rw [E.out]; exact HO.out.alloc _), Lib.hid (HB.out.alloc hsz _)⟩
        case measure => simp [intOf]; omega
    · have hd : decide ((k : Int) < (l.length : Int)) = false := by simp; omega
      have hd' : decide (k < l.length) = false := by simp; omega
      have hkl : k = l.length := by omega
      have HM := Lib.hid (fun x => cmt_mem (l := l) (x := x))
      have HP := Lib.hid (cmt_rise l l.length)
      have HO1 := HO.out
      rw [hkl] at HO1
      obtain ⟨L, hL⟩ : ∃ L, cmt l l.length = L := ⟨_, rfl⟩
      have hLl : L.length ≤ l.length := by rw [← hL]; exact cmt_len l l.length
      rw [hL] at HO1 HM HP
      clear hL HO hkl
      by_cases hm : L.length = 0
      · have hnil : L = [] := List.eq_nil_of_length_eq_zero hm
        subst hnil
        obtain ⟨A1, c1, hv, -, hbk⟩ := own_shape HO1
        have BK := Lib.hid hbk
        clear hbk
        subst hv
        clear HO1
        go_wp2_with fail
        refine (sorts0_any A1 c1 _ _).mono ?_
        rintro x w1 ⟨rfl, rfl⟩
        go_wp2_with fail
        go_ret
        exact ⟨A1, c1, [], rfl, ⟨List.Pairwise.nil, HM.out⟩, Nat.zero_le _, ⟨rfl, fun h => absurd h (Nat.lt_irrefl 0)⟩, fun a ha => Nat.le_of_succ_le (BK.out a ha), HW.out⟩
      · obtain ⟨g, cap, hv, hg1, hg2⟩ := HO1.form (by omega)
        subst hv
        have AR := Lib.hid (show Arr wr g L.length cap (dOf L) from by
          unfold Arr
          have e := congrArg (List.map (Value.int .i64)) (dOf_range L)
          rw [List.map_map] at e
          rw [show (List.range L.length).map (fun i => Value.int .i64 (dOf L i)) = L.map (Value.int .i64) from e]
          exact own_base HO1 (Nat.zero_le _))
        have RI := Lib.hid (show ∀ i j, i < j → j < L.length → dOf L i < dOf L j from fun i j hij hj => by
          unfold dOf
          rw [List.getD_eq_getElem?_getD, List.getD_eq_getElem?_getD, List.getElem?_eq_getElem hj, List.getElem?_eq_getElem (by omega)]
          exact List.pairwise_iff_getElem.1 HP.out i j (by omega) hj hij)
        have SI := Lib.hid (show ∀ i, i < L.length → ∃ p : Nat, dOf L i = p ∧ p < l.length from fun i hi => by
          obtain ⟨p, p1, p2, _⟩ := (HM.out (dOf L i)).1 (by unfold dOf; rw [List.getD_eq_getElem?_getD, List.getElem?_eq_getElem hi]; exact List.getElem_mem hi)
          exact ⟨p, p1, p2⟩)
        have SR := Lib.hid (sorts_any g L.length cap w.heap.size (dOf L) (tOf l) _ (LEnv w.heap.size w.heap.size A c l) (LEnv.env (by omega) (by omega)) (closure_cmp w.heap.size w.heap.size A c l hl) wr AR.out ⟨C0.out _ HB.out, HA.out.below HW.out⟩ (by omega) RI.out SI.out)
        clear HO1 hm
        go_wp2_with fail
        refine SR.out.mono ?_
        rintro x w2 ⟨E, rfl, hA, hs, ht, hI, hkk⟩
        have RD := Lib.hid (Reads.of_own hA)
        have RC := Lib.hid (own_cap hA)
        have OL := Lib.hid (ordL_of HM.out hs ht)
        have BW := Lib.hid (below_kp HW.out hkk (by omega))
        clear hA hs ht hI hkk
        go_wp2_with fail
        go_ret
        refine ⟨some ⟨g, 0, none⟩, cap, (List.range L.length).map E, ?_, OL.out, by rw [List.length_map, List.length_range]; exact RC.out, ?_, fun a ha => ?_, BW.out⟩
        · rw [List.length_map, List.length_range]; rfl
        · rw [List.length_map, List.length_range, List.map_map]; exact RD.out
        · cases ha; exact Nat.le_of_succ_le hg1
end Go.Proofs.YtjhhpcjnhjbpdaaGreat
