/- Contracts: the document's Join. -/
import Derived.Test.YtnljmjibjjjelaaSpanL
import Derived.LoopTactic
set_option linter.unusedSimpArgs false
set_option linter.unusedVariables false
namespace Go.Proofs.Ytnljmjibjjjelaa
open Go.RowKit Mo
theorem lowS_top (l : List VSpan) : ∀ m n, (∀ x ∈ l, x.lo ≤ m) → (∀ x ∈ l, x.lo ≤ n) → l ≠ [] → lowS m l = lowS n l := by
  intro m n hm hn hl
  cases l with
  | nil => exact absurd rfl hl
  | cons x l =>
    have h1 := hm x List.mem_cons_self
    have h2 := hn x List.mem_cons_self
    show lowS (min m x.lo) l = lowS (min n x.lo) l
    rw [Int.min_eq_right h1, Int.min_eq_right h2]
theorem lowS_min (l : List VSpan) : ∀ m, lowS m l = min m (lowS m l) := by
  intro m
  have := (lowS_le l m).1
  omega
theorem rjoin_lo (x0 : VSpan) (l : List VSpan) (h : joinOk (x0 :: l) = true) : lowS 1125899906842624 (x0 :: l) = joinLo (x0 :: l) := by
  have e : joinLo (x0 :: l) = lowS x0.lo (x0 :: l) := by show (if joinOk (x0 :: l) = true then _ else _) = _; rw [h]; rfl
  rw [e]
  have hs : sOk x0 = true := by simp [joinOk] at h; exact h.1
  have h1 := isS_iff.1 hs
  simp only [lowS]
  have e1 : min (1125899906842624 : Int) x0.lo = x0.lo := by omega
  have e2 : min x0.lo x0.lo = x0.lo := by omega
  rw [e1, e2]
theorem rjoin_hi (x0 : VSpan) (l : List VSpan) (h : joinOk (x0 :: l) = true) : highS 0 (x0 :: l) = joinHi (x0 :: l) := by
  have e : joinHi (x0 :: l) = highS x0.hi (x0 :: l) := by show (if joinOk (x0 :: l) = true then _ else _) = _; rw [h]; rfl
  rw [e]
  have hs : sOk x0 = true := by simp [joinOk] at h; exact h.1
  have h1 := isS_iff.1 hs
  simp only [highS]
  have e1 : max (0 : Int) x0.hi = x0.hi := by omega
  have e2 : max x0.hi x0.hi = x0.hi := by omega
  rw [e1, e2]
theorem blk_s0 {w : World} {g : Nat} {T : TypeId} {a b u : Value} (h : Blk w g T #[a, b]) : Blk (w.setCell ⟨g, 0, none⟩ u) g T #[u, b] := h.set_ 0 u
theorem blk_s1 {w : World} {g : Nat} {T : TypeId} {a b u : Value} (h : Blk w g T #[a, b]) : Blk (w.setCell ⟨g, 1, none⟩ u) g T #[a, u] := h.set_ 1 u
theorem joinOk_all (xs : List VSpan) (h : xs.all sOk = true) (hn : 0 < xs.length) : joinOk xs = true := by
  cases xs with
  | nil => simp at hn
  | cons x l => unfold joinOk; rw [h]; rfl
theorem join_none (xs : List VSpan) (h : joinOk xs = false) : joinLo xs = 0 ∧ joinHi xs = 0 := by
  cases xs with
  | nil => exact ⟨rfl, rfl⟩
  | cons x l =>
    constructor
    · show (if joinOk (x :: l) = true then _ else _) = _; rw [h]; rfl
    · show (if joinOk (x :: l) = true then _ else _) = _; rw [h]; rfl
theorem rjoin_end (xs : List VSpan) (h : joinOk xs = true) : lowS 1125899906842624 xs = joinLo xs ∧ highS 0 xs = joinHi xs := by
  cases xs with
  | nil => simp [joinOk] at h
  | cons x l => exact ⟨rjoin_lo x l h, rjoin_hi x l h⟩
set_option maxHeartbeats 2000000 in
theorem rjoin_any (w : World) (A : Option Addr) (c : Nat) (xs : List VSpan) (hr : Reads w w.heap.size 2 A xs.length (xs.flatMap VSpan.cells)) (hm : xs.length ≤ 9223372036854775807) (hx : ∀ u ∈ xs, u.ok w) :
    Calls Try.prog 26 #[.slice A xs.length c] w fun e w' => e = .returned (.tuple #[.agg #[.int .i64 (joinLo xs), .int .i64 (joinHi xs)], .bool (joinOk xs)]) ∧ Below w.heap.size w w' := by
  have HXX := Lib.hid hx; clear hx
  have HR := Lib.hid hr; clear hr
  go_enter Try.func26, Try.ntmps26
  go_wp2_with fail
  go_loopw [5] (fun i wr => ∃ (k : Nat) (lo hi : Int), k ≤ xs.length ∧ i = .int .i64 k ∧ Hid (lowS 1125899906842624 (xs.take k) = lo ∧ highS 0 (xs.take k) = hi ∧ (xs.take k).all sOk = true) ∧ Blk wr w.heap.size 23 #[.int .i64 0, .int .i64 0] ∧ Blk wr (w.heap.size + 1) 23 #[.int .i64 lo, .int .i64 hi] ∧ Keeps (fun _ => False) w wr) (fun i _ => xs.length - (intOf i).toNat)
  case atStart =>
    exact ⟨0, 1125899906842624, 0, Nat.zero_le _, rfl, ⟨by simp [lowS], by simp [highS], by simp⟩, (Blk.new w _ _).alloc _, Blk.new' (by simp), (Keeps.refl _ w).alloc _ |>.alloc _⟩
  case round =>
    obtain ⟨k, lo, hi, hk, rfl, HI, hz, ho, hkp⟩ := hrel
    have K := Lib.hid hkp
    have hg := hz.lt
    have hg1 := ho.lt
    obtain ⟨y0, y1⟩ := ho.c2
    obtain ⟨z0, z1⟩ := hz.c2
    have f0 := ho.frozen 0; have f1 := ho.frozen 1
    have f2 := hz.frozen 0; have f3 := hz.frozen 1
    have HO := Lib.hid ho; have HZ := Lib.hid hz
    clear hz ho hkp
    by_cases hlt : k < xs.length
    · have hd : decide ((k : Int) < xs.length) = true := by simp; omega
      obtain ⟨ad, hA, hadb, hcell⟩ := (HR.out.keeps K.out (Nat.le_refl _) (fun _ _ h => h)).2 (by omega)
      subst hA
      have q := fun j (hj : j < 2) => (hcell (k * 2 + j) _ ((flatMap_at xs VSpan.cells 2 (fun _ => rfl) k j hlt hj).trans (List.getElem?_eq_getElem (by exact hj))))
      have q0 := q 0 (by decide); have q1 := q 1 (by decide)
      simp only [VSpan.cells, List.getElem_cons_zero, List.getElem_cons_succ, Nat.add_zero] at q0 q1
      replace q1 := cell_in _ 1 (by decide) q1
      clear q hcell hadb
      have hl9 := lowS_take 1125899906842624 xs k hlt
      have hh9 := highS_take 0 xs k hlt
      have hs9 : (xs.take (k + 1)).all sOk = ((xs.take k).all sOk && sOk xs[k]) := by rw [List.take_succ_eq_append_getElem hlt, List.all_append]; simp
      have hmem := List.getElem_mem hlt
      have hok := HXX.out xs[k] hmem
      rw [HI.out.1] at hl9; rw [HI.out.2.1] at hh9; rw [HI.out.2.2] at hs9
      generalize xs[k] = x at *
      obtain ⟨xl, xh⟩ := x
      simp only at q0 q1 hl9 hh9
      have hw1 := i64_wf hok.1; have hw2 := i64_wf hok.2
      simp only at hw1 hw2
      clear hok
      have HL9 := Lib.hid hl9; have HH9 := Lib.hid hh9; have HS9 := Lib.hid hs9; have HM := Lib.hid hmem; clear hl9 hh9 hs9 hmem
      obtain ⟨g, hgs⟩ : ∃ g, isS xl xh = g := ⟨_, rfl⟩
      have HG := Lib.hid hgs; clear hgs
      cases g
      · go_wp2_with (go_at_call 17; refine (is_below _ _ _).mono ?_; rintro e w2 ⟨rfl, hb⟩; rw [HG.out]; (replace HO := Lib.hid (blk_pass HO.out (Below.refl _ _) hb)); (replace HZ := Lib.hid (blk_pass HZ.out (Below.refl _ _) hb)); (replace q0 := below_cell q0 hb); (replace q1 := below_cell q1 hb); (replace K := Lib.hid (K.out.then hb)); clear y0 y1 z0 z1 f0 f1 f2 f3 hg hg1; (obtain ⟨y0, y1⟩ := HO.out.c2); (obtain ⟨z0, z1⟩ := HZ.out.c2); (have f0 := HO.out.frozen 0); (have f1 := HO.out.frozen 1); (have f2 := HZ.out.frozen 0); (have f3 := HZ.out.frozen 1); (have hg := HZ.out.lt); (have hg1 := HO.out.lt); clear hb)
        have hj : joinOk xs = false := by
          unfold joinOk
          have : xs.all sOk = false := by rw [← Bool.not_eq_true, List.all_eq_true]; intro h; have := h _ HM.out; unfold sOk at this; rw [HG.out] at this; exact Bool.noConfusion this
          rw [this, Bool.and_false]
        obtain ⟨hjl, hjh⟩ := join_none xs hj
        rw [hj, hjl, hjh]
        refine bodyPost_ret (v := .tuple #[.agg #[.int .i64 0, .int .i64 0], .bool false]) (via_blk (g := w.heap.size) (T := 23) (cs := #[.int .i64 0, .int .i64 0]) (by repeat (first | exact Hid.out (by assumption) | refine Blk.alloc ?_ _ | refine Blk.drewN ?_ _ | refine Blk.drew ?_ | refine Blk.far ?_ (Nat.ne_of_lt (Nat.lt_succ_self _)) _ | refine Blk.far ?_ (Nat.ne_of_gt (Nat.lt_succ_self _)) _ | apply blk_s0 | apply blk_s1)) (fun W' hB => by obtain ⟨c0, c1⟩ := hB.c2; simp [results, Try.results26, go_sem, c0, c1])) rfl ⟨?_, ?_⟩
        · rfl
        · exact Keeps.below (by repeat (first | assumption | refine Keeps.alloc ?_ _ | refine Keeps.drewN ?_ _ | refine Keeps.drew ?_ | refine Keeps.set_ ?_ (Or.inr (Nat.le_refl _)) _ | refine Keeps.set_ ?_ (Or.inr (Nat.le_succ _)) _ | exact Hid.out (by assumption)))
      · rcases (show xl < lo ∨ lo ≤ xl by omega) with c1 | c1 <;> rcases (show hi < xh ∨ xh ≤ hi by omega) with c2 | c2
        · go_wp2_with (go_at_call 17; refine (is_below _ _ _).mono ?_; rintro e w2 ⟨rfl, hb⟩; rw [HG.out]; (replace HO := Lib.hid (blk_pass HO.out (Below.refl _ _) hb)); (replace HZ := Lib.hid (blk_pass HZ.out (Below.refl _ _) hb)); (replace q0 := below_cell q0 hb); (replace q1 := below_cell q1 hb); (replace K := Lib.hid (K.out.then hb)); clear y0 y1 z0 z1 f0 f1 f2 f3 hg hg1; (obtain ⟨y0, y1⟩ := HO.out.c2); (obtain ⟨z0, z1⟩ := HZ.out.c2); (have f0 := HO.out.frozen 0); (have f1 := HO.out.frozen 1); (have f2 := HZ.out.frozen 0); (have f3 := HZ.out.frozen 1); (have hg := HZ.out.lt); (have hg1 := HO.out.lt); clear hb)
          go_quiet (fail)
          go_wp2_with (fail)
          go_quiet (fail)
          go_wp2_with (fail)
          go_roundw
          case rel => exact ⟨k + 1, xl, xh, by omega, by go_num, ⟨HL9.out.trans (by omega), HH9.out.trans (by omega), HS9.out.trans (by unfold sOk; rw [HG.out]; rfl)⟩, by repeat (first | exact Hid.out (by assumption) | refine Blk.alloc ?_ _ | refine Blk.drewN ?_ _ | refine Blk.drew ?_ | refine Blk.far ?_ (Nat.ne_of_lt (Nat.lt_succ_self _)) _ | refine Blk.far ?_ (Nat.ne_of_gt (Nat.lt_succ_self _)) _ | apply blk_s0 | apply blk_s1), by repeat (first | exact Hid.out (by assumption) | refine Blk.alloc ?_ _ | refine Blk.drewN ?_ _ | refine Blk.drew ?_ | refine Blk.far ?_ (Nat.ne_of_lt (Nat.lt_succ_self _)) _ | refine Blk.far ?_ (Nat.ne_of_gt (Nat.lt_succ_self _)) _ | apply blk_s0 | apply blk_s1), by repeat (first | assumption | refine Keeps.alloc ?_ _ | refine Keeps.drewN ?_ _ | refine Keeps.drew ?_ | refine Keeps.set_ ?_ (Or.inr (Nat.le_refl _)) _ | refine Keeps.set_ ?_ (Or.inr (Nat.le_succ _)) _ | exact Hid.out (by assumption))⟩
          case measure => simp [intOf]; omega
        · have d2 : decide (hi < xh) = false := by simp; omega
          go_wp2_with (go_at_call 17; refine (is_below _ _ _).mono ?_; rintro e w2 ⟨rfl, hb⟩; rw [HG.out]; (replace HO := Lib.hid (blk_pass HO.out (Below.refl _ _) hb)); (replace HZ := Lib.hid (blk_pass HZ.out (Below.refl _ _) hb)); (replace q0 := below_cell q0 hb); (replace q1 := below_cell q1 hb); (replace K := Lib.hid (K.out.then hb)); clear y0 y1 z0 z1 f0 f1 f2 f3 hg hg1; (obtain ⟨y0, y1⟩ := HO.out.c2); (obtain ⟨z0, z1⟩ := HZ.out.c2); (have f0 := HO.out.frozen 0); (have f1 := HO.out.frozen 1); (have f2 := HZ.out.frozen 0); (have f3 := HZ.out.frozen 1); (have hg := HZ.out.lt); (have hg1 := HO.out.lt); clear hb)
          go_quiet (fail)
          go_wp2_with (fail)
          go_quiet (fail)
          go_wp2_with (fail)
          go_roundw
          case rel => exact ⟨k + 1, xl, hi, by omega, by go_num, ⟨HL9.out.trans (by omega), HH9.out.trans (by omega), HS9.out.trans (by unfold sOk; rw [HG.out]; rfl)⟩, by repeat (first | exact Hid.out (by assumption) | refine Blk.alloc ?_ _ | refine Blk.drewN ?_ _ | refine Blk.drew ?_ | refine Blk.far ?_ (Nat.ne_of_lt (Nat.lt_succ_self _)) _ | refine Blk.far ?_ (Nat.ne_of_gt (Nat.lt_succ_self _)) _ | apply blk_s0 | apply blk_s1), by repeat (first | exact Hid.out (by assumption) | refine Blk.alloc ?_ _ | refine Blk.drewN ?_ _ | refine Blk.drew ?_ | refine Blk.far ?_ (Nat.ne_of_lt (Nat.lt_succ_self _)) _ | refine Blk.far ?_ (Nat.ne_of_gt (Nat.lt_succ_self _)) _ | apply blk_s0 | apply blk_s1), by repeat (first | assumption | refine Keeps.alloc ?_ _ | refine Keeps.drewN ?_ _ | refine Keeps.drew ?_ | refine Keeps.set_ ?_ (Or.inr (Nat.le_refl _)) _ | refine Keeps.set_ ?_ (Or.inr (Nat.le_succ _)) _ | exact Hid.out (by assumption))⟩
          case measure => simp [intOf]; omega
        · have d1 : decide (xl < lo) = false := by simp; omega
          go_wp2_with (go_at_call 17; refine (is_below _ _ _).mono ?_; rintro e w2 ⟨rfl, hb⟩; rw [HG.out]; (replace HO := Lib.hid (blk_pass HO.out (Below.refl _ _) hb)); (replace HZ := Lib.hid (blk_pass HZ.out (Below.refl _ _) hb)); (replace q0 := below_cell q0 hb); (replace q1 := below_cell q1 hb); (replace K := Lib.hid (K.out.then hb)); clear y0 y1 z0 z1 f0 f1 f2 f3 hg hg1; (obtain ⟨y0, y1⟩ := HO.out.c2); (obtain ⟨z0, z1⟩ := HZ.out.c2); (have f0 := HO.out.frozen 0); (have f1 := HO.out.frozen 1); (have f2 := HZ.out.frozen 0); (have f3 := HZ.out.frozen 1); (have hg := HZ.out.lt); (have hg1 := HO.out.lt); clear hb)
          go_quiet (fail)
          go_wp2_with (fail)
          go_quiet (fail)
          go_wp2_with (fail)
          go_roundw
          case rel => exact ⟨k + 1, lo, xh, by omega, by go_num, ⟨HL9.out.trans (by omega), HH9.out.trans (by omega), HS9.out.trans (by unfold sOk; rw [HG.out]; rfl)⟩, by repeat (first | exact Hid.out (by assumption) | refine Blk.alloc ?_ _ | refine Blk.drewN ?_ _ | refine Blk.drew ?_ | refine Blk.far ?_ (Nat.ne_of_lt (Nat.lt_succ_self _)) _ | refine Blk.far ?_ (Nat.ne_of_gt (Nat.lt_succ_self _)) _ | apply blk_s0 | apply blk_s1), by repeat (first | exact Hid.out (by assumption) | refine Blk.alloc ?_ _ | refine Blk.drewN ?_ _ | refine Blk.drew ?_ | refine Blk.far ?_ (Nat.ne_of_lt (Nat.lt_succ_self _)) _ | refine Blk.far ?_ (Nat.ne_of_gt (Nat.lt_succ_self _)) _ | apply blk_s0 | apply blk_s1), by repeat (first | assumption | refine Keeps.alloc ?_ _ | refine Keeps.drewN ?_ _ | refine Keeps.drew ?_ | refine Keeps.set_ ?_ (Or.inr (Nat.le_refl _)) _ | refine Keeps.set_ ?_ (Or.inr (Nat.le_succ _)) _ | exact Hid.out (by assumption))⟩
          case measure => simp [intOf]; omega
        · have d1 : decide (xl < lo) = false := by simp; omega
          have d2 : decide (hi < xh) = false := by simp; omega
          go_wp2_with (go_at_call 17; refine (is_below _ _ _).mono ?_; rintro e w2 ⟨rfl, hb⟩; rw [HG.out]; (replace HO := Lib.hid (blk_pass HO.out (Below.refl _ _) hb)); (replace HZ := Lib.hid (blk_pass HZ.out (Below.refl _ _) hb)); (replace q0 := below_cell q0 hb); (replace q1 := below_cell q1 hb); (replace K := Lib.hid (K.out.then hb)); clear y0 y1 z0 z1 f0 f1 f2 f3 hg hg1; (obtain ⟨y0, y1⟩ := HO.out.c2); (obtain ⟨z0, z1⟩ := HZ.out.c2); (have f0 := HO.out.frozen 0); (have f1 := HO.out.frozen 1); (have f2 := HZ.out.frozen 0); (have f3 := HZ.out.frozen 1); (have hg := HZ.out.lt); (have hg1 := HO.out.lt); clear hb)
          go_quiet (fail)
          go_wp2_with (fail)
          go_quiet (fail)
          go_wp2_with (fail)
          go_roundw
          case rel => exact ⟨k + 1, lo, hi, by omega, by go_num, ⟨HL9.out.trans (by omega), HH9.out.trans (by omega), HS9.out.trans (by unfold sOk; rw [HG.out]; rfl)⟩, by repeat (first | exact Hid.out (by assumption) | refine Blk.alloc ?_ _ | refine Blk.drewN ?_ _ | refine Blk.drew ?_ | refine Blk.far ?_ (Nat.ne_of_lt (Nat.lt_succ_self _)) _ | refine Blk.far ?_ (Nat.ne_of_gt (Nat.lt_succ_self _)) _ | apply blk_s0 | apply blk_s1), by repeat (first | exact Hid.out (by assumption) | refine Blk.alloc ?_ _ | refine Blk.drewN ?_ _ | refine Blk.drew ?_ | refine Blk.far ?_ (Nat.ne_of_lt (Nat.lt_succ_self _)) _ | refine Blk.far ?_ (Nat.ne_of_gt (Nat.lt_succ_self _)) _ | apply blk_s0 | apply blk_s1), by repeat (first | assumption | refine Keeps.alloc ?_ _ | refine Keeps.drewN ?_ _ | refine Keeps.drew ?_ | refine Keeps.set_ ?_ (Or.inr (Nat.le_refl _)) _ | refine Keeps.set_ ?_ (Or.inr (Nat.le_succ _)) _ | exact Hid.out (by assumption))⟩
          case measure => simp [intOf]; omega
    · have hd : decide ((k : Int) < xs.length) = false := by simp; omega
      have hk9 : k = xs.length := by omega
      have hI := HI.out
      rw [hk9, List.take_length] at hI
      rcases (show xs.length = 0 ∨ 0 < xs.length by omega) with hn | hn
      · have hd2 : ((xs.length : Int) == 0) = true := beq_iff_eq.2 (by omega)
        go_wp2
        have hxn : xs = [] := List.eq_nil_of_length_eq_zero hn
        have hj : joinOk xs = false := by rw [hxn]; rfl
        obtain ⟨hjl, hjh⟩ := join_none xs hj
        rw [hj, hjl, hjh]
        refine bodyPost_ret (v := .tuple #[.agg #[.int .i64 0, .int .i64 0], .bool false]) (via_blk (g := w.heap.size) (T := 23) (cs := #[.int .i64 0, .int .i64 0]) (by repeat (first | exact Hid.out (by assumption) | refine Blk.alloc ?_ _ | refine Blk.drewN ?_ _ | refine Blk.drew ?_ | refine Blk.far ?_ (Nat.ne_of_lt (Nat.lt_succ_self _)) _ | refine Blk.far ?_ (Nat.ne_of_gt (Nat.lt_succ_self _)) _ | apply blk_s0 | apply blk_s1)) (fun W' hB => by obtain ⟨c0, c1⟩ := hB.c2; simp [results, Try.results26, go_sem, c0, c1])) rfl ⟨?_, ?_⟩
        · rfl
        · exact Keeps.below (by repeat (first | assumption | refine Keeps.alloc ?_ _ | refine Keeps.drewN ?_ _ | refine Keeps.drew ?_ | refine Keeps.set_ ?_ (Or.inr (Nat.le_refl _)) _ | refine Keeps.set_ ?_ (Or.inr (Nat.le_succ _)) _ | exact Hid.out (by assumption)))
      · have hd2 : ((xs.length : Int) == 0) = false := beq_eq_false_iff_ne.2 (by omega)
        go_wp2
        have hj := joinOk_all xs hI.2.2 hn
        obtain ⟨e1, e2⟩ := rjoin_end xs hj
        rw [hI.1] at e1
        rw [hI.2.1] at e2
        rw [hj, ← e1, ← e2]
        refine bodyPost_ret (v := .tuple #[.agg #[.int .i64 lo, .int .i64 hi], .bool true]) (via_blk (g := w.heap.size) (T := 23) (cs := #[.int .i64 lo, .int .i64 hi]) (by repeat (first | exact Hid.out (by assumption) | refine Blk.alloc ?_ _ | refine Blk.drewN ?_ _ | refine Blk.drew ?_ | refine Blk.far ?_ (Nat.ne_of_lt (Nat.lt_succ_self _)) _ | refine Blk.far ?_ (Nat.ne_of_gt (Nat.lt_succ_self _)) _ | apply blk_s0 | apply blk_s1)) (fun W' hB => by obtain ⟨c0, c1⟩ := hB.c2; simp [results, Try.results26, go_sem, c0, c1])) rfl ⟨?_, ?_⟩
        · rfl
        · exact Keeps.below (by repeat (first | assumption | refine Keeps.alloc ?_ _ | refine Keeps.drewN ?_ _ | refine Keeps.drew ?_ | refine Keeps.set_ ?_ (Or.inr (Nat.le_refl _)) _ | refine Keeps.set_ ?_ (Or.inr (Nat.le_succ _)) _ | exact Hid.out (by assumption)))
end Go.Proofs.Ytnljmjibjjjelaa
