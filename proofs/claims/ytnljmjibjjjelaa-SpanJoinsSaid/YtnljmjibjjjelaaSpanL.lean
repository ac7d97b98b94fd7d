/- SpanLeast: the walk. -/
import Derived.Test.YtnljmjibjjjelaaSpanD
import Derived.Deep.QuietTactic
import Derived.BigQuiet
set_option linter.unusedSimpArgs false
set_option linter.unusedVariables false
namespace Go.Proofs.Ytnljmjibjjjelaa
open Go.RowKit Mo
theorem lowS_le (l : List VSpan) : ∀ m, lowS m l ≤ m ∧ (∀ x ∈ l, lowS m l ≤ x.lo) ∧ (lowS m l = m ∨ ∃ x ∈ l, x.lo = lowS m l) := by
  induction l with
  | nil => intro m; simp [lowS]
  | cons y l ih =>
    intro m
    obtain ⟨h1, h2, h3⟩ := ih (min m y.lo)
    simp only [lowS]
    refine ⟨by omega, ?_, ?_⟩
    · intro x hx
      rcases List.mem_cons.1 hx with rfl | hx
      · omega
      · exact h2 x hx
    · rcases h3 with h3 | ⟨x, hx, he⟩
      · rcases (show min m y.lo = m ∨ min m y.lo = y.lo by omega) with e | e
        · left; omega
        · right; exact ⟨y, List.mem_cons_self, by omega⟩
      · right; exact ⟨x, List.mem_cons_of_mem _ hx, he⟩
theorem highS_le (l : List VSpan) : ∀ m, m ≤ highS m l ∧ (∀ x ∈ l, x.hi ≤ highS m l) ∧ (highS m l = m ∨ ∃ x ∈ l, x.hi = highS m l) := by
  induction l with
  | nil => intro m; simp [highS]
  | cons y l ih =>
    intro m
    obtain ⟨h1, h2, h3⟩ := ih (max m y.hi)
    simp only [highS]
    refine ⟨by omega, ?_, ?_⟩
    · intro x hx
      rcases List.mem_cons.1 hx with rfl | hx
      · omega
      · exact h2 x hx
    · rcases h3 with h3 | ⟨x, hx, he⟩
      · rcases (show max m y.hi = m ∨ max m y.hi = y.hi by omega) with e | e
        · left; omega
        · right; exact ⟨y, List.mem_cons_self, by omega⟩
      · right; exact ⟨x, List.mem_cons_of_mem _ hx, he⟩
theorem join_lo (xs : List VSpan) (h : joinOk xs = true) : (∀ x ∈ xs, joinLo xs ≤ x.lo) ∧ xs.any (fun x => x.lo == joinLo xs) = true := by
  cases xs with
  | nil => simp [joinOk] at h
  | cons x0 l =>
    have e : joinLo (x0 :: l) = lowS x0.lo (x0 :: l) := by show (if joinOk (x0 :: l) = true then _ else _) = _; rw [h]; rfl
    obtain ⟨h1, h2, h3⟩ := lowS_le (x0 :: l) x0.lo
    rw [e]
    refine ⟨h2, ?_⟩
    rw [List.any_eq_true]
    rcases h3 with h3 | ⟨x, hx, he⟩
    · exact ⟨x0, List.mem_cons_self, by rw [h3]; simp⟩
    · exact ⟨x, hx, by simpa using he⟩
theorem join_hi (xs : List VSpan) (h : joinOk xs = true) : (∀ x ∈ xs, x.hi ≤ joinHi xs) ∧ xs.any (fun x => x.hi == joinHi xs) = true := by
  cases xs with
  | nil => simp [joinOk] at h
  | cons x0 l =>
    have e : joinHi (x0 :: l) = highS x0.hi (x0 :: l) := by show (if joinOk (x0 :: l) = true then _ else _) = _; rw [h]; rfl
    obtain ⟨h1, h2, h3⟩ := highS_le (x0 :: l) x0.hi
    rw [e]
    refine ⟨h2, ?_⟩
    rw [List.any_eq_true]
    rcases h3 with h3 | ⟨x, hx, he⟩
    · exact ⟨x0, List.mem_cons_self, by rw [h3]; simp⟩
    · exact ⟨x, hx, by simpa using he⟩
theorem any_take (xs : List VSpan) (p : VSpan → Bool) (k : Nat) (h : k < xs.length) : (xs.take (k + 1)).any p = ((xs.take k).any p || p xs[k]) := by
  rw [List.take_succ_eq_append_getElem h, List.any_append]; simp
set_option maxHeartbeats 1000000 in
theorem spanLeast_walk (w : World) (A : Option Addr) (c : Nat) (xs : List VSpan) (hr : SlOk w 2 A c (xs.flatMap VSpan.cells)) (hc : xs.length ≤ c) (hm : c ≤ maxLen) (hx : ∀ u_ ∈ xs, VSpan.ok w u_) :
    Calls Try.prog 11 #[.slice A xs.length c] w fun e w' => e = .returned (.bool true) ∧ Below w.heap.size w w' := by
  have hr := hr.reads (n := xs.length) (flatMap_len xs VSpan.cells 2 (fun _ => rfl)) (by decide)
  have HR := Lib.hid hr
  have HXX := Lib.hid hx
  have HB : Hid (Below w.heap.size w w) := Lib.hid (Below.refl _ _)
  have hmm : xs.length ≤ 9223372036854775807 := by unfold maxLen at hm; omega
  have HMM := Lib.hid hmm
  clear hr hc hm hx hmm
  rcases (show 2000 < xs.length ∨ xs.length ≤ 2000 by omega) with h | h
  · have hd : decide ((2000 : Int) < xs.length) = true := by simp; omega
    go_enter Try.func11, Try.ntmps11
    go_wp2_with (go_at_call 15; refine (awake05_any _).mono ?_; rintro e w5 ⟨rfl, hb⟩; replace HB := Lib.hid (below_then (w := w) (by repeat (first | exact HB.out | refine below_alloc_ ?_ _ | exact Below.refl _ _)) hb); clear hb)
    go_ret
    exact ⟨rfl, HB.out⟩
  have hd : decide ((2000 : Int) < xs.length) = false := by simp; omega
  obtain ⟨k, hk⟩ : ∃ k, joinOk xs = k := ⟨_, rfl⟩
  have HK := Lib.hid hk
  obtain ⟨L, hL⟩ : ∃ L, joinLo xs = L := ⟨_, rfl⟩
  have HL := Lib.hid hL
  obtain ⟨H, hH⟩ : ∃ H, joinHi xs = H := ⟨_, rfl⟩
  have HH := Lib.hid hH
  clear hk hL hH
  cases k
  · go_enter Try.func11, Try.ntmps11
    go_wp2_with (first
      | (go_at_call 15; refine (awake05_any _).mono ?_; rintro e w5 ⟨rfl, hb⟩; replace HB := Lib.hid (below_then (w := w) (by repeat (first | exact HB.out | refine below_alloc_ ?_ _ | exact Below.refl _ _)) hb); clear hb)
      | (go_at_call 25; refine (join_any _ _ _ _ HR.out HMM.out HXX.out).mono ?_; rintro e wJ ⟨rfl, hb⟩; rw [HK.out, HL.out, HH.out]; have TC : Hid (Blk (wJ.alloc (.cells #[.int .i64 L, .int .i64 H] 23)) wJ.heap.size 23 #[.int .i64 L, .int .i64 H]) := Lib.hid (Blk.new wJ _ _); replace HB := Lib.hid (below_then (w := w) (by repeat (first | exact HB.out | refine below_alloc_ ?_ _ | exact Below.refl _ _)) hb); clear hb))
    go_ret
    exact ⟨rfl, HB.out⟩
  · go_enter Try.func11, Try.ntmps11
    go_wp2_with (first
      | (go_at_call 15; refine (awake05_any _).mono ?_; rintro e w5 ⟨rfl, hb⟩; replace TC := Lib.hid (blk_pass TC.out (by repeat (first | exact Below.refl _ _ | refine below_alloc_ ?_ _ | refine Below.drew ?_)) hb); (try clear q7 q8 q9); obtain ⟨⟨q7, q8⟩, q9⟩ := blk_facts TC.out; replace HB := Lib.hid (below_then (w := w) (by repeat (first | exact HB.out | refine below_alloc_ ?_ _ | exact Below.refl _ _)) hb); clear hb)
      | (go_at_call 25; refine (join_any _ _ _ _ HR.out HMM.out HXX.out).mono ?_; rintro e wJ ⟨rfl, hb⟩; rw [HK.out, HL.out, HH.out]; have TC : Hid (Blk (wJ.alloc (.cells #[.int .i64 L, .int .i64 H] 23)) wJ.heap.size 23 #[.int .i64 L, .int .i64 H]) := Lib.hid (Blk.new wJ _ _); replace HB := Lib.hid (below_then (w := w) (by repeat (first | exact HB.out | refine below_alloc_ ?_ _ | exact Below.refl _ _)) hb); clear hb))
    obtain ⟨hlo, hloa⟩ := join_lo xs HK.out
    obtain ⟨hhi, hhia⟩ := join_hi xs HK.out
    rw [HL.out] at hlo hloa
    rw [HH.out] at hhi hhia
    have HLO := Lib.hid hlo; have HLOA := Lib.hid hloa; have HHI := Lib.hid hhi; have HHIA := Lib.hid hhia
    clear hlo hloa hhi hhia q7 q8 q9
    go_loopw [5, 6, 7] (fun lo hi i wr => ∃ (k : Nat) (p q : Bool), k ≤ xs.length ∧ i = .int .i64 k ∧ lo = .bool p ∧ hi = .bool q ∧ Hid ((xs.take k).any (fun x => x.lo == L) = p ∧ (xs.take k).any (fun x => x.hi == H) = q) ∧ Blk wr wJ.heap.size 23 #[.int .i64 L, .int .i64 H] ∧ Below w.heap.size w wr) (fun _ _ i _ => xs.length - (intOf i).toNat)
    case atStart => exact ⟨0, false, false, Nat.zero_le _, rfl, rfl, rfl, ⟨by simp, by simp⟩, TC.out, HB.out⟩
    case round =>
      obtain ⟨k, p, q, hk, rfl, rfl, rfl, HI, ho, hkp⟩ := hrel
      have K := Lib.hid hkp
      obtain ⟨⟨y0, y1⟩, hg⟩ := blk_facts ho
      have HO := Lib.hid ho
      clear ho hkp
      by_cases hlt : k < xs.length
      · have hd : decide ((k : Int) < xs.length) = true := by simp; omega
        obtain ⟨ad, hA, hadb, hcell⟩ := (HR.out.keeps (S := fun _ => False) (.of_below K.out) (Nat.le_refl _) (fun _ _ h => h)).2 (by omega)
        subst hA
        have q9 := fun j (hj : j < 2) => (hcell (k * 2 + j) _ ((flatMap_at xs VSpan.cells 2 (fun _ => rfl) k j hlt hj).trans (List.getElem?_eq_getElem (by exact hj))))
        have q0 := q9 0 (by decide); have q1 := q9 1 (by decide)
        simp only [VSpan.cells, List.getElem_cons_zero, List.getElem_cons_succ, Nat.add_zero] at q0 q1
        replace q1 := cell_in _ 1 (by decide) q1
        clear q9 hcell hadb
        have hl9 := any_take xs (fun x => x.lo == L) k hlt
        have hh9 := any_take xs (fun x => x.hi == H) k hlt
        have hmem := List.getElem_mem hlt
        have hok := HXX.out xs[k] hmem
        have hb1 := HLO.out xs[k] hmem
        have hb2 := HHI.out xs[k] hmem
        rw [HI.out.1] at hl9; rw [HI.out.2] at hh9
        generalize xs[k] = x at *
        obtain ⟨xl, xh⟩ := x
        simp only at q0 q1 hl9 hh9 hb1 hb2
        have hw1 := i64_wf hok.1; have hw2 := i64_wf hok.2
        simp only at hw1 hw2
        have d1 : decide (xl < L) = false := by simp; omega
        have d2 : decide (H < xh) = false := by simp; omega
        clear hok hb1 hb2 hmem
        obtain ⟨e1, he1⟩ : ∃ e, (xl == L) = e := ⟨_, rfl⟩
        obtain ⟨e2, he2⟩ : ∃ e, (xh == H) = e := ⟨_, rfl⟩
        rw [he1] at hl9
        rw [he2] at hh9
        have HL9 := Lib.hid hl9; have HH9 := Lib.hid hh9; clear hl9 hh9
        cases p <;> cases q <;> cases e1 <;> cases e2
        all_goals
          go_wp2_with (fail)
          go_quiet (fail)
          go_wp2_with (fail)
          go_quiet (fail)
          go_wp2_with (fail)
          go_roundw
          case rel => exact ⟨k + 1, _, _, by omega, by go_num, rfl, rfl, ⟨HL9.out, HH9.out⟩, HO.out, Keeps.below ((Keeps.of_below K.out).drewN _)⟩
          case measure => simp [intOf]; omega
      · have hd : decide ((k : Int) < xs.length) = false := by simp; omega
        have hk9 : k = xs.length := by omega
        have hI := HI.out
        rw [hk9, List.take_length, HLOA.out, HHIA.out] at hI
        obtain ⟨rfl, rfl⟩ := hI
        go_wp2
        go_ret
        exact ⟨rfl, K.out⟩
end Go.Proofs.Ytnljmjibjjjelaa
