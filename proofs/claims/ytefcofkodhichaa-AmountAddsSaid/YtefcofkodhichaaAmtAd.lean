/- AmountAdds, AmountBack, AmountFees: the walks. -/
import Derived.Test.YtefcofkodhichaaAmtW
set_option linter.unusedSimpArgs false
set_option linter.unusedVariables false
namespace Go.Proofs.Ytefcofkodhichaa
open Go.RowKit Mo
set_option maxHeartbeats 2000000 in
theorem amountAdds_walk (w : World) (a : Int) (wa : (Lit.int .i64 a).wf = true) (b : Int) (wb : (Lit.int .i64 b).wf = true) :
    Calls Try.prog 3 #[.int .i64 a, .int .i64 b] w fun e w' => e = .returned (.bool true) ∧ Below w.heap.size w w' := by
  have HB : Hid (Below w.heap.size w w) := Lib.hid (Below.refl _ _)
  have HX := Lib.hid (show ∀ u ∈ [a, b], (Lit.int .i64 u).wf = true by intro u hu; simp at hu; rcases hu with rfl | rfl <;> assumption)
  obtain ⟨V, hV⟩ : ∃ V, totV [a, b] = V := ⟨_, rfl⟩
  obtain ⟨K, hK⟩ : ∃ K, totOk [a, b] = K := ⟨_, rfl⟩
  obtain ⟨S, E, hS⟩ := sub_of a b
  obtain ⟨g, hg⟩ : ∃ g, isA a = g := ⟨_, rfl⟩
  have HV := Lib.hid hV; have HK := Lib.hid hK; have HS := Lib.hid hS; have HG := Lib.hid hg
  have HW := Lib.hid (And.intro wa wb)
  clear hV hK hS hg wa wb
  cases K
  · have HE := Lib.hid (show errA (totOk [a, b]) = 40 by rw [HK.out]; rfl)
    cases g
    all_goals
      go_enter Try.func3, Try.ntmps3
      go_wp2_with (first
        | (go_at_call 15; refine (awake04_any _).mono ?_; rintro e w5 ⟨rfl, hb⟩; replace HB := Lib.hid (below_then (w := w) (by repeat (first | exact HB.out | refine below_alloc_ ?_ _ | exact Below.refl _ _)) hb); clear hb)
        | (go_at_call 11; refine (add_any _ _ _ HW.out.1 HW.out.2).mono ?_; rintro e w5 ⟨rfl, hb⟩; rw [HV.out, HE.out]; replace HB := Lib.hid (below_then (w := w) (by repeat (first | exact HB.out | refine below_alloc_ ?_ _ | exact Below.refl _ _)) hb); clear hb)
        | (go_at_call 12; refine (rtotal_two _ _ _ (by simp) _ _ _ _ HV.out HK.out HX.out).mono ?_; rintro e w1 ⟨rfl, rfl⟩)
        | (go_at_call 13; refine (sub_any _ _ _ _ _ HS.out).mono ?_; rintro e w1 ⟨rfl, rfl⟩)
        | (go_at_call 14; refine (rsub_any _ _ _ _ _ HS.out).mono ?_; rintro e w1 ⟨rfl, rfl⟩)
        | (go_at_call 16; refine (acheck_any _ _).mono ?_; rintro e w1 ⟨rfl, rfl⟩; first | rw [HG.out, show errA true = 0 from rfl] | rw [HG.out, show errA false = 40 from rfl])
        | (go_at_call 17; refine (ris_any _ _).mono ?_; rintro e w1 ⟨rfl, rfl⟩; rw [HG.out]))
      go_ret
      exact ⟨rfl, HB.out⟩
  · have HE := Lib.hid (show errA (totOk [a, b]) = 0 by rw [HK.out]; rfl)
    cases g
    all_goals
      go_enter Try.func3, Try.ntmps3
      go_wp2_with (first
        | (go_at_call 15; refine (awake04_any _).mono ?_; rintro e w5 ⟨rfl, hb⟩; replace HB := Lib.hid (below_then (w := w) (by repeat (first | exact HB.out | refine below_alloc_ ?_ _ | exact Below.refl _ _)) hb); clear hb)
        | (go_at_call 11; refine (add_any _ _ _ HW.out.1 HW.out.2).mono ?_; rintro e w5 ⟨rfl, hb⟩; rw [HV.out, HE.out]; replace HB := Lib.hid (below_then (w := w) (by repeat (first | exact HB.out | refine below_alloc_ ?_ _ | exact Below.refl _ _)) hb); clear hb)
        | (go_at_call 12; refine (rtotal_two _ _ _ (by simp) _ _ _ _ HV.out HK.out HX.out).mono ?_; rintro e w1 ⟨rfl, rfl⟩)
        | (go_at_call 13; refine (sub_any _ _ _ _ _ HS.out).mono ?_; rintro e w1 ⟨rfl, rfl⟩)
        | (go_at_call 14; refine (rsub_any _ _ _ _ _ HS.out).mono ?_; rintro e w1 ⟨rfl, rfl⟩)
        | (go_at_call 16; refine (acheck_any _ _).mono ?_; rintro e w1 ⟨rfl, rfl⟩; first | rw [HG.out, show errA true = 0 from rfl] | rw [HG.out, show errA false = 40 from rfl])
        | (go_at_call 17; refine (ris_any _ _).mono ?_; rintro e w1 ⟨rfl, rfl⟩; rw [HG.out]))
      go_ret
      exact ⟨rfl, by repeat (first | exact HB.out | refine below_alloc_ ?_ _)⟩
theorem back_cases (a b : Int) : (totOk [a, b] = false) ∨ (totOk [a, b] = true ∧ totOk [b, a] = true ∧ totV [a, b] = a + b ∧ totV [b, a] = a + b ∧ isA (a + b) = true ∧ SubIs (a + b) b a 0 ∧ isA a = true ∧ isA b = true) := by
  cases h : totOk [a, b]
  · exact .inl rfl
  · right
    have h' := h
    unfold totOk at h'
    simp only [List.all_cons, List.all_nil, Bool.and_true, Bool.and_eq_true, decide_eq_true_eq, sumA] at h'
    obtain ⟨⟨ha, hb⟩, hs⟩ := h'
    have hs' : a + (b + 0) ≤ 1000000000000000 := of_decide_eq_true hs
    have a1 := isA_iff.1 ha
    have b1 := isA_iff.1 hb
    have h2 : totOk [b, a] = true := by
      unfold totOk
      simp only [List.all_cons, List.all_nil, Bool.and_true, Bool.and_eq_true, decide_eq_true_eq, sumA]
      exact ⟨⟨hb, ha⟩, decide_eq_true (show b + (a + 0) ≤ 1000000000000000 by omega)⟩
    have hsum : isA (a + b) = true := isA_iff.2 (by omega)
    refine ⟨rfl, h2, ?_, ?_, hsum, .inr (.inr (.inr ⟨hsum, hb, by omega, by omega, rfl⟩)), ha, hb⟩
    · unfold totV; rw [h]; simp [sumA]
    · unfold totV; rw [h2]; simp [sumA]; omega
set_option maxHeartbeats 2000000 in
theorem amountBack_walk (w : World) (a : Int) (wa : (Lit.int .i64 a).wf = true) (b : Int) (wb : (Lit.int .i64 b).wf = true) :
    Calls Try.prog 8 #[.int .i64 a, .int .i64 b] w fun e w' => e = .returned (.bool true) ∧ Below w.heap.size w w' := by
  have HB : Hid (Below w.heap.size w w) := Lib.hid (Below.refl _ _)
  have HW := Lib.hid (And.intro wa wb)
  clear wa wb
  rcases back_cases a b with h | ⟨h1, h2, h3, h4, h5, h6, h7, h8⟩
  · obtain ⟨V, hV⟩ : ∃ V, totV [a, b] = V := ⟨_, rfl⟩
    have HV := Lib.hid hV
    have HE := Lib.hid (show errA (totOk [a, b]) = 40 by rw [h]; rfl)
    clear hV h
    go_enter Try.func8, Try.ntmps8
    go_wp2_with (first
      | (go_at_call 15; refine (awake04_any _).mono ?_; rintro e w5 ⟨rfl, hb⟩; replace HB := Lib.hid (below_then (w := w) (by repeat (first | exact HB.out | refine below_alloc_ ?_ _ | exact Below.refl _ _)) hb); clear hb)
      | (go_at_call 11; refine (add_any _ _ _ HW.out.1 HW.out.2).mono ?_; rintro e w5 ⟨rfl, hb⟩; rw [HV.out, HE.out]; replace HB := Lib.hid (below_then (w := w) (by repeat (first | exact HB.out | refine below_alloc_ ?_ _ | exact Below.refl _ _)) hb); clear hb))
    go_ret
    exact ⟨rfl, HB.out⟩
  · obtain ⟨s, hs⟩ : ∃ s, a + b = s := ⟨_, rfl⟩
    rw [hs] at h3 h4 h5 h6
    have H1 := Lib.hid (show errA (totOk [a, b]) = 0 by rw [h1]; rfl)
    have H2 := Lib.hid (show errA (totOk [b, a]) = 0 by rw [h2]; rfl)
    have H3 := Lib.hid h3; have H4 := Lib.hid h4; have H5 := Lib.hid h5; have H6 := Lib.hid h6
    clear h1 h2 h3 h4 h5 h6 h7 h8 hs
    go_enter Try.func8, Try.ntmps8
    go_wp2_with (first
      | (go_at_call 15; refine (awake04_any _).mono ?_; rintro e w5 ⟨rfl, hb⟩; replace HB := Lib.hid (below_then (w := w) (by repeat (first | exact HB.out | refine below_alloc_ ?_ _ | exact Below.refl _ _)) hb); clear hb)
      | (go_at_call 11; (have := HB0; clear this); refine (add_any b a _ HW.out.2 HW.out.1).mono ?_; rintro e w5 ⟨rfl, hb⟩; rw [H4.out, H2.out]; replace HB := Lib.hid (below_then (w := w) (by repeat (first | exact HB.out | refine below_alloc_ ?_ _ | exact Below.refl _ _)) hb); clear hb)
      | (go_at_call 11; refine (add_any a b _ HW.out.1 HW.out.2).mono ?_; rintro e w5 ⟨rfl, hb⟩; rw [H3.out, H1.out]; have HB0 := trivial; replace HB := Lib.hid (below_then (w := w) (by repeat (first | exact HB.out | refine below_alloc_ ?_ _ | exact Below.refl _ _)) hb); clear hb)
      | (go_at_call 13; refine (sub_any _ _ _ _ _ H6.out).mono ?_; rintro e w1 ⟨rfl, rfl⟩)
      | (go_at_call 16; refine (acheck_any _ _).mono ?_; rintro e w1 ⟨rfl, rfl⟩; rw [H5.out, show errA true = 0 from rfl]))
    go_ret
    exact ⟨rfl, HB.out⟩
set_option maxHeartbeats 2000000 in
theorem amountFees_walk (w : World) (n : Int) (wn : (Lit.int .i64 n).wf = true) (r : Nat) (wr : (Lit.float .f64 r).wf = true) :
    Calls Try.prog 6 #[.int .i64 n, .float .f64 r] w fun e w' => e = .returned (.bool true) ∧ Below w.heap.size w w' := by
  obtain ⟨n1, n2⟩ := i64_wf wn
  have hrb := f64_wf wr
  have HB : Hid (Below w.heap.size w w) := Lib.hid (Below.refl _ _)
  obtain ⟨V, E, hF⟩ := fee_of n r
  obtain ⟨g, hg⟩ : ∃ g, rateOk r = g := ⟨_, rfl⟩
  have HF := Lib.hid hF; have HG := Lib.hid hg
  clear wn wr hF hg
  cases g
  all_goals
    go_enter Try.func6, Try.ntmps6
    go_wp2_with (first
      | (go_at_call 15; refine (awake04_any _).mono ?_; rintro e w5 ⟨rfl, hb⟩; replace HB := Lib.hid (below_then (w := w) (by repeat (first | exact HB.out | refine below_alloc_ ?_ _ | exact Below.refl _ _)) hb); clear hb)
      | (go_at_call 22; refine (fee_any _ _ _ _ _ HF.out n1 n2 hrb).mono ?_; rintro e w1 ⟨rfl, rfl⟩)
      | (go_at_call 23; refine (rfee_any _ _ _ _ _ HF.out n1 n2 hrb).mono ?_; rintro e w5 ⟨rfl, hb⟩; replace HB := Lib.hid (below_then (w := w) (by repeat (first | exact HB.out | refine below_alloc_ ?_ _ | exact Below.refl _ _)) hb); clear hb)
      | (go_at_call 24; refine (arate_any _ _ hrb).mono ?_; rintro e w1 ⟨rfl, rfl⟩; first | rw [HG.out, show errR true = 0 from rfl] | rw [HG.out, show errR false = 43 from rfl])
      | (go_at_call 25; refine (rated_any _ _ hrb).mono ?_; rintro e w1 ⟨rfl, rfl⟩; rw [HG.out]))
    go_ret
    exact ⟨rfl, HB.out⟩
end Go.Proofs.Ytefcofkodhichaa
