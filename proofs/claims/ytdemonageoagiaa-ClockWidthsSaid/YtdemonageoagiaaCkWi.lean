/- ClockWidths: the walk. -/
import Derived.Test.YtdemonageoagiaaCkC
import Derived.Test.YtdemonageoagiaaCkR
import Derived.Test.YtdemonageoagiaaOpen06
import Derived.Test.YtdemonageoagiaaProdG
import Derived.IntWalk
import Derived.Deep.QuietTactic
import Derived.BigQuiet
set_option linter.unusedSimpArgs false
set_option linter.unusedVariables false
namespace Go.Proofs.Ytdemonageoagiaa
open Go.RowKit Mo
theorem widths_law (r : Nat) (t e d D : Int) (hr : rate6 r = true) (t0 : 0 ≤ t) (e0 : 0 ≤ e) (d0 : 0 ≤ d) (hd : d ≤ 4294967295) (hm : t + d ≤ 1125899906842624) (hD : (driftBy d r : Int) = D) (c : Ck) (hc : c = ⟨0, t, e, true, r, 0, 0⟩) :
    ckNowE c d = 0 ∧ 0 ≤ ckLo c d ∧ ckLo c d ≤ t + d ∧ t + d ≤ ckHi c d ∧ ckHi c d ≤ 1125899906842624 ∧ t + d - ckLo c d ≤ e + D ∧ ckHi c d - (t + d) ≤ e + D ∧ (ckLo c d = 0 ∨ t + d - ckLo c d = e + D) ∧ (ckHi c d = 1125899906842624 ∨ ckHi c d - (t + d) = e + D) := by
  have hE : ckNowE c d = 0 := by subst hc; exact ckNowE_zero d0 (by omega) rfl d0 (by simp; omega)
  have hl : ckLo c d = max (max (max (t + d - e) 0 - D) 0) 0 := by
    unfold ckLo ckD; rw [if_pos hE, hc]; simp only [Int.sub_zero]; rw [hD]
  have hh : ckHi c d = max (min (min (t + d + e) 1125899906842624 + D) 1125899906842624) (ckLo c d) := by
    unfold ckHi ckD; rw [if_pos hE, hc]; simp only [Int.sub_zero]; rw [hD]
  have hD0 : 0 ≤ D := by omega
  refine ⟨hE, ?_⟩
  generalize ckLo c d = L at *
  generalize ckHi c d = H at *
  obtain ⟨a, ha⟩ : ∃ a, max (t + d - e) 0 = a := ⟨_, rfl⟩
  obtain ⟨b, hb⟩ : ∃ b, max (a - D) 0 = b := ⟨_, rfl⟩
  obtain ⟨f, hf⟩ : ∃ f, min (t + d + e) 1125899906842624 = f := ⟨_, rfl⟩
  obtain ⟨g, hg⟩ : ∃ g, min (f + D) 1125899906842624 = g := ⟨_, rfl⟩
  rw [ha, hb] at hl
  rw [hf, hg] at hh
  clear hD hE hc hr
  omega
set_option maxHeartbeats 1000000 in
theorem clockWidths_walk (w : World) (r : Nat) (wr : (Lit.float .f64 r).wf = true) (t : Int) (wt : (Lit.int .i64 t).wf = true) (e d : Int) (we : (Lit.int .i64 e).wf = true) (wd : (Lit.int .u32 d).wf = true) :
    Calls Try.prog 9 #[.float .f64 r, .int .i64 t, .agg #[.int .i64 e, .int .u32 d]] w fun e w' => e = .returned (.bool true) ∧ Below w.heap.size w w' := by
  have hr9 := f64_wf wr
  obtain ⟨t1, t2⟩ := i64_wf wt
  obtain ⟨e1, e2⟩ := i64_wf we
  have hd : 0 ≤ d ∧ d ≤ 4294967295 := by simpa [Lit.wf, IntKind.min, IntKind.max, IntKind.signed, IntKind.bits] using wd
  obtain ⟨d1, d2⟩ := hd
  clear wr wt we wd
  have HB : Hid (Below w.heap.size w w) := Lib.hid (Below.refl _ _)
  cases hr : rate6 r
  · have HR := Lib.hid hr; clear hr
    go_enter Try.func9, Try.ntmps9
    go_wp2_with fail
    go_quiet (fail)
    go_wp2_with (first | (go_at_call 11; refine (awake06_any _).mono ?_; rintro e w5 ⟨rfl, hb⟩; replace HB := Lib.hid (below_then (w := w) (by repeat (first | exact Hid.out (by assumption) | exact Below.refl _ _ | refine below_alloc_ ?_ _ | refine below_drewN_ ?_ _ | refine Below.drew ?_ | refine below_set_ ?_ (by first | exact Nat.le_refl _ | (simp; done) | (simp; omega)) _)) hb); clear hb) | (go_at_call 10; refine (cnew_bad r _ hr9 HR.out).mono ?_; rintro e w1 ⟨rfl, rfl⟩))
    go_ret
    exact ⟨rfl, by repeat (first | exact Hid.out (by assumption) | exact Below.refl _ _ | refine below_alloc_ ?_ _ | refine below_drewN_ ?_ _ | refine Below.drew ?_ | refine below_set_ ?_ (by first | exact Nat.le_refl _ | (simp; done) | (simp; omega)) _)⟩
  · have HR := Lib.hid hr; clear hr
    go_enter Try.func9, Try.ntmps9
    go_wp2_with fail
    go_quiet (fail)
    go_wp2_with (first | (go_at_call 10; refine (cnew_ok r _ hr9 HR.out).mono ?_; rintro e w1 ⟨rfl, rfl⟩))
    refine (awake06_any _).mono ?_
    rintro e w5 ⟨rfl, hb⟩
    have C5 := Lib.hid (Blk.below (g := w.heap.size + 1) (t := 77) (cs := (ckNew r).cells) (by repeat (first | (refine Blk.new' ?_; simp; done) | (refine Blk.new' ?_; rfl) | refine Blk.alloc ?_ _ | refine Blk.drewN ?_ _ | refine Blk.drew ?_)) hb (by simp))
    replace HB := Lib.hid (below_then (w := w) (by repeat (first | exact Hid.out (by assumption) | exact Below.refl _ _ | refine below_alloc_ ?_ _ | refine below_drewN_ ?_ _ | refine Below.drew ?_ | refine below_set_ ?_ (by first | exact Nat.le_refl _ | (simp; done) | (simp; omega)) _)) hb); clear hb
    by_cases hE : ckSetE (ckNew r) 0 t e = 0
    · have hc : ckSet (ckNew r) 0 t e = ⟨0, t, e, true, r, 0, 0⟩ := by unfold ckSet; rw [if_pos hE]; rfl
      have hin : (0 ≤ t ∧ t ≤ 1125899906842624) ∧ 0 ≤ e ∧ e ≤ 1125899906842624 := by
        unfold ckSetE at hE
        by_cases h : (inT 0 && inT t && inT e) = true
        · simp only [Bool.and_eq_true, inT_iff] at h; omega
        · rw [if_neg h] at hE; cases hE
      obtain ⟨⟨i1, i2⟩, i3, i4⟩ := hin
      have hok := ckSet_ok (ckNew_ok HR.out) 0 t e
      rw [hc] at hok
      have HE := Lib.hid hE; have HC := Lib.hid hc; have HOK := Lib.hid hok
      clear hE hc hok
      have hwr : IntKind.i64.wrap d = d := IntWalk.i64_in _ (by omega)
      obtain ⟨D, hD⟩ : ∃ D, (driftBy d r : Int) = D := ⟨_, rfl⟩
      have hD0 : 0 ≤ D := by omega
      have hD1 : D ≤ 4294967295 := by have := drift_le d r (rate6_ok HR.out); omega
      by_cases hm : t + d ≤ 1125899906842624
      · obtain ⟨l0, l1, l2, l3, l4, l5, l6, l7, l8⟩ := widths_law r t e d D HR.out i1 i3 d1 d2 hm hD _ rfl
        generalize hlo : ckLo ⟨0, t, e, true, r, 0, 0⟩ d = L at *
        generalize hhi : ckHi ⟨0, t, e, true, r, 0, 0⟩ d = H at *
        have L0 := Lib.hid l0; have LLO := Lib.hid hlo; have LHI := Lib.hid hhi; have HD := Lib.hid hD
        clear l0 hlo hhi hD
        go_wp2_with fail
        refine (cset_is (c := ckNew r) (w.heap.size + 1) 0 t e _ C5.out HE.out HC.out).mono ?_
        rintro e w6 ⟨rfl, hb2, hk2⟩
        have C6 := Lib.hid hb2
        replace HB := Lib.hid (below_kp HB.out hk2 (Nat.le_succ _))
        clear hb2 hk2 C5
        go_wp2_with fail
        refine (cnow_is (w.heap.size + 1) d _ HOK.out C6.out L0.out LLO.out LHI.out rfl).mono ?_
        rintro e w7 ⟨rfl, hb2, hk2⟩
        have HS : Hid (Blk (w7.alloc (.cells #[.int .i64 L, .int .i64 H] 39)) w7.heap.size 39 #[.int .i64 L, .int .i64 H]) := Lib.hid (Blk.new w7 _ _)
        replace HB := Lib.hid (below_kp HB.out hk2 (Nat.le_succ _))
        clear hb2 hk2 C6
        go_wp2_with fail
        refine (rproduct_any d r true _ (by omega) (by omega) hr9).mono ?_
        rintro e w8 ⟨rfl, hb⟩
        obtain ⟨z1, z2, z3, z4⟩ := drift_num d r (rate6_ok HR.out) d1 (by omega)
        rw [z3, z4, HD.out]
        clear z1 z2 z3 z4
        obtain ⟨s0, s1⟩ := (HS.out.below hb HS.out.lt).c2
        replace HB := Lib.hid (below_then (w := w) (by repeat (first | exact Hid.out (by assumption) | exact Below.refl _ _ | refine below_alloc_ ?_ _ | refine below_drewN_ ?_ _ | refine Below.drew ?_ | refine below_set_ ?_ (by first | exact Nat.le_refl _ | (simp; done) | (simp; omega)) _)) hb); clear hb
        clear hm hwr
        rcases (show (L == 0) = true ∨ ((L == 0) = false ∧ (t + d - L == e + D) = true) by
          rcases l7 with h | h
          · left; simpa using h
          · by_cases h0 : L = 0
            · left; simpa using h0
            · right; exact ⟨by simpa using h0, by simpa using h⟩) with m1 | ⟨m1, m2⟩
        all_goals rcases (show (H == 1125899906842624) = true ∨ ((H == 1125899906842624) = false ∧ (H - (t + d) == e + D) = true) by
          rcases l8 with h | h
          · left; simpa using h
          · by_cases h0 : H = 1125899906842624
            · left; simpa using h0
            · right; exact ⟨by simpa using h0, by simpa using h⟩) with m3 | ⟨m3, m4⟩
        all_goals
          clear l7 l8
          go_wp2_with fail
          go_ret
          exact ⟨rfl, HB.out⟩
      · have h64 : ckNowE ⟨0, t, e, true, r, 0, 0⟩ d = 64 := by
          unfold ckNowE
          rw [if_pos (inT_iff.2 (by omega)), if_pos rfl, if_neg (by simp; omega), if_pos (by simp; omega)]
        have hlo : ckLo ⟨0, t, e, true, r, 0, 0⟩ d = 0 := by unfold ckLo; rw [if_neg (by rw [h64]; decide)]
        have hhi : ckHi ⟨0, t, e, true, r, 0, 0⟩ d = 0 := by unfold ckHi; rw [if_neg (by rw [h64]; decide)]
        have L0 := Lib.hid h64; have LLO := Lib.hid hlo; have LHI := Lib.hid hhi
        clear h64 hlo hhi hD
        go_wp2_with fail
        refine (cset_is (c := ckNew r) (w.heap.size + 1) 0 t e _ C5.out HE.out HC.out).mono ?_
        rintro e w6 ⟨rfl, hb2, hk2⟩
        have C6 := Lib.hid hb2
        replace HB := Lib.hid (below_kp HB.out hk2 (Nat.le_succ _))
        clear hb2 hk2 C5
        go_wp2_with fail
        refine (cnow_is (w.heap.size + 1) d _ HOK.out C6.out L0.out LLO.out LHI.out rfl).mono ?_
        rintro e w7 ⟨rfl, hb2, hk2⟩
        replace HB := Lib.hid (below_kp HB.out hk2 (Nat.le_succ _))
        clear hb2 hk2 C6
        go_wp2_with fail
        go_ret
        exact ⟨rfl, by repeat (first | exact Hid.out (by assumption) | exact Below.refl _ _ | refine below_alloc_ ?_ _ | refine below_drewN_ ?_ _ | refine Below.drew ?_ | refine below_set_ ?_ (by first | exact Nat.le_refl _ | (simp; done) | (simp; omega)) _)⟩
    · have HE := Lib.hid hE
      obtain ⟨E, hEE⟩ : ∃ E, ckSetE (ckNew r) 0 t e = E := ⟨_, rfl⟩
      have h0 : (E == 0) = false := by rw [hEE] at hE; simpa using hE
      have HEE := Lib.hid hEE
      clear hE hEE
      go_wp2_with fail
      refine (cset_is (c := ckNew r) (w.heap.size + 1) 0 t e _ C5.out HEE.out rfl).mono ?_
      rintro e w6 ⟨rfl, hb2, hk2⟩
      replace HB := Lib.hid (below_kp HB.out hk2 (Nat.le_succ _))
      clear hb2 hk2 C5
      go_wp2_with (go_at_call 11; refine (awake06_any _).mono ?_; rintro e w5 ⟨rfl, hb⟩; replace HB := Lib.hid (below_then (w := w) (by repeat (first | exact Hid.out (by assumption) | exact Below.refl _ _ | refine below_alloc_ ?_ _ | refine below_drewN_ ?_ _ | refine Below.drew ?_ | refine below_set_ ?_ (by first | exact Nat.le_refl _ | (simp; done) | (simp; omega)) _)) hb); clear hb)
      go_ret
      exact ⟨rfl, by repeat (first | exact Hid.out (by assumption) | exact Below.refl _ _ | refine below_alloc_ ?_ _ | refine below_drewN_ ?_ _ | refine Below.drew ?_ | refine below_set_ ?_ (by first | exact Nat.le_refl _ | (simp; done) | (simp; omega)) _)⟩
end Go.Proofs.Ytdemonageoagiaa
