/- ClockRises: the walk. -/
import Derived.Test.YtdemonageoagiaaCkC
import Derived.Test.YtdemonageoagiaaCkR
import Derived.Test.YtdemonageoagiaaOpen06
import Derived.LoopTactic
import Derived.Deep.QuietTactic
import Derived.BigQuiet
set_option linter.unusedSimpArgs false
set_option linter.unusedVariables false
namespace Go.Proofs.Ytdemonageoagiaa
open Go.RowKit Mo
theorem ckSet_fl (c : Ck) (h t e : Int) : (ckSet c h t e).fl = c.fl := by unfold ckSet; split <;> rfl
theorem ckLo_is (c : Ck) (h : Int) (hE : ckNowE c h = 0) : ckLo c h = max (max (max (c.bt + (h - c.bh) - c.be) 0 - ckD c h) 0) c.fl := by unfold ckLo; rw [if_pos hE]
theorem ckHi_is (c : Ck) (h : Int) (hE : ckNowE c h = 0) : ckHi c h = max (min (min (c.bt + (h - c.bh) + c.be) 1125899906842624 + ckD c h) 1125899906842624) (ckLo c h) := by unfold ckHi; rw [if_pos hE]
theorem ckNow_is (c : Ck) (h : Int) (hE : ckNowE c h = 0) : ckNow c h = ⟨c.bh, c.bt, c.be, c.st, c.rt, h, ckLo c h⟩ := by unfold ckNow; rw [if_pos hE]
theorem ckD_is (c : Ck) (h : Int) : ckD c h = (driftBy (h - c.bh) c.rt : Nat) := rfl
theorem now_again (c : Ck) (h : Int) (hE : ckNowE c h = 0) : ckNowE (ckNow c h) h = 0 ∧ ckLo (ckNow c h) h = ckLo c h ∧ ckHi (ckNow c h) h = ckHi c h ∧ ckNow (ckNow c h) h = ckNow c h ∧ (ckNow c h).fl = ckLo c h := by
  have e := ckNow_is c h hE
  obtain ⟨d, hd⟩ : ∃ d, ckNow c h = d := ⟨_, rfl⟩
  rw [hd] at e ⊢
  have e1 : d.bh = c.bh := by rw [e]
  have e2 : d.bt = c.bt := by rw [e]
  have e3 : d.be = c.be := by rw [e]
  have e4 : d.st = c.st := by rw [e]
  have e5 : d.rt = c.rt := by rw [e]
  have e6 : d.la = h := by rw [e]
  have e7 : d.fl = ckLo c h := by rw [e]
  have hE2 : ckNowE d h = 0 := by
    unfold ckNowE at hE ⊢
    rw [e1, e2, e4, e6]
    split at hE
    · rename_i g1
      rw [if_pos g1]
      split at hE
      · rename_i g2
        rw [if_pos g2]
        split at hE
        · cases hE
        · rw [if_neg (by omega)]; exact hE
      · cases hE
    · cases hE
  have hD : ckD d h = ckD c h := by rw [ckD_is, ckD_is, e1, e5]
  have hl : ckLo d h = ckLo c h := by
    have h1 := ckLo_is d h hE2
    have h2 := ckLo_is c h hE
    rw [e1, e2, e3, e7, hD] at h1
    generalize max (max (c.bt + (h - c.bh) - c.be) 0 - ckD c h) 0 = m at *
    omega
  have hh : ckHi d h = ckHi c h := by
    rw [ckHi_is d h hE2, ckHi_is c h hE, hl, e1, e2, e3, hD]
  refine ⟨hE2, hl, hh, ?_, e7⟩
  rw [ckNow_is d h hE2, hl, e1, e2, e3, e4, e5, e]
theorem now_bounds {c : Ck} (k : c.ok) (h : Int) (hE : ckNowE c h = 0) : c.fl ≤ ckLo c h ∧ ckLo c h ≤ ckHi c h ∧ 0 ≤ ckLo c h ∧ ckHi c h ≤ 1125899906842624 := by
  have hk := ckNow_ok k h
  have e : (ckNow c h).fl = ckLo c h := by unfold ckNow; rw [if_pos hE]
  have f0 := hk.f0; have f1 := hk.f1
  rw [e] at f0 f1
  have h2 : ckLo c h = max (max (max (c.bt + (h - c.bh) - c.be) 0 - ckD c h) 0) c.fl := by unfold ckLo; rw [if_pos hE]
  have h3 : ckHi c h = max (min (min (c.bt + (h - c.bh) + c.be) 1125899906842624 + ckD c h) 1125899906842624) (ckLo c h) := by unfold ckHi; rw [if_pos hE]
  generalize max (max (c.bt + (h - c.bh) - c.be) 0 - ckD c h) 0 = m at *
  generalize min (c.bt + (h - c.bh) + c.be) 1125899906842624 + ckD c h = n at *
  omega
set_option maxRecDepth 100000 in
set_option maxHeartbeats 1000000 in
theorem clockRises_walk (w : World) (r : Nat) (wr : (Lit.float .f64 r).wf = true) (A : Option Addr) (c : Nat) (xs : List VCall06) (hr : SlOk w 4 A c (xs.flatMap VCall06.cells)) (hc : xs.length ≤ c) (hm : c ≤ maxLen) (hx : ∀ u_ ∈ xs, VCall06.ok w u_) :
    Calls Try.prog 4 #[.float .f64 r, .slice A xs.length c] w fun e w' => e = .returned (.bool true) ∧ Below w.heap.size w w' := by
  have hr9 := f64_wf wr
  have hml : xs.length ≤ 9223372036854775807 := by unfold maxLen at hm; omega
  have hr := Lib.hid (hr.reads (n := xs.length) (flatMap_len _ _ 4 (fun _ => rfl)) (by decide))
  have HX := Lib.hid hx
  have HB : Hid (Below w.heap.size w w) := Lib.hid (Below.refl _ _)
  clear hm hx wr
  cases hrt : rate6 r
  · have HR := Lib.hid hrt; clear hrt
    go_enter Try.func4, Try.ntmps4
    go_wp2_with (first | (go_at_call 11; refine (awake06_any _).mono ?_; rintro e w5 ⟨rfl, hb⟩; replace HB := Lib.hid (below_then (w := w) (by repeat (first | exact Hid.out (by assumption) | exact Below.refl _ _ | refine below_alloc_ ?_ _ | refine below_drewN_ ?_ _ | refine Below.drew ?_ | refine below_set_ ?_ (by first | exact Nat.le_refl _ | (simp; done) | (simp; omega)) _)) hb); clear hb) | (go_at_call 10; refine (cnew_bad r _ hr9 HR.out).mono ?_; rintro e w1 ⟨rfl, rfl⟩))
    go_ret
    exact ⟨rfl, by repeat (first | exact Hid.out (by assumption) | exact Below.refl _ _ | refine below_alloc_ ?_ _ | refine below_drewN_ ?_ _ | refine Below.drew ?_ | refine below_set_ ?_ (by first | exact Nat.le_refl _ | (simp; done) | (simp; omega)) _)⟩
  have HR := Lib.hid hrt; clear hrt
  go_enter Try.func4, Try.ntmps4
  go_wp2_with (go_at_call 10; refine (cnew_ok r _ hr9 HR.out).mono ?_; rintro e w1 ⟨rfl, rfl⟩)
  refine (awake06_any _).mono ?_
  rintro e w5 ⟨rfl, hb⟩
  have C5 := Lib.hid (Blk.below (g := w.heap.size) (t := 77) (cs := (ckNew r).cells) (by repeat (first | (refine Blk.new' ?_; simp; done) | (refine Blk.new' ?_; rfl) | refine Blk.alloc ?_ _ | refine Blk.drewN ?_ _ | refine Blk.drew ?_)) hb (by simp))
  replace HB := Lib.hid (below_then (w := w) (by repeat (first | exact Hid.out (by assumption) | exact Below.refl _ _ | refine below_alloc_ ?_ _ | refine below_drewN_ ?_ _ | refine Below.drew ?_ | refine below_set_ ?_ (by first | exact Nat.le_refl _ | (simp; done) | (simp; omega)) _)) hb); clear hb
  go_wp2_with fail
  go_loopw [7, 8] (fun fl i wr => ∃ (k : Nat) (c : Ck), k ≤ xs.length ∧ k ≤ 40 ∧ i = .int .i64 k ∧ fl = .int .i64 c.fl ∧ Hid c.ok ∧ Hid (Blk wr w.heap.size 77 c.cells) ∧ Hid (Below w.heap.size w wr)) (fun _ i _ => xs.length - (intOf i).toNat)
  case atStart => exact ⟨0, ckNew r, Nat.zero_le _, by omega, rfl, rfl, Lib.hid (ckNew_ok HR.out), C5, HB⟩
  case round =>
    clear C5 HB
    obtain ⟨k, c, hk, hk4, rfl, rfl, K, C, HB⟩ := hrel
    obtain ⟨wo, rfl⟩ : ∃ wo, wo = wr := ⟨_, rfl⟩
    by_cases hlt : k < xs.length
    · by_cases h40 : k < 40
      · obtain ⟨ad, hA, hadb, hcell⟩ := (hr.out.kp (S := fun _ => False) (.of_below HB.out) (fun _ _ h => h)).2 (by omega)
        subst hA
        have q := fun j (hj : j < 4) => (hcell (k * 4 + j) _ ((flatMap_at xs VCall06.cells 4 (fun _ => rfl) k j hlt hj).trans (List.getElem?_eq_getElem (by exact hj))))
        have q0 := q 0 (by omega); have q1 := q 1 (by omega); have q2 := q 2 (by omega); have q3 := q 3 (by omega)
        simp only [VCall06.cells, List.getElem_cons_zero, List.getElem_cons_succ, Nat.add_zero] at q0 q1 q2 q3
        have hok := HX.out xs[k] (List.getElem_mem _)
        generalize xs[k] = x at *
        obtain ⟨kd, hh, tt, wd⟩ := x
        obtain ⟨v0, v1, v2, v3⟩ := hok
        simp only at q0 q1 q2 q3 v0 v1 v2 v3
        replace q1 := cell_in _ 1 (by omega) q1; replace q2 := cell_in _ 2 (by omega) q2; replace q3 := cell_in _ 3 (by omega) q3
        clear q hcell
        by_cases hkd : 1 < kd ∨ kd < 0
        · rcases (show (decide (1 < kd) = true) ∨ (decide (1 < kd) = false ∧ decide (kd < 0) = true) by simp; omega) with b0 | ⟨b0, b1⟩
          all_goals
            clear hkd
            go_wp2_with fail
            refine (cset_is w.heap.size hh tt wd _ (C.out.alloc _) rfl rfl).mono ?_
            rintro e w6 ⟨rfl, hb2, hk2⟩
            have C6 := Lib.hid hb2
            replace HB := Lib.hid (below_ks (w := w) (by repeat (first | exact Hid.out (by assumption) | exact Below.refl _ _ | refine below_alloc_ ?_ _ | refine below_drewN_ ?_ _ | refine Below.drew ?_ | refine below_set_ ?_ (by first | exact Nat.le_refl _ | (simp; done) | (simp; omega)) _)) hk2)
            clear hb2 hk2
            go_wp2_with fail
            go_roundw
            case rel => exact ⟨k + 1, _, by omega, by omega, by go_num, by rw [ckSet_fl], Lib.hid (ckSet_ok K.out _ _ _), C6, HB⟩
            case measure => simp [intOf]; omega
        · have b0 : decide (1 < kd) = false := by simp; omega
          have b1 : decide (kd < 0) = false := by simp; omega
          clear hkd
          by_cases hE : ckNowE c hh = 0
          · obtain ⟨n1, n2, n3, n4, n5⟩ := now_again c hh hE
            obtain ⟨m1, m2, m3, m4⟩ := now_bounds K.out hh hE
            have K2 := Lib.hid (ckNow_ok K.out hh)
            obtain ⟨lo, hlo⟩ : ∃ lo, ckLo c hh = lo := ⟨_, rfl⟩
            obtain ⟨hi, hhi⟩ : ∃ hi, ckHi c hh = hi := ⟨_, rfl⟩
            obtain ⟨d, hd⟩ : ∃ d, ckNow c hh = d := ⟨_, rfl⟩
            rw [hd] at n1 n2 n3 n4 n5 K2
            rw [hlo] at n2 m1 m2 m3 n5
            rw [hhi] at n3 m2 m4
            obtain ⟨p, hp⟩ : ∃ p, decide (tt < lo) = p := ⟨_, rfl⟩
            have PP := Lib.hid (show (decide ((0 : Int) = 0) && decide (tt < lo)) = p by rw [hp]; simp)
            have E1 := Lib.hid hE; have E2 := Lib.hid hlo; have E3 := Lib.hid hhi; have E4 := Lib.hid hd
            have N1 := Lib.hid n1; have N2 := Lib.hid n2; have N3 := Lib.hid n3; have N4 := Lib.hid n4; have N5 := Lib.hid n5
            clear hE hlo hhi hd n1 n2 n3 n4 n5
            go_wp2_with fail
            refine (cnow_is w.heap.size hh _ K.out (C.out.alloc _) E1.out E2.out E3.out E4.out).mono ?_
            rintro e w6 ⟨rfl, hb2, hk2⟩
            have C6 := Lib.hid hb2
            have X6 := Lib.hid ((Blk.new wo 34 #[.int .i64 kd, .int .i64 hh, .int .i64 tt, .int .i64 wd]).keeps hk2 (Nat.ne_of_gt C.out.lt))
            obtain ⟨x0, x1, x2, x3⟩ := X6.out.c4
            have xl := X6.out.lt
            replace HB := Lib.hid (below_ks (w := w) (by repeat (first | exact Hid.out (by assumption) | exact Below.refl _ _ | refine below_alloc_ ?_ _ | refine below_drewN_ ?_ _ | refine Below.drew ?_ | refine below_set_ ?_ (by first | exact Nat.le_refl _ | (simp; done) | (simp; omega)) _)) hk2)
            clear hb2 hk2
            go_wp2_with fail
            refine (cpast_is w.heap.size tt hh _ K2.out (C6.out.alloc _) N1.out N2.out N3.out N4.out PP.out).mono ?_
            rintro e w7 ⟨rfl, hb2, hk2⟩
            have C7 := Lib.hid hb2
            have X7 := Lib.hid ((X6.out.alloc _).keeps hk2 (Nat.ne_of_gt C.out.lt))
            replace HB := Lib.hid (below_ks (w := w) (by repeat (first | exact Hid.out (by assumption) | exact Below.refl _ _ | refine below_alloc_ ?_ _ | refine below_drewN_ ?_ _ | refine Below.drew ?_ | refine below_set_ ?_ (by first | exact Nat.le_refl _ | (simp; done) | (simp; omega)) _)) hk2)
            clear hb2 hk2 x0 x1 x2 x3 xl
            obtain ⟨x0, x1, x2, x3⟩ := X7.out.c4
            go_wp2_with fail
            go_roundw
            case rel => exact ⟨k + 1, d, by omega, by omega, by go_num, by rw [N5.out], K2, C7, HB⟩
            case measure => simp [intOf]; omega
          · have hE' : (ckNowE c hh == 0) = false := by simpa using hE
            have e3 : ckNow c hh = c := by unfold ckNow; rw [if_neg hE]
            have E4 := Lib.hid e3
            clear hE e3
            go_wp2_with fail
            refine (cnow_is w.heap.size hh _ K.out (C.out.alloc _) rfl rfl rfl E4.out).mono ?_
            rintro e w6 ⟨rfl, hb2, hk2⟩
            have C6 := Lib.hid hb2
            replace HB := Lib.hid (below_ks (w := w) (by repeat (first | exact Hid.out (by assumption) | exact Below.refl _ _ | refine below_alloc_ ?_ _ | refine below_drewN_ ?_ _ | refine Below.drew ?_ | refine below_set_ ?_ (by first | exact Nat.le_refl _ | (simp; done) | (simp; omega)) _)) hk2)
            clear hb2 hk2
            go_wp2_with fail
            go_roundw
            case rel => exact ⟨k + 1, _, by omega, by omega, by go_num, rfl, K, Lib.hid (C6.out.alloc _), Lib.hid (below_alloc_ HB.out _)⟩
            case measure => simp [intOf]; omega
      · have hd : decide ((k : Int) < 40) = false := by simp; omega
        go_wp2_with fail
        go_ret
        exact ⟨rfl, HB.out⟩
    · have hd : decide (k < xs.length) = false := by simp; omega
      go_wp2_with fail
      go_ret
      exact ⟨rfl, HB.out⟩
end Go.Proofs.Ytdemonageoagiaa
