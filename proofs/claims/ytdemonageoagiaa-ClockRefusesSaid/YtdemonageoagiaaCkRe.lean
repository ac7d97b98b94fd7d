/- ClockRefuses: the walk. -/
import Derived.Test.YtdemonageoagiaaCkRi
set_option linter.unusedSimpArgs false
set_option linter.unusedVariables false
namespace Go.Proofs.Ytdemonageoagiaa
open Go.RowKit Mo
set_option maxRecDepth 100000 in
set_option maxHeartbeats 1000000 in
theorem clockRefuses_walk (w : World) (r : Nat) (wr : (Lit.float .f64 r).wf = true) (A : Option Addr) (c : Nat) (xs : List VCall06) (hr : SlOk w 4 A c (xs.flatMap VCall06.cells)) (hc : xs.length ≤ c) (hm : c ≤ maxLen) (hx : ∀ u_ ∈ xs, VCall06.ok w u_)
    (zk zh zt zw : Int) (wz0 : (Lit.int .i64 zk).wf = true) (wz1 : (Lit.int .i64 zh).wf = true) (wz2 : (Lit.int .i64 zt).wf = true) (wz3 : (Lit.int .i64 zw).wf = true) :
    Calls Try.prog 8 #[.float .f64 r, .slice A xs.length c, .agg #[.int .i64 zk, .int .i64 zh, .int .i64 zt, .int .i64 zw]] w fun e w' => e = .returned (.bool true) ∧ Below w.heap.size w w' := by
  have hr9 := f64_wf wr
  have hml : xs.length ≤ 9223372036854775807 := by unfold maxLen at hm; omega
  have hr := Lib.hid (hr.reads (n := xs.length) (flatMap_len _ _ 4 (fun _ => rfl)) (by decide))
  have HX := Lib.hid hx
  have HB : Hid (Below w.heap.size w w) := Lib.hid (Below.refl _ _)
  clear hm hx wr wz0 wz1 wz2 wz3
  cases hrt : rate6 r
  · have HR := Lib.hid hrt; clear hrt
    go_enter Try.func8, Try.ntmps8
    go_wp2_with (first | (go_at_call 11; refine (awake06_any _).mono ?_; rintro e w5 ⟨rfl, hb⟩; replace HB := Lib.hid (below_then (w := w) (by repeat (first | exact Hid.out (by assumption) | exact Below.refl _ _ | refine below_alloc_ ?_ _ | refine below_drewN_ ?_ _ | refine Below.drew ?_ | refine below_set_ ?_ (by first | exact Nat.le_refl _ | (simp; done) | (simp; omega)) _)) hb); clear hb) | (go_at_call 10; refine (cnew_bad r _ hr9 HR.out).mono ?_; rintro e w1 ⟨rfl, rfl⟩))
    go_ret
    exact ⟨rfl, by repeat (first | exact Hid.out (by assumption) | exact Below.refl _ _ | refine below_alloc_ ?_ _ | refine below_drewN_ ?_ _ | refine Below.drew ?_ | refine below_set_ ?_ (by first | exact Nat.le_refl _ | (simp; done) | (simp; omega)) _)⟩
  have HR := Lib.hid hrt; clear hrt
  go_enter Try.func8, Try.ntmps8
  go_wp2_with (go_at_call 10; refine (cnew_ok r _ hr9 HR.out).mono ?_; rintro e w1 ⟨rfl, rfl⟩)
  refine (awake06_any _).mono ?_
  rintro e w5 ⟨rfl, hb⟩
  have C5 := Lib.hid (Blk.below (g := w.heap.size + 1) (t := 77) (cs := (ckNew r).cells) (by repeat (first | (refine Blk.new' ?_; simp; done) | (refine Blk.new' ?_; rfl) | refine Blk.alloc ?_ _ | refine Blk.drewN ?_ _ | refine Blk.drew ?_)) hb (by (first | omega | (simp; done) | (simp; omega))))
  have D5 := Lib.hid (Blk.below (g := w.heap.size + 1 + 1) (t := 77) (cs := (ckNew r).cells) (by repeat (first | (refine Blk.new' ?_; simp; done) | (refine Blk.new' ?_; rfl) | refine Blk.alloc ?_ _ | refine Blk.drewN ?_ _ | refine Blk.drew ?_)) hb (by (first | omega | (simp; done) | (simp; omega))))
  have X5 := Lib.hid (Blk.below (g := w.heap.size) (t := 34) (cs := #[.int .i64 zk, .int .i64 zh, .int .i64 zt, .int .i64 zw]) (by repeat (first | (refine Blk.new' ?_; simp; done) | (refine Blk.new' ?_; rfl) | refine Blk.alloc ?_ _ | refine Blk.drewN ?_ _ | refine Blk.drew ?_)) hb (by (first | omega | (simp; done) | (simp; omega))))
  replace HB := Lib.hid (below_then (w := w) (by repeat (first | exact Hid.out (by assumption) | exact Below.refl _ _ | refine below_alloc_ ?_ _ | refine below_drewN_ ?_ _ | refine Below.drew ?_ | refine below_set_ ?_ (by first | exact Nat.le_refl _ | (simp; done) | (simp; omega)) _)) hb); clear hb
  go_wp2_with fail
  go_loopw [11] (fun i wr => ∃ (k : Nat) (c : Ck), k ≤ xs.length ∧ k ≤ 20 ∧ i = .int .i64 k ∧ Hid c.ok ∧ Hid (Blk wr (w.heap.size + 1) 77 c.cells) ∧ Hid (Blk wr (w.heap.size + 1 + 1) 77 c.cells) ∧ Hid (Blk wr w.heap.size 34 #[.int .i64 zk, .int .i64 zh, .int .i64 zt, .int .i64 zw]) ∧ Hid (Below w.heap.size w wr)) (fun i _ => xs.length - (intOf i).toNat)
  case atStart => exact ⟨0, ckNew r, Nat.zero_le _, by omega, rfl, Lib.hid (ckNew_ok HR.out), C5, D5, X5, HB⟩
  case round =>
    clear C5 D5 X5 HB
    obtain ⟨k, c, hk, hk4, rfl, K, C, D, X, HB⟩ := hrel
    obtain ⟨wo, rfl⟩ : ∃ wo, wo = wr := ⟨_, rfl⟩
    by_cases hlt : k < xs.length ∧ k < 20
    · obtain ⟨hlt, h40⟩ := hlt
      obtain ⟨ad, hA, hadb, hcell⟩ := (hr.out.kp (S := fun _ => False) (.of_below HB.out) (fun _ _ h => h)).2 (by omega)
      subst hA
      have q := fun j (hj : j < 4) => (hcell (k * 4 + j) _ ((flatMap_at xs VCall06.cells 4 (fun _ => rfl) k j hlt hj).trans (List.getElem?_eq_getElem (by exact hj))))
      have q0 := q 0 (by omega); have q1 := q 1 (by omega); have q2 := q 2 (by omega); have q3 := q 3 (by omega)
      simp only [VCall06.cells, List.getElem_cons_zero, List.getElem_cons_succ, Nat.add_zero] at q0 q1 q2 q3
      have hok := HX.out xs[k] (List.getElem_mem _)
      generalize xs[k] = x at *
      obtain ⟨kd, hh, tt, wd⟩ := x
      obtain ⟨v0, v1, v2, v3⟩ := hok
      simp only at q0 q1 q2 q3 v0 v1 v2 v3
      replace q1 := cell_in _ 1 (by omega) q1; replace q2 := cell_in _ 2 (by omega) q2; replace q3 := cell_in _ 3 (by omega) q3
      clear q hcell
      rcases (show (decide (1 < kd) = true) ∨ (decide (1 < kd) = false ∧ decide (kd < 0) = true) ∨ (decide (1 < kd) = false ∧ decide (kd < 0) = false) by simp; omega) with b0 | ⟨b0, b1⟩ | ⟨b0, b1⟩
      all_goals
        go_wp2_with fail
        first
          | refine (cset_is (w.heap.size + 1) hh tt wd _ (C.out.alloc _) rfl rfl).mono ?_
          | refine (cnow_is (w.heap.size + 1) hh _ K.out (C.out.alloc _) rfl rfl rfl rfl).mono ?_
        rintro e w6 ⟨rfl, hb2, hk2⟩
        have C6 := Lib.hid hb2
        have D6 := Lib.hid ((D.out.alloc _).keeps hk2 (show ¬ (w.heap.size + 1 + 1 = w.heap.size + 1) by omega))
        have X6 := Lib.hid ((X.out.alloc _).keeps hk2 (show ¬ (w.heap.size = w.heap.size + 1) by omega))
        have Y6 := Lib.hid ((Blk.new wo 34 #[.int .i64 kd, .int .i64 hh, .int .i64 tt, .int .i64 wd]).keeps hk2 (Nat.ne_of_gt C.out.lt))
        obtain ⟨x0, x1, x2, x3⟩ := Y6.out.c4
        replace HB := Lib.hid (below_kp (w := w) (by repeat (first | exact Hid.out (by assumption) | exact Below.refl _ _ | refine below_alloc_ ?_ _ | refine below_drewN_ ?_ _ | refine Below.drew ?_ | refine below_set_ ?_ (by first | exact Nat.le_refl _ | (simp; done) | (simp; omega)) _)) hk2 (Nat.le_succ _))
        clear hb2 hk2
        go_wp2_with fail
        first
          | refine (cset_is (w.heap.size + 1 + 1) hh tt wd _ D6.out rfl rfl).mono ?_
          | refine (cnow_is (w.heap.size + 1 + 1) hh _ K.out D6.out rfl rfl rfl rfl).mono ?_
        rintro e w7 ⟨rfl, hb2, hk2⟩
        have D7 := Lib.hid hb2
        have C7 := Lib.hid (C6.out.keeps hk2 (show ¬ (w.heap.size + 1 = w.heap.size + 1 + 1) by omega))
        have X7 := Lib.hid (X6.out.keeps hk2 (show ¬ (w.heap.size = w.heap.size + 1 + 1) by omega))
        replace HB := Lib.hid (below_kp HB.out hk2 (by omega))
        clear hb2 hk2
        go_wp2_with fail
        go_roundw
        case rel => exact ⟨k + 1, _, by omega, by omega, by go_num, Lib.hid (by first | exact ckSet_ok K.out _ _ _ | exact ckNow_ok K.out _), C7, D7, X7, HB⟩
        case measure => simp [intOf]; omega
    · obtain ⟨x0, x1, x2, x3⟩ := X.out.c4
      rcases (show decide (k < xs.length) = false ∨ (k < xs.length ∧ decide ((k : Int) < 20) = false) by simp; omega) with hd | ⟨hd0, hd⟩
      all_goals
        clear hlt
        by_cases hz : zk = 0
        · have bz : (zk == 0) = true := by simpa using hz
          clear hz
          obtain ⟨E, hE⟩ : ∃ E, ckNowE c zh = E := ⟨_, rfl⟩
          by_cases h0 : E = 0
          · subst h0
            have HE := Lib.hid hE; clear hE
            go_wp2_with fail
            refine (cnow_is (w.heap.size + 1) zh _ K.out C.out HE.out rfl rfl rfl).mono ?_
            rintro e w6 ⟨rfl, hb2, hk2⟩
            replace HB := Lib.hid (below_kp HB.out hk2 (Nat.le_succ _))
            clear hb2 hk2
            go_wp2_with fail
            go_ret
            exact ⟨rfl, by repeat (first | exact Hid.out (by assumption) | exact Below.refl _ _ | refine below_alloc_ ?_ _ | refine below_drewN_ ?_ _ | refine Below.drew ?_ | refine below_set_ ?_ (by first | exact Nat.le_refl _ | (simp; done) | (simp; omega)) _)⟩
          · have h0' : (E == 0) = false := by simpa using h0
            have e3 : ckNow c zh = c := by unfold ckNow; rw [if_neg (by rw [hE]; exact h0)]
            have HE := Lib.hid hE; have HE3 := Lib.hid e3; clear hE e3 h0
            go_wp2_with fail
            refine (cnow_is (w.heap.size + 1) zh _ K.out C.out HE.out rfl rfl HE3.out).mono ?_
            rintro e w6 ⟨rfl, hb2, hk2⟩
            have C6 := Lib.hid hb2
            have D6 := Lib.hid (D.out.keeps hk2 (show ¬ (w.heap.size + 1 + 1 = w.heap.size + 1) by omega))
            replace HB := Lib.hid (below_kp HB.out hk2 (Nat.le_succ _))
            clear hb2 hk2 C D X x0 x1 x2 x3
            go_wp2_with fail
            go_loopw [15] (fun i wr => ∃ (k : Nat) (c : Ck), k ≤ xs.length ∧ k ≤ 20 ∧ i = .int .i64 k ∧ Hid c.ok ∧ Hid (Blk wr (w.heap.size + 1) 77 c.cells) ∧ Hid (Blk wr (w.heap.size + 1 + 1) 77 c.cells) ∧ Hid (Below w.heap.size w wr)) (fun i _ => xs.length - (intOf i).toNat)
            case atStart => exact ⟨0, c, Nat.zero_le _, by omega, rfl, K, Lib.hid (by first | exact C6.out | exact C6.out.alloc _), Lib.hid (by first | exact D6.out | exact D6.out.alloc _), Lib.hid (by repeat (first | exact Hid.out (by assumption) | exact Below.refl _ _ | refine below_alloc_ ?_ _ | refine below_drewN_ ?_ _ | refine Below.drew ?_ | refine below_set_ ?_ (by first | exact Nat.le_refl _ | (simp; done) | (simp; omega)) _))⟩
            case round =>
              clear C6 D6 HB K h0' bz HE HE3
              try clear hd
              try clear hd0
              obtain ⟨k, c, hk, hk4, rfl, K, C, D, HB⟩ := hrel
              obtain ⟨wo, rfl⟩ : ∃ wo, wo = wr := ⟨_, rfl⟩
              by_cases hlt : k < xs.length ∧ k < 20
              · obtain ⟨hlt, h40⟩ := hlt
                obtain ⟨ad, hA, hadb, hcell⟩ := hr.out.2 (by omega)
                subst hA
                have q := fun j (hj : j < 4) => cellB HB.out (by rw [block_of_add]; exact hadb) (hcell (k * 4 + j) _ ((flatMap_at xs VCall06.cells 4 (fun _ => rfl) k j hlt hj).trans (List.getElem?_eq_getElem (by exact hj))))
                have q0 := q 0 (by omega); have q1 := q 1 (by omega); have q2 := q 2 (by omega); have q3 := q 3 (by omega)
                simp only [VCall06.cells, List.getElem_cons_zero, List.getElem_cons_succ, Nat.add_zero] at q0 q1 q2 q3
                have hok := HX.out xs[k] (List.getElem_mem _)
                generalize xs[k] = x at *
                obtain ⟨kd, hh, tt, wd⟩ := x
                obtain ⟨v0, v1, v2, v3⟩ := hok
                simp only at q0 q1 q2 q3 v0 v1 v2 v3
                replace q1 := cell_in _ 1 (by omega) q1; replace q2 := cell_in _ 2 (by omega) q2; replace q3 := cell_in _ 3 (by omega) q3
                clear q hcell
                go_wp2_with fail
                refine (cnow_is (w.heap.size + 1) hh _ K.out C.out rfl rfl rfl rfl).mono ?_
                rintro e w6 ⟨rfl, hb2, hk2⟩
                have C6 := Lib.hid hb2
                have D6 := Lib.hid (D.out.keeps hk2 (show ¬ (w.heap.size + 1 + 1 = w.heap.size + 1) by omega))
                replace HB := Lib.hid (below_kp HB.out hk2 (Nat.le_succ _))
                have p1 := keep_cell q1 hk2 (show (ad.add (k * 4)).block ≠ w.heap.size + 1 by rw [block_of_add]; omega)
                have pl := World.block_lt_of_cell? w6 _ p1
                clear hb2 hk2 C D
                go_wp2_with fail
                refine (cnow_is (w.heap.size + 1 + 1) hh _ K.out (D6.out.alloc _) rfl rfl rfl rfl).mono ?_
                rintro e w7 ⟨rfl, hb2, hk2⟩
                have D7 := Lib.hid hb2
                have C7 := Lib.hid ((C6.out.alloc _).keeps hk2 (show ¬ (w.heap.size + 1 = w.heap.size + 1 + 1) by omega))
                have S7 := Lib.hid ((Blk.new w6 39 #[.int .i64 (ckLo c hh), .int .i64 (ckHi c hh)]).keeps hk2 (Nat.ne_of_gt D6.out.lt))
                replace HB := Lib.hid (below_kp (w := w) (by repeat (first | exact Hid.out (by assumption) | exact Below.refl _ _ | refine below_alloc_ ?_ _ | refine below_drewN_ ?_ _ | refine Below.drew ?_ | refine below_set_ ?_ (by first | exact Nat.le_refl _ | (simp; done) | (simp; omega)) _)) hk2 (by omega))
                clear hb2 hk2
                obtain ⟨s0, s1⟩ := S7.out.c2
                have sl := S7.out.lt
                go_wp2_with fail
                go_roundw
                case rel => exact ⟨k + 1, _, by omega, by omega, by go_num, Lib.hid (ckNow_ok K.out _), Lib.hid (C7.out.alloc _), Lib.hid (D7.out.alloc _), Lib.hid (below_alloc_ HB.out _)⟩
                case measure => simp [intOf]; omega
              · rcases (show decide (k < xs.length) = false ∨ (k < xs.length ∧ decide ((k : Int) < 20) = false) by simp; omega) with hd | ⟨hd0, hd⟩
                all_goals
                  go_wp2_with fail
                  go_ret
                  exact ⟨rfl, HB.out⟩
        · have bz : (zk == 0) = false := by simpa using hz
          clear hz
          obtain ⟨E, hE⟩ : ∃ E, ckSetE c zh zt zw = E := ⟨_, rfl⟩
          by_cases h0 : E = 0
          · subst h0
            have HE := Lib.hid hE; clear hE
            go_wp2_with fail
            refine (cset_is (w.heap.size + 1) zh zt zw _ C.out HE.out rfl).mono ?_
            rintro e w6 ⟨rfl, hb2, hk2⟩
            replace HB := Lib.hid (below_kp HB.out hk2 (Nat.le_succ _))
            clear hb2 hk2
            go_wp2_with fail
            go_ret
            exact ⟨rfl, by repeat (first | exact Hid.out (by assumption) | exact Below.refl _ _ | refine below_alloc_ ?_ _ | refine below_drewN_ ?_ _ | refine Below.drew ?_ | refine below_set_ ?_ (by first | exact Nat.le_refl _ | (simp; done) | (simp; omega)) _)⟩
          · have h0' : (E == 0) = false := by simpa using h0
            have e3 : ckSet c zh zt zw = c := by unfold ckSet; rw [if_neg (by rw [hE]; exact h0)]
            have HE := Lib.hid hE; have HE3 := Lib.hid e3; clear hE e3 h0
            go_wp2_with fail
            refine (cset_is (w.heap.size + 1) zh zt zw _ C.out HE.out HE3.out).mono ?_
            rintro e w6 ⟨rfl, hb2, hk2⟩
            have C6 := Lib.hid hb2
            have D6 := Lib.hid (D.out.keeps hk2 (show ¬ (w.heap.size + 1 + 1 = w.heap.size + 1) by omega))
            replace HB := Lib.hid (below_kp HB.out hk2 (Nat.le_succ _))
            clear hb2 hk2 C D X x0 x1 x2 x3
            go_wp2_with fail
            go_loopw [15] (fun i wr => ∃ (k : Nat) (c : Ck), k ≤ xs.length ∧ k ≤ 20 ∧ i = .int .i64 k ∧ Hid c.ok ∧ Hid (Blk wr (w.heap.size + 1) 77 c.cells) ∧ Hid (Blk wr (w.heap.size + 1 + 1) 77 c.cells) ∧ Hid (Below w.heap.size w wr)) (fun i _ => xs.length - (intOf i).toNat)
            case atStart => exact ⟨0, c, Nat.zero_le _, by omega, rfl, K, Lib.hid (by first | exact C6.out | exact C6.out.alloc _), Lib.hid (by first | exact D6.out | exact D6.out.alloc _), Lib.hid (by repeat (first | exact Hid.out (by assumption) | exact Below.refl _ _ | refine below_alloc_ ?_ _ | refine below_drewN_ ?_ _ | refine Below.drew ?_ | refine below_set_ ?_ (by first | exact Nat.le_refl _ | (simp; done) | (simp; omega)) _))⟩
            case round =>
              clear C6 D6 HB K h0' bz HE HE3
              try clear hd
              try clear hd0
              obtain ⟨k, c, hk, hk4, rfl, K, C, D, HB⟩ := hrel
              obtain ⟨wo, rfl⟩ : ∃ wo, wo = wr := ⟨_, rfl⟩
              by_cases hlt : k < xs.length ∧ k < 20
              · obtain ⟨hlt, h40⟩ := hlt
                obtain ⟨ad, hA, hadb, hcell⟩ := hr.out.2 (by omega)
                subst hA
                have q := fun j (hj : j < 4) => cellB HB.out (by rw [block_of_add]; exact hadb) (hcell (k * 4 + j) _ ((flatMap_at xs VCall06.cells 4 (fun _ => rfl) k j hlt hj).trans (List.getElem?_eq_getElem (by exact hj))))
                have q0 := q 0 (by omega); have q1 := q 1 (by omega); have q2 := q 2 (by omega); have q3 := q 3 (by omega)
                simp only [VCall06.cells, List.getElem_cons_zero, List.getElem_cons_succ, Nat.add_zero] at q0 q1 q2 q3
                have hok := HX.out xs[k] (List.getElem_mem _)
                generalize xs[k] = x at *
                obtain ⟨kd, hh, tt, wd⟩ := x
                obtain ⟨v0, v1, v2, v3⟩ := hok
                simp only at q0 q1 q2 q3 v0 v1 v2 v3
                replace q1 := cell_in _ 1 (by omega) q1; replace q2 := cell_in _ 2 (by omega) q2; replace q3 := cell_in _ 3 (by omega) q3
                clear q hcell
                go_wp2_with fail
                refine (cnow_is (w.heap.size + 1) hh _ K.out C.out rfl rfl rfl rfl).mono ?_
                rintro e w6 ⟨rfl, hb2, hk2⟩
                have C6 := Lib.hid hb2
                have D6 := Lib.hid (D.out.keeps hk2 (show ¬ (w.heap.size + 1 + 1 = w.heap.size + 1) by omega))
                replace HB := Lib.hid (below_kp HB.out hk2 (Nat.le_succ _))
                have p1 := keep_cell q1 hk2 (show (ad.add (k * 4)).block ≠ w.heap.size + 1 by rw [block_of_add]; omega)
                have pl := World.block_lt_of_cell? w6 _ p1
                clear hb2 hk2 C D
                go_wp2_with fail
                refine (cnow_is (w.heap.size + 1 + 1) hh _ K.out (D6.out.alloc _) rfl rfl rfl rfl).mono ?_
                rintro e w7 ⟨rfl, hb2, hk2⟩
                have D7 := Lib.hid hb2
                have C7 := Lib.hid ((C6.out.alloc _).keeps hk2 (show ¬ (w.heap.size + 1 = w.heap.size + 1 + 1) by omega))
                have S7 := Lib.hid ((Blk.new w6 39 #[.int .i64 (ckLo c hh), .int .i64 (ckHi c hh)]).keeps hk2 (Nat.ne_of_gt D6.out.lt))
                replace HB := Lib.hid (below_kp (w := w) (by repeat (first | exact Hid.out (by assumption) | exact Below.refl _ _ | refine below_alloc_ ?_ _ | refine below_drewN_ ?_ _ | refine Below.drew ?_ | refine below_set_ ?_ (by first | exact Nat.le_refl _ | (simp; done) | (simp; omega)) _)) hk2 (by omega))
                clear hb2 hk2
                obtain ⟨s0, s1⟩ := S7.out.c2
                have sl := S7.out.lt
                go_wp2_with fail
                go_roundw
                case rel => exact ⟨k + 1, _, by omega, by omega, by go_num, Lib.hid (ckNow_ok K.out _), Lib.hid (C7.out.alloc _), Lib.hid (D7.out.alloc _), Lib.hid (below_alloc_ HB.out _)⟩
                case measure => simp [intOf]; omega
              · rcases (show decide (k < xs.length) = false ∨ (k < xs.length ∧ decide ((k : Int) < 20) = false) by simp; omega) with hd | ⟨hd0, hd⟩
                all_goals
                  go_wp2_with fail
                  go_ret
                  exact ⟨rfl, HB.out⟩
end Go.Proofs.Ytdemonageoagiaa
