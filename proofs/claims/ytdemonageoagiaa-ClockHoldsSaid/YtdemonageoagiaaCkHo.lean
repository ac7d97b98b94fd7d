/- ClockHolds: the walk. -/
import Derived.Test.YtdemonageoagiaaCkT
import Derived.Test.YtdemonageoagiaaCkH
import Derived.Deep.DrawnRows
set_option linter.unusedSimpArgs false
set_option linter.unusedVariables false
namespace Go.Proofs.Ytdemonageoagiaa
open Go.RowKit Mo
attribute [local go_sem] run_store_float
attribute [local go_sem ↓] Go.wp_at_zero Go.wp_at_succ
set_option maxRecDepth 100000 in
set_option maxHeartbeats 2000000 in
theorem clockHolds_walk (w : World) (r : Nat) (wr : (Lit.float .f64 r).wf = true) (t0 : Int) (wt : (Lit.int .i64 t0).wf = true) (A : Option Addr) (c : Nat) (xs : List VStep) (hr : SlOk w 5 A c (xs.flatMap VStep.cells)) (hc : xs.length ≤ c) (hm : c ≤ maxLen) (hx : ∀ u_ ∈ xs, VStep.ok w u_) :
    Calls Try.prog 5 #[.float .f64 r, .int .i64 t0, .slice A xs.length c] w fun e w' => e = .returned (.bool true) ∧ Below w.heap.size w w' := by
  have hr9 := f64_wf wr
  have hml : xs.length ≤ 9223372036854775807 := by unfold maxLen at hm; omega
  have hr := Lib.hid (hr.reads (n := xs.length) (flatMap_len _ _ 5 (fun _ => rfl)) (by decide))
  have HX := Lib.hid hx
  have HB : Hid (Below w.heap.size w w) := Lib.hid (Below.refl _ _)
  clear hm hx wr wt
  cases hrt : rate6 r
  · have HR := Lib.hid hrt; clear hrt
    go_enter Try.func5, Try.ntmps5
    go_wp2_with (first | (go_at_call 11; refine (awake06_any _).mono ?_; rintro e w5 ⟨rfl, hb⟩; replace HB := Lib.hid (below_then (w := w) (by repeat (first | exact Hid.out (by assumption) | exact Below.refl _ _ | refine below_alloc_ ?_ _ | refine below_drewN_ ?_ _ | refine Below.drew ?_ | refine below_set_ ?_ (by first | exact Nat.le_refl _ | (simp; done) | (simp; omega)) _)) hb); clear hb) | (go_at_call 12; refine (rated6_any r _ hr9).mono ?_; rintro e w1 ⟨rfl, rfl⟩; rw [HR.out]))
    go_ret
    exact ⟨rfl, by repeat (first | exact Hid.out (by assumption) | exact Below.refl _ _ | refine below_alloc_ ?_ _ | refine below_drewN_ ?_ _ | refine Below.drew ?_ | refine below_set_ ?_ (by first | exact Nat.le_refl _ | (simp; done) | (simp; omega)) _)⟩
  have HR := Lib.hid hrt; clear hrt
  obtain ⟨T, eT, hT0, hT1⟩ := and40 t0
  obtain ⟨y, hy⟩ : ∃ y, max (T + bro t0 7) 0 = y := ⟨_, rfl⟩
  have I0 := Lib.hid (hold_begun r HR.out T y 7 t0 hT0 hT1 (by omega) (by omega) hy)
  have HY := Lib.hid hy; have ET := Lib.hid eT
  clear hy eT
  go_enter Try.func5, Try.ntmps5
  go_wp2_with (first | (go_at_call 11; refine (awake06_any _).mono ?_; rintro e w5 ⟨rfl, hb⟩; replace HB := Lib.hid (below_then (w := w) (by repeat (first | exact Hid.out (by assumption) | exact Below.refl _ _ | refine below_alloc_ ?_ _ | refine below_drewN_ ?_ _ | refine Below.drew ?_ | refine below_set_ ?_ (by first | exact Nat.le_refl _ | (simp; done) | (simp; omega)) _)) hb); clear hb) | (go_at_call 12; refine (rated6_any r _ hr9).mono ?_; rintro e w1 ⟨rfl, rfl⟩; rw [HR.out]))
  refine (begun_ok r t0 7 t0 _ hr9 HR.out (by omega) (by omega) T y ET.out HY.out hT0 hT1).mono ?_
  rintro e w6 ⟨rfl, hC, hb⟩
  have C6 := Lib.hid hC; clear hC
  have hsz := hb.size
  have hs5 := HB.out.size
  replace HB := Lib.hid (below_then (w := w) (by repeat (first | exact Hid.out (by assumption) | exact Below.refl _ _ | refine below_alloc_ ?_ _ | refine below_drewN_ ?_ _ | refine Below.drew ?_ | refine below_set_ ?_ (by first | exact Nat.le_refl _ | (simp; done) | (simp; omega)) _)) hb); clear hb
  go_wp2_with fail
  have hgl := C6.out.lt
  have hg1 : w.heap.size ≤ w5.heap.size + 1 := by omega
  have hg2 : w.heap.size ≤ w6.heap.size := by omega
  have hg3 : w5.heap.size + 1 ≠ w6.heap.size := by omega
  have R6 : Hid (Blk (w6.alloc (.cells #[.pointer (some ⟨w5.heap.size + 1, 0, none⟩), .float .f64 r, .int .i64 0, .int .i64 T] 49)) w6.heap.size 49 #[.pointer (some ⟨w5.heap.size + 1, 0, none⟩), .float .f64 r, .int .i64 0, .int .i64 T]) := Lib.hid (Blk.new w6 _ _)
  clear hsz hs5
  go_loopw [8, 9] (fun ok i wr => ∃ (k : Nat) (c : Ck) (h t : Int), k ≤ xs.length ∧ k ≤ 40 ∧ ok = .bool true ∧ i = .int .i64 k ∧ Hid (HInv r c h t k) ∧ Hid (Blk wr (w5.heap.size + 1) 77 c.cells) ∧ Hid (Blk wr w6.heap.size 49 #[.pointer (some ⟨w5.heap.size + 1, 0, none⟩), .float .f64 r, .int .i64 h, .int .i64 t]) ∧ Hid (Below w.heap.size w wr)) (fun _ i _ => xs.length - (intOf i).toNat)
  case atStart => exact ⟨0, _, 0, T, Nat.zero_le _, by omega, rfl, rfl, I0, Lib.hid (C6.out.alloc _), R6, Lib.hid (below_alloc_ HB.out _)⟩
  case round =>
    clear C6 R6 HB I0 hgl
    obtain ⟨k, c, h, t, hk, hk4, rfl, rfl, I, C, R, HB⟩ := hrel
    obtain ⟨wo, rfl⟩ : ∃ wo, wo = wr := ⟨_, rfl⟩
    by_cases hlt : k < xs.length ∧ k < 40
    · obtain ⟨hlt, h40⟩ := hlt
      obtain ⟨ad, hA, hadb, hcell⟩ := hr.out.2 (by omega)
      subst hA
      have q := fun j (hj : j < 5) => cellB HB.out (by rw [block_of_add]; exact hadb) (hcell (k * 5 + j) _ ((flatMap_at xs VStep.cells 5 (fun _ => rfl) k j hlt hj).trans (List.getElem?_eq_getElem (by exact hj))))
      have q0 := q 0 (by omega); have q1 := q 1 (by omega); have q2 := q 2 (by omega); have q3 := q 3 (by omega); have q4 := q 4 (by omega)
      simp only [VStep.cells, List.getElem_cons_zero, List.getElem_cons_succ, Nat.add_zero] at q0 q1 q2 q3 q4
      have hok := HX.out xs[k] (List.getElem_mem _)
      generalize xs[k] = x at *
      obtain ⟨dh, sk, st, e, off⟩ := x
      obtain ⟨v0, v1, v2, v3⟩ := hok
      simp only at q0 q1 q2 q3 q4 v0 v1 v2 v3
      replace q1 := cell_in _ 1 (by omega) q1; replace q2 := cell_in _ 2 (by omega) q2; replace q3 := cell_in _ 3 (by omega) q3; replace q4 := cell_in _ 4 (by omega) q4
      obtain ⟨d0, d1⟩ : 0 ≤ dh ∧ dh ≤ 4294967295 := by simpa [Lit.wf, IntKind.min, IntKind.max, IntKind.signed, IntKind.bits] using v0
      obtain ⟨e0, e1⟩ : 0 ≤ e ∧ e ≤ 65535 := by simpa [Lit.wf, IntKind.min, IntKind.max, IntKind.signed, IntKind.bits] using v2
      clear q hcell v0 v1 v2 v3
      obtain ⟨M, B, B2, y, c', s1, s2, s3, s4, s5, s6, s7, s8, I2⟩ := hold_step I.out HR.out (by omega) dh sk st e off d0 d1 e0 e1
      have S1 := Lib.hid s1; have S2 := Lib.hid s2; have S5 := Lib.hid s5; have S6 := Lib.hid s6; have S7 := Lib.hid s7; have S8 := Lib.hid s8
      have bnds : 0 ≤ h ∧ h ≤ 4398046511104 ∧ 0 ≤ t ∧ t ≤ 4398046511104 := by
        obtain ⟨S, _, _, _, b0, b1, b2, b3⟩ := I.out
        have : (k : Int) * 8589934590 ≤ 40 * 8589934590 := by omega
        exact ⟨b0, by omega, b2, by omega⟩
      obtain ⟨b0, b1, b2, b3⟩ := bnds
      clear s1 s2 s5 s6 s7 s8
      obtain ⟨r0, r1, r2, r3⟩ := R.out.c4
      have j0 := R.out.frozen 0; have j1 := R.out.frozen 1; have j2 := R.out.frozen 2; have j3 := R.out.frozen 3
      have rl := R.out.lt
      have hgr : ¬ (w6.heap.size = w5.heap.size + 1) := fun h => hg3 h.symm
      go_wp2_with fail
      go_region_with (go_at_call 19; refine (step_any (w5.heap.size + 1) c c' r h t dh sk st e off _ (by exact C.out) hr9 M B S1.out S2.out s3 s4 S5.out b0 b1 b2 b3 d0 d1 e0 e1 B2 y S6.out S7.out S8.out).mono ?_; rintro e7 w7 ⟨rfl, hb7, hk7⟩; have R7 := Lib.hid (Blk.keeps (w := wo.drew) R.out hk7 hgr); have C7 := Lib.hid hb7; have HB7 := Lib.hid (below_kp (w := w) (Below.drew HB.out) hk7 hg1); clear hb7 hk7; obtain ⟨p0, p1, p2, p3⟩ := R7.out.c4; have i0 := R7.out.frozen 0; have i1 := R7.out.frozen 1; have i2 := R7.out.frozen 2; have i3 := R7.out.frozen 3; have pl := R7.out.lt)
      all_goals
        go_wp2_with fail
        obtain ⟨n1, n2, n3, I3⟩ := hold_now I2 (by omega)
        obtain ⟨lo, hlo⟩ : ∃ lo, ckLo c' (h + dh) = lo := ⟨_, rfl⟩
        obtain ⟨hi, hhi⟩ : ∃ hi, ckHi c' (h + dh) = hi := ⟨_, rfl⟩
        rw [hlo] at n2; rw [hhi] at n3
        have N1 := Lib.hid n1; have LO := Lib.hid hlo; have HI := Lib.hid hhi
        have IK := Lib.hid I2; have IK3 := Lib.hid I3
        clear n1 hlo hhi I3
        refine (cnow_is (c := c') (w5.heap.size + 1) (h + dh) _ (by obtain ⟨S, RR, _⟩ := IK.out; exact RR.ok) (by exact (Blk.far (Blk.far (Blk.far (Blk.far C7.out hg3 _) hg3 _) hg3 _) hg3 _)) N1.out LO.out HI.out rfl).mono ?_
        rintro e8 w8 ⟨rfl, hb8, hk8⟩
        have C8 := Lib.hid hb8
        have R8 := Lib.hid (Blk.keeps (g := w6.heap.size) (t := 49) (cs := #[.pointer (some ⟨w5.heap.size + 1, 0, none⟩), .float .f64 r, .int .i64 (h + dh), .int .i64 (t + dh + B)]) (by exact (blk_upd (blk_upd (blk_upd (blk_upd R7.out rfl) rfl) rfl) rfl)) hk8 hgr)
        replace HB := Lib.hid (below_kp (w := w) (by refine below_set_ ?_ hg2 _; refine below_set_ ?_ hg2 _; refine below_set_ ?_ hg2 _; refine below_set_ ?_ hg2 _; exact HB7.out) hk8 hg1)
        clear hb8 hk8 p0 p1 p2 p3 i0 i1 i2 i3 pl r0 r1 r2 r3 j0 j1 j2 j3 rl
        obtain ⟨r0, r1, r2, r3⟩ := R8.out.c4
        have rl := R8.out.lt
        have a1 : ¬ (t + dh + B < lo) := by omega
        have a2 : ¬ (hi < t + dh + B) := by omega
        go_wp2_with fail
        go_roundw
        case rel => exact ⟨k + 1, _, h + dh, t + dh + B, by omega, by omega, rfl, by go_num, IK3, Lib.hid (C8.out.alloc _), Lib.hid (R8.out.alloc _), Lib.hid (below_alloc_ HB.out _)⟩
        case measure => simp [intOf]; omega
    · rcases (show decide (k < xs.length) = false ∨ (k < xs.length ∧ decide ((k : Int) < 40) = false) by simp; omega) with hd | ⟨hd0, hd⟩
      all_goals
        go_wp2_with fail
        go_ret
        exact ⟨rfl, HB.out⟩
end Go.Proofs.Ytdemonageoagiaa
