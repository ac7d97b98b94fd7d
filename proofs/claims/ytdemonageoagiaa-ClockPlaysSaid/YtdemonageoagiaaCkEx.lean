/- ClockExact: the walk. -/
import Derived.Test.YtdemonageoagiaaCkC
import Derived.Test.YtdemonageoagiaaCkR
import Derived.Test.YtdemonageoagiaaOpen06
import Derived.IntWalk
import Derived.Laws.BitsAllLaws
import Derived.Laws.Bits128
import Derived.LoopTactic
import Derived.Deep.QuietTactic
import Derived.BigQuiet
set_option linter.unusedSimpArgs false
set_option linter.unusedVariables false
namespace Go.Proofs.Ytdemonageoagiaa
open Go.RowKit Mo
theorem exact_now (a b la f h t : Int) (c : Ck) (hc : c = ⟨a, b, 0, true, 0, la, f⟩) (ha : 0 ≤ a) (h1 : a ≤ la) (h2 : la ≤ h) (h3 : h ≤ 1125899906842624) (hb : 0 ≤ b) (hf : f ≤ t) (ht : t = b + (h - a)) (hm : t ≤ 1125899906842624) :
    ckNowE c h = 0 ∧ ckLo c h = t ∧ ckHi c h = t ∧ ckNow c h = ⟨a, b, 0, true, 0, h, t⟩ := by
  have hE : ckNowE c h = 0 := by subst hc; exact ckNowE_zero (by omega) h3 rfl h2 (by simp; omega)
  have hd : driftBy (h - a) 0 = 0 := by
    unfold driftBy
    have : Mo.part 0 = 0 := by decide
    rw [this, Nat.mul_zero, cdiv_zero]
  have hl : ckLo c h = t := by
    unfold ckLo ckD; rw [if_pos hE, hc]; simp only [hd]; omega
  have hh : ckHi c h = t := by
    unfold ckHi ckD; rw [if_pos hE, hl, hc]; simp only [hd]; omega
  refine ⟨hE, hl, hh, ?_⟩
  unfold ckNow; rw [if_pos hE, hl, hc]
theorem exact_ok (a b la f : Int) (ha : 0 ≤ a) (h1 : a ≤ la) (h2 : la ≤ 1125899906842624) (hb : 0 ≤ b) (hb2 : b ≤ 1125899906842624) (hf : 0 ≤ f) (hf2 : f ≤ 1125899906842624) : (⟨a, b, 0, true, 0, la, f⟩ : Ck).ok := ⟨ha, h1, h2, hb, hb2, by simp, by simp, hf, hf2, (by decide : rate6 0 = true)⟩
theorem i64_and40 (n : Int) : bits .and .i64 n 1099511627775 = n % 1099511627776 := by
  have h : (BitVec.ofInt 64 1099511627775).toNat = 2 ^ 40 - 1 := by decide
  have key : (BitVec.ofInt 64 n &&& BitVec.ofInt 64 1099511627775).toNat = (n % ((2 ^ 64 : Nat) : Int)).toNat % 2 ^ 40 := by
    rw [BitVec.toNat_and, BitVec.toNat_ofInt, h, Nat.and_two_pow_sub_one_eq_mod]
  show IntKind.i64.wrap ((BitVec.ofInt 64 n &&& BitVec.ofInt 64 1099511627775).toNat : Nat) = n % 1099511627776
  rw [key, IntKind.wrap_i64]
  omega
theorem and40 (n : Int) : ∃ m, bits .and .i64 n 1099511627775 = m ∧ 0 ≤ m ∧ m ≤ 1099511627775 := ⟨_, i64_and40 n, by omega, by omega⟩
set_option maxRecDepth 100000 in
set_option maxHeartbeats 1000000 in
theorem clockExact_walk (w : World) (h0 : Int) (wh : (Lit.int .i64 h0).wf = true) (t0 : Int) (wt : (Lit.int .i64 t0).wf = true) (A : Option Addr) (c : Nat) (xs : List Int) (hr : SlOk w 1 A c (xs.map (Value.int .u32))) (hc : xs.length ≤ c) (hm : c ≤ maxLen) (hx : ∀ u_ ∈ xs, (Lit.int .u32 u_).wf = true) :
    Calls Try.prog 7 #[.int .i64 h0, .int .i64 t0, .slice A xs.length c] w fun e w' => e = .returned (.bool true) ∧ Below w.heap.size w w' := by
  obtain ⟨i1, i2⟩ := i64_wf wh
  obtain ⟨i3, i4⟩ := i64_wf wt
  have hml : xs.length ≤ 9223372036854775807 := by unfold maxLen at hm; omega
  have hr := Lib.hid (hr.reads (n := xs.length) (by simp) (by decide))
  have HX := Lib.hid hx
  have HB : Hid (Below w.heap.size w w) := Lib.hid (Below.refl _ _)
  obtain ⟨H, eH, hH0, hH1⟩ := and40 h0
  obtain ⟨T, eT, hT0, hT1⟩ := and40 t0
  have hset : ckSetE (ckNew 0) H T 0 = 0 := by
    unfold ckSetE
    rw [if_pos (by simp only [Bool.and_eq_true, inT_iff]; omega), if_neg (by simp [ckNew]; omega)]
  have hset2 : ckSet (ckNew 0) H T 0 = ⟨H, T, 0, true, 0, H, 0⟩ := by unfold ckSet; rw [if_pos hset]; rfl
  have S1 := Lib.hid hset; have S2 := Lib.hid hset2
  clear hm hx wh wt hset hset2
  go_enter Try.func7, Try.ntmps7
  go_wp2_with (go_at_call 10; refine (cnew_ok _ _ (by decide) (by decide)).mono ?_; rintro e w1 ⟨rfl, rfl⟩)
  refine (awake06_any _).mono ?_
  rintro e w5 ⟨rfl, hb⟩
  have C5 := Lib.hid (Blk.below (g := w.heap.size) (t := 77) (cs := (ckNew 0).cells) (by repeat (first | (refine Blk.new' ?_; simp; done) | (refine Blk.new' ?_; rfl) | refine Blk.alloc ?_ _ | refine Blk.drewN ?_ _ | refine Blk.drew ?_)) hb (by simp))
  replace HB := Lib.hid (below_then (w := w) (by repeat (first | exact Hid.out (by assumption) | exact Below.refl _ _ | refine below_alloc_ ?_ _ | refine below_drewN_ ?_ _ | refine Below.drew ?_ | refine below_set_ ?_ (by first | exact Nat.le_refl _ | (simp; done) | (simp; omega)) _)) hb); clear hb
  go_wp2_with fail
  refine (cset_is w.heap.size H T 0 _ C5.out S1.out S2.out).mono ?_
  rintro e w6 ⟨rfl, hb2, hk2⟩
  have C6 := Lib.hid hb2
  replace HB := Lib.hid (below_ks HB.out hk2)
  clear hb2 hk2 C5
  go_wp2_with fail
  go_loopw [0, 1, 9] (fun h t i wr => ∃ (k : Nat) (x f : Int), k ≤ xs.length ∧ k ≤ 40 ∧ 0 ≤ x ∧ x ≤ k * 4294967295 ∧ i = .int .i64 k ∧ h = .int .i64 (H + x) ∧ t = .int .i64 (T + x) ∧ 0 ≤ f ∧ f ≤ T + x ∧ Hid (Blk wr w.heap.size 77 (Ck.cells ⟨H, T, 0, true, 0, H + x, f⟩)) ∧ Hid (Below w.heap.size w wr)) (fun _ _ i _ => xs.length - (intOf i).toNat)
  case atStart => exact ⟨0, 0, 0, Nat.zero_le _, by omega, by omega, by omega, rfl, by simp, by simp, by omega, by omega, by rw [Int.add_zero]; exact C6, HB⟩
  case round =>
    clear C6 HB S1 S2
    obtain ⟨k, x, f, hk, hk4, hx0, hx1, rfl, rfl, rfl, hf0, hf1, C, HB⟩ := hrel
    by_cases hlt : k < xs.length
    · by_cases h40 : k < 40
      · obtain ⟨ad, u, rfl, hadb, hu, hcell⟩ := (hr.out.kp (S := fun _ => False) (.of_below HB.out) (fun _ _ h => h)).at_ hlt
        obtain ⟨d, hd⟩ : ∃ d, xs[k] = d := ⟨_, rfl⟩
        obtain rfl : u = .int .u32 d := by simp [hlt, hd] at hu; rw [← hu]
        have hw := HX.out xs[k] (List.getElem_mem _)
        rw [hd] at hw
        obtain ⟨d1, d2⟩ : 0 ≤ d ∧ d ≤ 4294967295 := by simpa [Lit.wf, IntKind.min, IntKind.max, IntKind.signed, IntKind.bits] using hw
        clear hu hd hw
        have y1 : IntKind.i64.wrap d = d := IntWalk.i64_in _ (by omega)
        have y2 : IntKind.i64.wrap (H + x + d) = H + x + d := IntWalk.i64_in _ (by omega)
        have y3 : IntKind.i64.wrap (T + x + d) = T + x + d := IntWalk.i64_in _ (by omega)
        have y4 : IntKind.i64.wrap (T + x + d - 1) = T + x + d - 1 := IntWalk.i64_in _ (by omega)
        have hHd : H + x + d ≤ 1125899906842624 := by omega
        have hTd : T + x + d ≤ 1125899906842624 := by omega
        have N1 := Lib.hid (exact_now H T (H + x) f (H + x + d) (T + x + d) _ rfl hH0 (by omega) (by omega) hHd hT0 (by omega) (by omega) hTd)
        have N2 := Lib.hid (exact_now H T (H + x + d) (T + x + d) (H + x + d) (T + x + d) _ rfl hH0 (by omega) (by omega) hHd hT0 (by omega) (by omega) hTd)
        have K1 := Lib.hid (exact_ok H T (H + x) f hH0 (by omega) (by omega) hT0 (by omega) hf0 (by omega))
        have K2 := Lib.hid (exact_ok H T (H + x + d) (T + x + d) hH0 (by omega) (by omega) hT0 (by omega) (by omega) hTd)
        have P1 := Lib.hid (show (decide ((0 : Int) = 0) && decide (T + x + d < T + x + d)) = false by simp)
        have P2 := Lib.hid (show (decide ((0 : Int) = 0) && decide (T + x + d - 1 < T + x + d)) = true by simp; omega)
        go_wp2_with fail
        go_quiet (fail)
        go_wp2_with fail
        refine (cnow_is w.heap.size (H + x + d) _ K1.out (by exact C.out) N1.out.1 N1.out.2.1 N1.out.2.2.1 N1.out.2.2.2).mono ?_
        rintro e w7 ⟨rfl, hb2, hk2⟩
        have C7 := Lib.hid hb2
        replace HB := Lib.hid (below_ks (w := w) (by repeat (first | exact Hid.out (by assumption) | exact Below.refl _ _ | refine below_alloc_ ?_ _ | refine below_drewN_ ?_ _ | refine Below.drew ?_ | refine below_set_ ?_ (by first | exact Nat.le_refl _ | (simp; done) | (simp; omega)) _)) hk2)
        clear hb2 hk2
        go_wp2_with fail
        refine (cpast_is w.heap.size (T + x + d) (H + x + d) _ K2.out (C7.out.alloc _) N2.out.1 N2.out.2.1 N2.out.2.2.1 N2.out.2.2.2 P1.out).mono ?_
        rintro e w8 ⟨rfl, hb2, hk2⟩
        have C8 := Lib.hid hb2
        have A8 := Lib.hid ((Blk.new w7 39 #[.int .i64 (T + x + d), .int .i64 (T + x + d)]).keeps hk2 (Nat.ne_of_gt C7.out.lt))
        replace HB := Lib.hid (below_ks (below_alloc_ HB.out _) hk2)
        clear hb2 hk2
        go_wp2_with fail
        refine (cpast_is w.heap.size (T + x + d - 1) (H + x + d) _ K2.out C8.out N2.out.1 N2.out.2.1 N2.out.2.2.1 N2.out.2.2.2 P2.out).mono ?_
        rintro e w9 ⟨rfl, hb2, hk2⟩
        have C9 := Lib.hid hb2
        have A9 := Lib.hid (A8.out.keeps hk2 (Nat.ne_of_gt C7.out.lt))
        replace HB := Lib.hid (below_ks HB.out hk2)
        clear hb2 hk2
        obtain ⟨a0, a1⟩ := A9.out.c2
        go_wp2_with fail
        go_roundw
        case rel => exact ⟨k + 1, x + d, T + x + d, by omega, by omega, by omega, by omega, by go_num, by rw [Int.add_assoc], by rw [Int.add_assoc], by omega, by omega, by rw [← Int.add_assoc]; exact C9, HB⟩
        case measure => simp [intOf]; omega
      · have hd : decide ((k : Int) < 40) = false := by simp; omega
        go_wp2_with fail
        go_ret
        exact ⟨rfl, HB.out⟩
    · have hd : decide (k < xs.length) = false := by simp; omega
      go_wp2_with fail
      go_ret
      exact ⟨rfl, HB.out⟩
end Go.Proofs.Ytdemonageoagiaa
