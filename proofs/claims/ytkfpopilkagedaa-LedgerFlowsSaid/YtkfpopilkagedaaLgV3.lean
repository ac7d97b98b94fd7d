/- The book: Move, refused by what accounts have. -/
import Derived.Test.YtkfpopilkagedaaLgV2
set_option linter.unusedSimpArgs false
set_option linter.unusedVariables false
namespace Go.Proofs.Ytkfpopilkagedaa
open Go.RowKit Mo
theorem feeR {n : Int} {r : Nat} {fee : Int} (w : World) (hn : isA n = true) (hr : rateOk r = true) (hb : r < 18446744073709551616) (hf : prodV n r false = fee) : Calls Try.prog 25 #[.int .i64 n, .float .f64 r] w fun e w' => e = .returned (.tuple #[.int .i64 fee, .int .i64 0]) ∧ w = w' := by
  obtain ⟨h0, h1⟩ := isA_iff.1 hn
  have hv := fee_val n r h0 h1 hr
  refine fee_any n r fee 0 w (.inr (.inr ⟨hn, hr, hf.symm, hv.1.symm⟩)) (by omega) (by omega) hb
set_option maxRecDepth 100000 in
set_option maxHeartbeats 2000000 in
theorem move_from (b r m k : Nat) (f : Int → Option (Int × Int)) (a c n : Int) (w : World) (h : Bk w b r m k f) (ho : mvOk a c n) (wa : (Lit.int .i64 a).wf = true) (hf : f a = none) :
    Calls Try.prog 14 #[.pointer (some ⟨b, 0, none⟩), .int .i64 a, .int .i64 c, .int .i64 n] w fun e w' => e = .returned (.tuple #[.int .i64 0, .int .i64 145]) ∧ Below w.heap.size w w' := by
  obtain ⟨q0, q1⟩ := h.b.c2
  have bl := h.b.lt
  have hl := h.m.look wa
  rw [hf] at hl
  unfold accV at hl
  simp only [Option.getD_none, Option.isSome_none] at hl
  obtain ⟨ha, hc, h1, hn, hne⟩ := ho
  have HA := Lib.hid ha; have HC := Lib.hid hc; have HN := Lib.hid hn
  have d : decide (n < 1) = false := by simp; omega
  have d1 : (a == c) = false := by simp; exact hne
  clear ha hc hn h
  go_enter Try.func14, Try.ntmps14
  go_wp2_with (first | (go_at_call 23; with_reducible refine (isa_t (a := a) _ HA.out).mono ?_; rintro e w1 ⟨rfl, rfl⟩) | (go_at_call 23; with_reducible refine (isa_t (a := c) _ HC.out).mono ?_; rintro e w1 ⟨rfl, rfl⟩) | (go_at_call 24; with_reducible refine (chk_t _ HN.out).mono ?_; rintro e w1 ⟨rfl, rfl⟩))
  go_ret2
  exact ⟨rfl, by repeat (first | exact Below.refl _ _ | refine below_alloc_ ?_ _ | refine Below.drew ?_)⟩
set_option maxRecDepth 100000 in
set_option maxHeartbeats 2000000 in
theorem move_short (b r m k : Nat) (f : Int → Option (Int × Int)) (a c n fee x y : Int) (w : World) (h : Bk w b r m k f) (ho : mvOk a c n) (wa : (Lit.int .i64 a).wf = true) (hf : f a = some (x, y)) (hr : rateOk r = true) (hb : r < 18446744073709551616) (hfee : prodV n r false = fee) (hs : x < n + fee) :
    Calls Try.prog 14 #[.pointer (some ⟨b, 0, none⟩), .int .i64 a, .int .i64 c, .int .i64 n] w fun e w' => e = .returned (.tuple #[.int .i64 0, .int .i64 146]) ∧ Below w.heap.size w w' := by
  obtain ⟨q0, q1⟩ := h.b.c2
  have bl := h.b.lt
  have hl := h.m.look wa
  rw [hf] at hl
  unfold accV at hl
  simp only [Option.getD_some, Option.isSome_some] at hl
  obtain ⟨ha, hc, h1, hn, hne⟩ := ho
  obtain ⟨n0, n1⟩ := isA_iff.1 hn
  have hv := fee_val n r n0 n1 hr
  have f0 : 0 ≤ fee ∧ fee ≤ n := by rw [← hfee]; exact ⟨by rw [hv.2.1]; omega, hv.2.2⟩
  have w1 : IntKind.i64.wrap (n + fee) = n + fee := IntWalk.i64_in _ (by omega)
  have HA := Lib.hid ha; have HC := Lib.hid hc; have HN := Lib.hid hn; have HR := Lib.hid hr; have HF := Lib.hid hfee
  have d : decide (n < 1) = false := by simp; omega
  have d1 : (a == c) = false := by simp; exact hne
  clear ha hc hn h hr hfee hv
  go_enter Try.func14, Try.ntmps14
  go_wp2_with (first | (go_at_call 23; with_reducible refine (isa_t (a := a) _ HA.out).mono ?_; rintro e w1 ⟨rfl, rfl⟩) | (go_at_call 23; with_reducible refine (isa_t (a := c) _ HC.out).mono ?_; rintro e w1 ⟨rfl, rfl⟩) | (go_at_call 24; with_reducible refine (chk_t _ HN.out).mono ?_; rintro e w1 ⟨rfl, rfl⟩) | (go_at_call 25; with_reducible refine (feeR _ HN.out HR.out hb HF.out).mono ?_; rintro e w1 ⟨rfl, rfl⟩))
  go_ret2
  exact ⟨rfl, by repeat (first | exact Below.refl _ _ | refine below_alloc_ ?_ _ | refine Below.drew ?_)⟩
end Go.Proofs.Ytkfpopilkagedaa
