/- The book: Move, refused by whom it goes to. -/
import Derived.Test.YtkfpopilkagedaaLgV3
set_option linter.unusedSimpArgs false
set_option linter.unusedVariables false
namespace Go.Proofs.Ytkfpopilkagedaa
open Go.RowKit Mo
set_option maxRecDepth 100000 in
set_option maxHeartbeats 2000000 in
theorem move_to (b r m k : Nat) (f : Int → Option (Int × Int)) (a c n fee x y : Int) (w : World) (h : Bk w b r m k f) (ho : mvOk a c n) (wa : (Lit.int .i64 a).wf = true) (wc : (Lit.int .i64 c).wf = true) (hf : f a = some (x, y)) (hr : rateOk r = true) (hb : r < 18446744073709551616) (hfee : prodV n r false = fee) (hs : n + fee ≤ x) (hg : f c = none) :
    Calls Try.prog 14 #[.pointer (some ⟨b, 0, none⟩), .int .i64 a, .int .i64 c, .int .i64 n] w fun e w' => e = .returned (.tuple #[.int .i64 0, .int .i64 147]) ∧ Below w.heap.size w w' := by
  obtain ⟨q0, q1⟩ := h.b.c2
  have bl := h.b.lt
  have hl := h.m.look wa
  have hl2 := (h.m.alloc (.cells #[.int .i64 x, .int .i64 y] 61)).look wc
  rw [hf] at hl
  rw [hg] at hl2
  unfold accV at hl hl2
  simp only [Option.getD_some, Option.isSome_some] at hl
  simp only [Option.getD_none, Option.isSome_none] at hl2
  obtain ⟨ha, hc, h1, hn, hne⟩ := ho
  obtain ⟨n0, n1⟩ := isA_iff.1 hn
  have hv := fee_val n r n0 n1 hr
  have f0 : 0 ≤ fee ∧ fee ≤ n := by rw [← hfee]; exact ⟨by rw [hv.2.1]; omega, hv.2.2⟩
  have w1 : IntKind.i64.wrap (n + fee) = n + fee := IntWalk.i64_in _ (by omega)
  have HA := Lib.hid ha; have HC := Lib.hid hc; have HN := Lib.hid hn; have HR := Lib.hid hr; have HF := Lib.hid hfee
  have d : decide (n < 1) = false := by simp; omega
  have d1 : (a == c) = false := by simp; exact hne
  have d2 : decide (x < n + fee) = false := by simp; omega
  clear ha hc hn h hr hfee hv
  go_enter Try.func14, Try.ntmps14
  go_wp2_with (first | (go_at_call 23; with_reducible refine (isa_t (a := a) _ HA.out).mono ?_; rintro e w1 ⟨rfl, rfl⟩) | (go_at_call 23; with_reducible refine (isa_t (a := c) _ HC.out).mono ?_; rintro e w1 ⟨rfl, rfl⟩) | (go_at_call 24; with_reducible refine (chk_t _ HN.out).mono ?_; rintro e w1 ⟨rfl, rfl⟩) | (go_at_call 25; with_reducible refine (feeR _ HN.out HR.out hb HF.out).mono ?_; rintro e w1 ⟨rfl, rfl⟩))
  go_ret2
  exact ⟨rfl, by repeat (first | exact Below.refl _ _ | refine below_alloc_ ?_ _ | refine Below.drew ?_)⟩
end Go.Proofs.Ytkfpopilkagedaa
