/- The book: Move, refused as too full. -/
import Derived.Test.YtkfpopilkagedaaLgV4
set_option linter.unusedSimpArgs false
set_option linter.unusedVariables false
namespace Go.Proofs.Ytkfpopilkagedaa
open Go.RowKit Mo
theorem addR {x n : Int} {K : Int} (w : World) (hx : isA x = true) (hn : isA n = true) (hk : errA (isA (x + n)) = K) : Calls Try.prog 26 #[.int .i64 x, .int .i64 n] w fun e w' => (∃ V, e = .returned (.tuple #[.int .i64 V, .int .i64 K])) ∧ Below w.heap.size w w' := by
  obtain ⟨x0, x1⟩ := isA_iff.1 hx
  obtain ⟨n0, n1⟩ := isA_iff.1 hn
  have e : totOk [x, n] = isA (x + n) := by
    unfold totOk isA at *
    simp only [List.all_cons, List.all_nil, Bool.and_true, sumA, Int.add_zero]
    rw [hx, hn, decide_eq_true (show 0 ≤ x + n by omega)]
    rfl
  refine (add_any x n w (by simp [Lit.wf, IntKind.min, IntKind.max, IntKind.signed, IntKind.bits]; omega) (by simp [Lit.wf, IntKind.min, IntKind.max, IntKind.signed, IntKind.bits]; omega)).mono ?_
  rintro e' w' ⟨rfl, hb⟩
  exact ⟨⟨_, by rw [e, hk]⟩, hb⟩
set_option maxRecDepth 100000 in
set_option maxHeartbeats 2000000 in
theorem move_full (b r m k : Nat) (f : Int → Option (Int × Int)) (a c n fee x y p q : Int) (w : World) (h : Bk w b r m k f) (ho : mvOk a c n) (wa : (Lit.int .i64 a).wf = true) (wc : (Lit.int .i64 c).wf = true) (hf : f a = some (x, y)) (hr : rateOk r = true) (hb : r < 18446744073709551616) (hfee : prodV n r false = fee) (hs : n + fee ≤ x) (hg : f c = some (p, q)) (hp : isA p = true) (hz : isA (p + n) = false) :
    Calls Try.prog 14 #[.pointer (some ⟨b, 0, none⟩), .int .i64 a, .int .i64 c, .int .i64 n] w fun e w' => e = .returned (.tuple #[.int .i64 0, .int .i64 148]) ∧ Below w.heap.size w w' := by
  obtain ⟨q0, q1⟩ := h.b.c2
  have bl := h.b.lt
  have hl := h.m.look wa
  have hl2 := (h.m.alloc (.cells #[.int .i64 x, .int .i64 y] 61)).look wc
  rw [hf] at hl
  rw [hg] at hl2
  unfold accV at hl hl2
  simp only [Option.getD_some, Option.isSome_some] at hl hl2
  obtain ⟨ha, hc, h1, hn, hne⟩ := ho
  obtain ⟨n0, n1⟩ := isA_iff.1 hn
  have hv := fee_val n r n0 n1 hr
  have f0 : 0 ≤ fee ∧ fee ≤ n := by rw [← hfee]; exact ⟨by rw [hv.2.1]; omega, hv.2.2⟩
  have w1 : IntKind.i64.wrap (n + fee) = n + fee := IntWalk.i64_in _ (by omega)
  have HA := Lib.hid ha; have HC := Lib.hid hc; have HN := Lib.hid hn; have HR := Lib.hid hr; have HF := Lib.hid hfee; have HP := Lib.hid hp
  have HZ := Lib.hid (show errA (isA (p + n)) = 40 by rw [hz]; rfl)
  have d : decide (n < 1) = false := by simp; omega
  have d1 : (a == c) = false := by simp; exact hne
  have d2 : decide (x < n + fee) = false := by simp; omega
  clear ha hc hn h hr hfee hv hp hz
  go_enter Try.func14, Try.ntmps14
  go_wp2_with (first | (go_at_call 23; with_reducible refine (isa_t (a := a) _ HA.out).mono ?_; rintro e w1 ⟨rfl, rfl⟩) | (go_at_call 23; with_reducible refine (isa_t (a := c) _ HC.out).mono ?_; rintro e w1 ⟨rfl, rfl⟩) | (go_at_call 24; with_reducible refine (chk_t _ HN.out).mono ?_; rintro e w1 ⟨rfl, rfl⟩) | (go_at_call 25; with_reducible refine (feeR _ HN.out HR.out hb HF.out).mono ?_; rintro e w1 ⟨rfl, rfl⟩) | (go_at_call 26; with_reducible refine (addR _ HP.out HN.out HZ.out).mono ?_; rintro e w9 ⟨⟨V, rfl⟩, hb9⟩))
  go_ret2
  exact ⟨rfl, below_then (w := w) (by repeat (first | exact Below.refl _ _ | refine below_alloc_ ?_ _ | refine Below.drew ?_)) hb9⟩
end Go.Proofs.Ytkfpopilkagedaa
