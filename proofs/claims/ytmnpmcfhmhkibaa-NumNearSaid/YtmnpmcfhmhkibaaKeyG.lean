/- Contracts: math.Floor and Ceil's extern, and num.whole, Floor, Ceil. -/
import Derived.Test.YtmnpmcfhmhkibaaKeyW
import Derived.Test.YtmnpmcfhmhkibaaFloatI
set_option linter.unusedSimpArgs false
set_option linter.unusedVariables false
namespace Go.Proofs.Ytmnpmcfhmhkibaa
open Go.RowKit Mo
def wholeW (b : Nat) (up : Bool) : Nat := FloatKind.f64.encode ((FloatKind.f64.decode b).integral (if up then Ieee.Toward.up else Ieee.Toward.down))
theorem whole_sem (n : String) (way : Ieee.Toward) (b : Nat) : ∃ N : Bool → Nat → Sem Value, Extern.MathFloor.toIntegral n way #[.float .f64 b] =
    (match FloatKind.f64.decode b with | .nan s t => N s t | d => pure (.float .f64 (FloatKind.f64.encode (d.integral way)))) := ⟨_, rfl⟩
theorem whole_pure (n : String) (way : Ieee.Toward) (b : Nat) (h : ∀ s t, FloatKind.f64.decode b ≠ .nan s t) : Extern.MathFloor.toIntegral n way #[.float .f64 b] = pure (.float .f64 (FloatKind.f64.encode ((FloatKind.f64.decode b).integral way))) := by
  obtain ⟨N, e⟩ := whole_sem n way b
  rw [e]
  cases hd : FloatKind.f64.decode b with
  | nan s t => exact absurd hd (h s t)
  | infinity s => rfl
  | number s m p => rfl
theorem run_floor (b : Nat) (w : World) (h : ∀ s t, FloatKind.f64.decode b ≠ .nan s t) : (callFunc 55 #[.float .f64 b]).run Try.prog w = .ok (.value (.float .f64 (wholeW b false))) w := by
  have e : (callFunc 55 #[.float .f64 b]).run Try.prog w = ((Extern.MathFloor.toIntegral "math.archFloor" .down #[.float .f64 b]) >>= fun v => pure (Next.value v)).run Try.prog w := by kernel_rfl
  rw [e, whole_pure _ _ _ h]
  rfl
theorem run_ceil (b : Nat) (w : World) (h : ∀ s t, FloatKind.f64.decode b ≠ .nan s t) : (callFunc 57 #[.float .f64 b]).run Try.prog w = .ok (.value (.float .f64 (wholeW b true))) w := by
  have e : (callFunc 57 #[.float .f64 b]).run Try.prog w = ((Extern.MathFloor.toIntegral "math.archCeil" .up #[.float .f64 b]) >>= fun v => pure (Next.value v)).run Try.prog w := by kernel_rfl
  rw [e, whole_pure _ _ _ h]
  rfl
/-- what a whole float is as an int64, or why it is none -/
def WholeIs (g : Nat) (V E : Int) : Prop :=
  ((FloatKind.f64.format.order g 14114281232179134464 == some Ordering.lt) = true ∧ V = 0 ∧ E = 11) ∨
  ((FloatKind.f64.format.order g 14114281232179134464 == some Ordering.lt) = false ∧ (FloatKind.f64.format.order g 4890909195324358656 == some Ordering.gt || FloatKind.f64.format.order g 4890909195324358656 == some Ordering.eq) = true ∧ V = 0 ∧ E = 11) ∨
  ((FloatKind.f64.format.order g 14114281232179134464 == some Ordering.lt) = false ∧ (FloatKind.f64.format.order g 4890909195324358656 == some Ordering.gt || FloatKind.f64.format.order g 4890909195324358656 == some Ordering.eq) = false ∧ floatToIntVal .f64 g .i64 = some V ∧ E = 0)
set_option maxHeartbeats 1000000 in
theorem whole_any (g : Nat) (V E : Int) (w : World) (h : WholeIs g V E) : Calls Try.prog 47 #[.float .f64 g] w fun e w' => e = .returned (.tuple #[.int .i64 V, .int .i64 E]) ∧ w = w' := by
  rcases h with ⟨e1, rfl, rfl⟩ | ⟨e1, e2, rfl, rfl⟩ | ⟨e1, e2, hv, rfl⟩
  · go_enter Try.func47, Try.ntmps47
    go_wp2
    go_ret2
    exact ⟨rfl, rfl⟩
  · go_enter Try.func47, Try.ntmps47
    go_wp2
    go_ret2
    exact ⟨rfl, rfl⟩
  · have hc : ∀ w : World, (convert 22 2 (.float .f64 g)).run Try.prog w = .ok (.int .i64 V) w := fun w => run_convert_float_int w _ _ _ _ _ _ (by kernel_rfl) (by kernel_rfl) hv
    clear hv
    go_enter Try.func47, Try.ntmps47
    go_wp2
    go_ret2
    exact ⟨rfl, rfl⟩
theorem whole_is (b : Nat) (up : Bool) (hb : b < 18446744073709551616) (hn : isNaN b = false) : WholeIs (wholeW b up) (prodV 1 b up) (prodE 1 b up) ∧ wholeW b up < 18446744073709551616 ∧ ∀ s t, FloatKind.f64.decode b ≠ .nan s t := by
  have hr : rung b ≤ 9218868437227405312 := by unfold isNaN at hn; simpa using hn
  have k1 : isNaN 14114281232179134464 = false := by decide
  have k2 : isNaN 4890909195324358656 = false := by decide
  have k3 : ikey 14114281232179134464 = -4890909195324358656 := by decide
  have k4 : ikey 4890909195324358656 = 4890909195324358656 := by decide
  have hg1 : pneg 1 b = isNeg b := by unfold pneg; simp
  rcases (show rung b = 9218868437227405312 ∨ rung b < 9218868437227405312 by omega) with h | h
  · -- infinity
    have hd : FloatKind.f64.decode b = .infinity (isNeg b) := by
      refine (read_eq b hb).trans ?_
      rw [if_neg (by omega), if_neg (by omega), if_pos h]
    have hw : wholeW b up = b := by
      unfold wholeW
      rw [hd]
      show Ieee.double.write (.infinity (isNeg b)) = b
      have : Ieee.double.write (.infinity (isNeg b)) = Ieee.double.word (isNeg b) 9218868437227405312 := rfl
      rw [this, ← h]; exact word_back b hb
    rw [hw]
    have hE : prodE 1 b up = 11 := by unfold prodE; rw [if_neg (by omega), if_pos h]; rfl
    have hV : prodV 1 b up = 0 := by unfold prodV; rw [hE]; rfl
    rw [hE, hV]
    refine ⟨?_, hb, fun s t e => by rw [hd] at e; cases e⟩
    unfold WholeIs
    rw [f_lt hb (by decide), f_ge hb (by decide), k1, k2, k3, k4, hn]
    cases hg : isNeg b
    · right; left
      refine ⟨?_, ?_, rfl, rfl⟩ <;> unfold ikey <;> rw [hg, h] <;> decide
    · left
      refine ⟨?_, rfl, rfl⟩
      unfold ikey; rw [hg, h]; decide
  · have hd : ∀ s t, FloatKind.f64.decode b ≠ .nan s t := fun s t e => by
      unfold FloatKind.decode at e; rw [read_fin b hb h] at e; cases e
    obtain ⟨p1, p2⟩ := (show prodE 1 b up = outE (isNeg b) (pabs 1 b up) ∧ prodV 1 b up = outV (isNeg b) (pabs 1 b up) by
      have e : prodE 1 b up = outE (pneg 1 b) (pabs 1 b up) := by unfold prodE outE; rw [if_neg (by omega), if_neg (by omega)]
      rw [← hg1]
      refine ⟨e, ?_⟩
      unfold prodV
      rw [e]
      unfold outV outE
      cases pfit (pneg 1 b) (pabs 1 b up) <;> simp)
    rw [p1, p2]
    rcases (show expf b < 1075 ∨ 1075 ≤ expf b by omega) with hx | hx
    · obtain ⟨hw, hq⟩ := whole_small b up hb h hx
      have hw' : wholeW b up = intW (isNeg b) (pabs 1 b up) := hw
      rw [hw']
      generalize pabs 1 b up = q at *
      generalize isNeg b = s at *
      obtain ⟨i1, i2, i3, i4, _⟩ := intW_parts s q hq
      have hf : pfit s q = true := by unfold pfit; cases s <;> simp <;> omega
      refine ⟨?_, i3, hd⟩
      have hnn : isNaN (intW s q) = false := by unfold isNaN; simp; omega
      unfold WholeIs
      rw [f_lt i3 (by decide), f_ge i3 (by decide), k1, k2, k3, k4, hnn]
      right; right
      have hik : -4841369599423283200 ≤ ikey (intW s q) ∧ ikey (intW s q) ≤ 4841369599423283200 := by unfold ikey; split <;> omega
      refine ⟨(by first | (simp; done) | (simp; omega)), (by first | (simp; done) | (simp; omega)), ?_, by unfold outE; rw [hf]; rfl⟩
      rw [intW_to s q hq]
      unfold outV
      rw [hf]; rfl
    · have hw' : wholeW b up = b := whole_big b up hb h hx
      rw [hw']
      refine ⟨?_, hb, hd⟩
      obtain ⟨g1, g2⟩ := big_fit b h hx
      have hq : pabs 1 b up = Mo.part b * 2 ^ (expf b - 1075) := by
        unfold pabs sq sl
        rw [if_pos hx, decide_eq_false (show ¬ expf b < 1075 by omega)]
        simp
      rw [hq]
      have hbt := big_to b hb h hx
      generalize Mo.part b * 2 ^ (expf b - 1075) = Q at *
      unfold WholeIs
      rw [f_lt hb (by decide), f_ge hb (by decide), k1, k2, k3, k4, hn]
      cases hg : isNeg b
      · have hik : ikey b = rung b := by unfold ikey; rw [hg]; rfl
        rw [hik]
        rcases (show rung b < 4890909195324358656 ∨ 4890909195324358656 ≤ rung b by omega) with c | c
        · have := g1.1 c
          have hf : pfit false Q = true := by unfold pfit; simpa using this
          right; right
          refine ⟨(by first | (simp; done) | (simp; omega)), (by first | (simp; done) | (simp; omega)), ?_, by unfold outE; rw [hf]; rfl⟩
          unfold outV; rw [hf]
          exact hbt _ (by rw [hg]; rfl) (by first | (simp; done) | (simp; omega)) (by first | (simp; done) | (simp; omega))
        · have hf : pfit false Q = false := by unfold pfit; first | (simp; done) | (simp; omega)
          right; left
          refine ⟨(by first | (simp; done) | (simp; omega)), (by first | (simp; done) | (simp; omega)), by unfold outV; rw [hf]; rfl, by unfold outE; rw [hf]; rfl⟩
      · have hik : ikey b = -(rung b : Int) := by unfold ikey; rw [hg]; rfl
        rw [hik]
        rcases (show rung b ≤ 4890909195324358656 ∨ 4890909195324358656 < rung b by omega) with c | c
        · have := g2.1 c
          have hf : pfit true Q = true := by unfold pfit; simpa using this
          right; right
          refine ⟨(by first | (simp; done) | (simp; omega)), (by first | (simp; done) | (simp; omega)), ?_, by unfold outE; rw [hf]; rfl⟩
          unfold outV; rw [hf]
          exact hbt _ (by rw [hg]; rfl) (by first | (simp; done) | (simp; omega)) (by first | (simp; done) | (simp; omega))
        · have hf : pfit true Q = false := by unfold pfit; first | (simp; done) | (simp; omega)
          left
          refine ⟨(by first | (simp; done) | (simp; omega)), by unfold outV; rw [hf]; rfl, by unfold outE; rw [hf]; rfl⟩
end Go.Proofs.Ytmnpmcfhmhkibaa
