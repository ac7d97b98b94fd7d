/- A right clock: how far the true time may lie from what its readings say. -/
import Derived.Test.YtajojpfenlafbaaCkA
set_option linter.unusedSimpArgs false
set_option linter.unusedVariables false
namespace Go.Proofs.Ytajojpfenlafbaa
open Go.RowKit Mo
/-- a product cut downwards -/
theorem prod_fdiv (n : Int) (b : Nat) (h : rateOk b = true) (h0 : 0 ≤ n) (hn : n ≤ 1125899906842624) :
    prodE n b false = 0 ∧ prodV n b false = ((n.natAbs * Mo.part b / 2 ^ (1075 - expf b) : Nat) : Int) := by
  obtain ⟨h1, h2, h3⟩ := rate_parts b h
  have hp : Mo.part b = 0 ∨ isNeg b = false := by
    unfold rateOk at h; simp at h
    rcases h with h | rfl
    · right; unfold isNeg; simp; omega
    · left; decide
  have hq : pabs n b false = n.natAbs * Mo.part b / 2 ^ (1075 - expf b) := by
    unfold pabs sq sl
    rw [if_neg (by omega)]
    rcases hp with hp | hp
    · rw [hp]; simp
    · have : pneg n b = false := by unfold pneg; rw [hp]; simp; omega
      rw [this]; simp
  have hle : n.natAbs * Mo.part b / 2 ^ (1075 - expf b) ≤ n.natAbs := by
    have h4 : n.natAbs * Mo.part b ≤ n.natAbs * 2 ^ (1075 - expf b) := Nat.mul_le_mul_left _ h3
    have h5 := Nat.div_le_div_right (c := 2 ^ (1075 - expf b)) h4
    rwa [Nat.mul_div_cancel _ (Nat.two_pow_pos _)] at h5
  have hE : prodE n b false = 0 := by
    unfold prodE
    rw [if_neg (by omega), if_neg (by omega), hq]
    rw [if_pos]
    generalize n.natAbs * Mo.part b / 2 ^ (1075 - expf b) = q at *
    unfold pfit
    split <;> simp <;> omega
  refine ⟨hE, ?_⟩
  unfold prodV
  rw [hE, if_pos rfl, hq]
  rcases hp with hp | hp
  · rw [hp]; simp
  · rw [if_neg]
    unfold pneg; rw [hp]; simp; omega
structure Right (c : Ck) (h t S : Int) : Prop where
  ok : c.ok
  st : c.st = true
  la : c.la ≤ h
  lo : c.bt + (h - c.bh) - c.be - S ≤ t
  hi : t ≤ c.bt + (h - c.bh) + c.be + S
  s0 : 0 ≤ S
  s1 : S * ((2 ^ (1075 - expf c.rt) : Nat) : Int) ≤ (h - c.bh) * (Mo.part c.rt : Int)
  fl : c.fl ≤ t
theorem right_drift {c : Ck} {h t S : Int} (k : Right c h t S) : S ≤ ckD c h := by
  have h1 := k.s1
  have h0 := k.s0
  have hb : 0 ≤ h - c.bh := by have := k.ok.h1; have := k.la; omega
  unfold ckD driftBy cdiv
  have hp : 0 < 2 ^ (1075 - expf c.rt) := Nat.two_pow_pos _
  generalize 2 ^ (1075 - expf c.rt) = D at *
  generalize Mo.part c.rt = N at *
  obtain ⟨e, he⟩ : ∃ e : Nat, h - c.bh = e := ⟨(h - c.bh).toNat, by omega⟩
  obtain ⟨s, rfl⟩ : ∃ s : Nat, S = s := ⟨S.toNat, by omega⟩
  rw [he] at h1 ⊢
  simp only [Int.natAbs_natCast]
  have h2 : s * D ≤ e * N := by exact_mod_cast h1
  have h3 := (Nat.le_div_iff_mul_le hp).2 h2
  generalize e * N / D = q at *
  split <;> omega
theorem ckNowE_zero {c : Ck} {h : Int} (a : 0 ≤ h) (b : h ≤ 1125899906842624) (s : c.st = true) (l : c.la ≤ h) (m : c.bt + (h - c.bh) ≤ 1125899906842624) : ckNowE c h = 0 := by
  unfold ckNowE
  rw [if_pos (inT_iff.2 ⟨a, b⟩), if_pos s, if_neg (by omega), if_neg (by omega)]
theorem right_now {c : Ck} {h t S : Int} (k : Right c h t S) (h1 : h ≤ 1125899906842624) (h2 : c.bt + (h - c.bh) ≤ 1125899906842624) (t0 : 0 ≤ t) (t1 : t ≤ 1125899906842624) :
    ckNowE c h = 0 ∧ ckLo c h ≤ t ∧ t ≤ ckHi c h ∧ Right (ckNow c h) h t S := by
  have hE := ckNowE_zero (by have := k.ok.h0; have := k.ok.h1; have := k.la; omega) h1 k.st k.la h2
  have hd := right_drift k
  have hl := k.lo
  have hh := k.hi
  have hf := k.fl
  have hd0 : 0 ≤ ckD c h := by unfold ckD; omega
  have hlo : ckLo c h ≤ t := by
    unfold ckLo; rw [if_pos hE]
    refine Int.max_le.2 ⟨Int.max_le.2 ⟨?_, t0⟩, hf⟩
    have : max (c.bt + (h - c.bh) - c.be) 0 ≤ t + ckD c h := Int.max_le.2 ⟨by omega, by omega⟩
    omega
  have hhi : t ≤ ckHi c h := by
    unfold ckHi; rw [if_pos hE]
    refine Int.le_trans ?_ (Int.le_max_left _ _)
    refine Int.le_min.2 ⟨?_, t1⟩
    have : t - ckD c h ≤ min (c.bt + (h - c.bh) + c.be) 1125899906842624 := Int.le_min.2 ⟨by omega, by omega⟩
    omega
  refine ⟨hE, hlo, hhi, ?_⟩
  have e : ckNow c h = ⟨c.bh, c.bt, c.be, c.st, c.rt, h, ckLo c h⟩ := by unfold ckNow; rw [if_pos hE]
  have hk := ckNow_ok k.ok h
  rw [e] at hk ⊢
  exact ⟨hk, k.st, Int.le_refl _, k.lo, k.hi, k.s0, k.s1, hlo⟩
theorem right_go {c : Ck} {h t S : Int} (k : Right c h t S) (dh dt s : Int) (a : 0 ≤ dh) (b : 0 ≤ dt) (d : dt - dh ≤ s) (e : dh - dt ≤ s) (hs : s * ((2 ^ (1075 - expf c.rt) : Nat) : Int) ≤ dh * (Mo.part c.rt : Int)) : Right c (h + dh) (t + dt) (S + s) := by
  have h1 := k.la; have h2 := k.lo; have h3 := k.hi; have h4 := k.s0; have h5 := k.s1; have h6 := k.fl
  refine ⟨k.ok, k.st, by omega, by omega, by omega, by omega, ?_, by omega⟩
  rw [Int.add_mul, show h + dh - c.bh = (h - c.bh) + dh by omega, Int.add_mul]
  exact Int.add_le_add h5 hs
theorem right_set {c : Ck} (k : c.ok) {h t : Int} (y e : Int) (hl : c.la ≤ h) (h1 : h ≤ 1125899906842624) (y0 : 0 ≤ y) (y1 : y ≤ 1125899906842624) (e0 : 0 ≤ e) (e1 : e ≤ 1125899906842624) (a : y - e ≤ t) (b : t ≤ y + e) (hf : c.fl ≤ t) :
    ckSetE c h y e = 0 ∧ Right (ckSet c h y e) h t 0 := by
  have hE : ckSetE c h y e = 0 := by
    have := k.h0; have := k.h1
    unfold ckSetE
    rw [if_pos (by simp only [Bool.and_eq_true, inT_iff]; omega), if_neg (by omega)]
  have eq : ckSet c h y e = ⟨h, y, e, true, c.rt, h, c.fl⟩ := by unfold ckSet; rw [if_pos hE]
  have hk := ckSet_ok k h y e
  refine ⟨hE, ?_⟩
  rw [eq] at hk ⊢
  exact ⟨hk, rfl, Int.le_refl _, by simp; omega, by simp; omega, Int.le_refl _, by simp, hf⟩
/-- half a rate, of true time: what it allows, the rate of the reading allows, too -/
theorem half_ok {N D d dh s : Int} (hD : 0 ≤ D) (hN : 0 ≤ N) (hND : N ≤ D) (hs : 0 ≤ s) (h : 2 * (s * D) ≤ d * N) (e : d - dh ≤ s) : s * D ≤ dh * N := by
  have h1 : s * N ≤ s * D := Int.mul_le_mul_of_nonneg_left hND hs
  have h2 : (d - dh) * N ≤ s * N := Int.mul_le_mul_of_nonneg_right e hN
  rw [Int.sub_mul] at h2
  omega
end Go.Proofs.Ytajojpfenlafbaa
