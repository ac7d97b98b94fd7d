/- Right clocks in plays: pure. -/
import Derived.Test.YtajojpfenlafbaaCkR
set_option linter.unusedSimpArgs false
set_option linter.unusedVariables false
namespace Go.Proofs.Ytajojpfenlafbaa
open Go.RowKit Mo
def bro (n m : Int) : Int := if m < n then m else if n < -m then -m else n
theorem bro_bnd {n m : Int} (h : 0 ≤ m) : -m ≤ bro n m ∧ bro n m ≤ m := by unfold bro; split <;> (try split) <;> omega
theorem rate6_ref (b : Nat) (hb : b < 18446744073709551616) (h : rateOk b = true) : (FloatKind.f64.format.order b 4576918229304087675 == some Ordering.lt || FloatKind.f64.format.order b 4576918229304087675 == some Ordering.eq) = rate6 b := by
  have e1 : isNaN 4576918229304087675 = false := by decide
  have e2 : ikey 4576918229304087675 = 4576918229304087675 := by decide
  rw [f_le hb (by decide), e1, e2]
  unfold rateOk at h
  simp at h
  unfold rate6
  rcases h with h | rfl
  · have h3 : isNeg b = false := by unfold isNeg; simp; omega
    have h4 : isNaN b = false := by unfold isNaN rung; simp; omega
    have h5 : ikey b = b := by unfold ikey; rw [h3]; unfold rung; simp; omega
    rw [h4, h5, Bool.eq_iff_iff]; simp; omega
  · decide
/-- a right clock in a play -/
def HInv (r : Nat) (c : Ck) (h t : Int) (k : Nat) : Prop := ∃ S, Right c h t S ∧ c.rt = r ∧ c.be ≤ 65535 ∧ 0 ≤ h ∧ h ≤ k * 8589934590 ∧ 0 ≤ t ∧ t ≤ 1099511627775 + k * 8589934590
theorem hold_go {r : Nat} {c : Ck} {h t : Int} {k : Nat} (H : HInv r c h t k) (dh dt s : Int) (a : 0 ≤ dh) (a2 : dh ≤ 8589934590) (b : 0 ≤ dt) (b2 : dt ≤ 8589934590) (d : dt - dh ≤ s) (e : dh - dt ≤ s) (hs : s * ((2 ^ (1075 - expf r) : Nat) : Int) ≤ dh * (Mo.part r : Int)) : HInv r c (h + dh) (t + dt) (k + 1) := by
  obtain ⟨S, R, hr, hb, h0, h1, t0, t1⟩ := H
  refine ⟨S + s, right_go R dh dt s a b d e (by rw [hr]; exact hs), hr, hb, by omega, ?_, by omega, ?_⟩
  · push_cast; omega
  · push_cast; omega
theorem hold_now {r : Nat} {c : Ck} {h t : Int} {k : Nat} (H : HInv r c h t k) (hk : k ≤ 60) : ckNowE c h = 0 ∧ ckLo c h ≤ t ∧ t ≤ ckHi c h ∧ HInv r (ckNow c h) h t k := by
  obtain ⟨S, R, hr, hb, h0, h1, t0, t1⟩ := H
  have hd := right_drift R
  have hdl : ckD c h ≤ h - c.bh := by
    have := drift_le (h - c.bh) c.rt (rate6_ok R.ok.r)
    have := R.ok.h1; have := R.la
    unfold ckD; omega
  have hbh := R.ok.h0
  have hlo := R.lo
  have hk' : (k : Int) * 8589934590 ≤ 60 * 8589934590 := by omega
  obtain ⟨g1, g2, g3, g4⟩ := right_now R (by omega) (by omega) t0 (by omega)
  refine ⟨g1, g2, g3, S, g4, ?_, ?_, h0, h1, t0, t1⟩
  · rw [← hr]; unfold ckNow; rw [if_pos g1]
  · unfold ckNow; rw [if_pos g1]; exact hb
theorem hold_set {r : Nat} {c : Ck} {h t : Int} {k : Nat} (H : HInv r c h t k) (hk : k ≤ 60) (y e : Int) (y0 : 0 ≤ y) (e0 : 0 ≤ e) (e1 : e ≤ 65535) (a : y - e ≤ t) (b : t ≤ y + e) : ckSetE c h y e = 0 ∧ HInv r (ckSet c h y e) h t k := by
  obtain ⟨S, R, hr, hb, h0, h1, t0, t1⟩ := H
  have hk' : (k : Int) * 8589934590 ≤ 60 * 8589934590 := by omega
  obtain ⟨g1, g2⟩ := right_set R.ok (h := h) (t := t) y e R.la (by omega) y0 (by omega) e0 (by omega) a b R.fl
  refine ⟨g1, 0, g2, ?_, ?_, h0, h1, t0, t1⟩
  · rw [← hr]; unfold ckSet; rw [if_pos g1]
  · unfold ckSet; rw [if_pos g1]; exact e1
/-- what a product cut downwards allows -/
theorem prod_allows (r : Nat) (d : Int) (hr : rate6 r = true) (h0 : 0 ≤ d) (h1 : d ≤ 4294967295) : prodE d r false = 0 ∧ 0 ≤ prodV d r false ∧ prodV d r false ≤ d ∧ prodV d r false * ((2 ^ (1075 - expf r) : Nat) : Int) ≤ d * (Mo.part r : Int) := by
  obtain ⟨e1, e2⟩ := prod_fdiv d r (rate6_ok hr) h0 (by omega)
  obtain ⟨h2, h3, h4⟩ := rate_parts r (rate6_ok hr)
  rw [e2]
  obtain ⟨n, rfl⟩ : ∃ n : Nat, d = n := ⟨d.toNat, by omega⟩
  simp only [Int.natAbs_natCast]
  have hp : 0 < 2 ^ (1075 - expf r) := Nat.two_pow_pos _
  generalize 2 ^ (1075 - expf r) = D at *
  have h5 : n * Mo.part r / D ≤ n := by
    have := Nat.div_le_div_right (c := D) (Nat.mul_le_mul_left n h4)
    rwa [Nat.mul_div_cancel _ hp] at this
  have h6 : n * Mo.part r / D * D ≤ n * Mo.part r := Nat.div_mul_le_self _ _
  refine ⟨e1, Int.natCast_nonneg _, by exact_mod_cast h5, by exact_mod_cast h6⟩
theorem hold_begun (r : Nat) (hr : rate6 r = true) (T y e off : Int) (h0 : 0 ≤ T) (h1 : T ≤ 1099511627775) (e0 : 0 ≤ e) (e1 : e ≤ 65535) (hy : max (T + bro off e) 0 = y) : HInv r ⟨0, y, e, true, r, 0, 0⟩ 0 T 0 := by
  have hb := bro_bnd (n := off) e0
  obtain ⟨g1, g2⟩ := right_set (ckNew_ok hr) (h := 0) (t := T) y e (by simp [ckNew]) (by omega) (by omega) (by omega) e0 (by omega) (by omega) (by omega) (by simp [ckNew]; omega)
  have e2 : ckSet (ckNew r) 0 y e = ⟨0, y, e, true, r, 0, 0⟩ := by unfold ckSet; rw [if_pos g1]; rfl
  rw [e2] at g2
  exact ⟨0, g2, rfl, e1, by omega, by omega, h0, by omega⟩
theorem hold_hi {r : Nat} {c : Ck} {h t : Int} {k : Nat} (H : HInv r c h t k) (hk : k ≤ 60) : ckHi c h ≤ 4398046511104 := by
  obtain ⟨g1, g2, g3, _⟩ := hold_now H hk
  obtain ⟨S, R, hr, hb, h0, h1, t0, t1⟩ := H
  have hd := right_drift R
  have hdl : ckD c h ≤ h - c.bh := by
    have := drift_le (h - c.bh) c.rt (rate6_ok R.ok.r)
    have := R.ok.h1; have := R.la
    unfold ckD; omega
  have hbh := R.ok.h0
  have hlo := R.lo
  have hk' : (k : Int) * 8589934590 ≤ 60 * 8589934590 := by omega
  have e : ckHi c h = max (min (min (c.bt + (h - c.bh) + c.be) 1125899906842624 + ckD c h) 1125899906842624) (ckLo c h) := by unfold ckHi; rw [if_pos g1]
  rw [e]
  refine Int.max_le.2 ⟨?_, by omega⟩
  refine Int.le_trans (Int.min_le_left _ _) ?_
  have : min (c.bt + (h - c.bh) + c.be) 1125899906842624 ≤ c.bt + (h - c.bh) + c.be := Int.min_le_left _ _
  omega
end Go.Proofs.Ytajojpfenlafbaa
