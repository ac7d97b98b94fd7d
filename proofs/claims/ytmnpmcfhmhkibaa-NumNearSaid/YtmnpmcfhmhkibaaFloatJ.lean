/- A float between its two whole numbers. -/
import Derived.Test.YtmnpmcfhmhkibaaFloatI
set_option linter.unusedSimpArgs false
set_option linter.unusedVariables false
namespace Go.Proofs.Ytmnpmcfhmhkibaa
open Go.RowKit Mo
/-- an int64 of a size up to 2^52 as a float -/
theorem nearest_small (n : Int) (h : n.natAbs ≤ 4503599627370496) : FloatKind.f64.nearest n = intW (decide (n < 0)) n.natAbs := by
  show Ieee.double.nearest (decide (n < 0)) n.natAbs 0 = _
  unfold intW
  by_cases h0 : n.natAbs = 0
  · rw [h0, if_pos rfl]
    simp only [Ieee.Format.nearest, if_true]
    rw [word_eq]
    cases decide (n < 0) <;> simp
  · rw [if_neg h0, nearest_int _ _ (by omega) (by omega), word_eq]
    cases decide (n < 0) <;> simp
theorem mag_intW (s : Bool) (q : Nat) (h : q ≤ 4503599627370496) (K : Nat) (hK : K = 1074) : mag (rung (intW s q)) = q * 2 ^ K := by
  obtain ⟨h1, h2, h3, h4, h5⟩ := intW_parts s q h
  rw [h1]
  by_cases h0 : q = 0
  · subst h0; simp [mag]
  · obtain ⟨g1, g2, g3⟩ := h5 (by omega)
    rw [if_neg h0]
    unfold mag
    have e1 : ((q.log2 + 1022) * 4503599627370496 + q * 2 ^ (52 - q.log2)) / 4503599627370496 = q.log2 + 1023 := by
      generalize q * 2 ^ (52 - q.log2) = M at *
      omega
    have e2 : 4503599627370496 + ((q.log2 + 1022) * 4503599627370496 + q * 2 ^ (52 - q.log2)) % 4503599627370496 = q * 2 ^ (52 - q.log2) := by
      generalize q * 2 ^ (52 - q.log2) = M at *
      omega
    have e3 : ¬ ((q.log2 + 1022) * 4503599627370496 + q * 2 ^ (52 - q.log2) < 4503599627370496) := by
      generalize q * 2 ^ (52 - q.log2) = M at *
      omega
    rw [if_neg e3, e1, e2, Nat.mul_assoc, ← Nat.pow_add]
    congr 2
    omega
theorem mag_part (b : Nat) (K : Nat) (hK : K = 1074) (hx : expf b < 1075) : mag (rung b) * 2 ^ (1075 - expf b) = Mo.part b * 2 ^ K := by
  have hm : mag (rung b) = Mo.part b * 2 ^ (expf b - 1) := by
    unfold mag Mo.part expf
    by_cases h0 : rung b < 4503599627370496
    · rw [if_pos h0, if_pos h0, if_pos h0]; simp
    · rw [if_neg h0, if_neg h0, if_neg h0]
  have he : 1 ≤ expf b := by unfold expf; split <;> omega
  rw [hm, Nat.mul_assoc, ← Nat.pow_add]
  congr 2
  omega
/-- against a whole number -/
theorem rung_int (b q : Nat) (s : Bool) (h : q ≤ 4503599627370496) (hx : expf b < 1075) : (rung b < rung (intW s q) ↔ Mo.part b < q * 2 ^ (1075 - expf b)) ∧ (rung (intW s q) < rung b ↔ q * 2 ^ (1075 - expf b) < Mo.part b) := by
  obtain ⟨K, hK⟩ : ∃ K, K = 1074 := ⟨_, rfl⟩
  have h1 := mag_intW s q h K hK
  have h2 := mag_part b K hK hx
  have hp : 0 < 2 ^ (1075 - expf b) := Nat.two_pow_pos _
  have hpK : 0 < 2 ^ K := Nat.two_pow_pos _
  constructor
  · rw [← mag_lt_iff (r := rung b) (s := rung (intW s q)), h1]
    generalize 2 ^ (1075 - expf b) = D at *
    generalize mag (rung b) = m at *
    generalize Mo.part b = p at *
    rw [← Nat.mul_lt_mul_right hp, h2, Nat.mul_right_comm, Nat.mul_lt_mul_right hpK]
  · rw [← mag_lt_iff (r := rung (intW s q)) (s := rung b), h1]
    generalize 2 ^ (1075 - expf b) = D at *
    generalize mag (rung b) = m at *
    generalize Mo.part b = p at *
    rw [← Nat.mul_lt_mul_right hp, h2, Nat.mul_right_comm, Nat.mul_lt_mul_right hpK]
theorem near_big (b : Nat) (hb : b < 18446744073709551616) (h : rung b < 9218868437227405312) (hx : 1075 ≤ expf b) : Ieee.double.nearest (isNeg b) (Mo.part b * 2 ^ (expf b - 1075)) 0 = b := by
  have hr : 4503599627370496 ≤ rung b := by
    unfold expf at hx
    split at hx
    · omega
    · omega
  have hpt : Mo.part b = 4503599627370496 + rung b % 4503599627370496 := by unfold Mo.part; rw [if_neg (by omega)]
  have hex : expf b = rung b / 4503599627370496 := by unfold expf; rw [if_neg (by omega)]
  have hm : rung b % 4503599627370496 < 4503599627370496 := Nat.mod_lt _ (by decide)
  have key := nearest_normal (isNeg b) (Mo.part b) (expf b - 1075) ((expf b - 1075 : Nat) : Int) (by omega) (by omega) (by omega) (by omega)
  rw [Int.sub_self] at key
  rw [key, show ((((expf b - 1075 : Nat) : Int) + 1074).toNat * 4503599627370496 + Mo.part b) = rung b by
    rw [hpt, hex]
    have : (((rung b / 4503599627370496 - 1075 : Nat) : Int) + 1074).toNat = rung b / 4503599627370496 - 1 := by omega
    rw [this]; omega]
  exact word_back b hb
theorem prodE_fin (b : Nat) (up : Bool) (h : prodE 1 b up = 0) : rung b < 9218868437227405312 := by
  unfold prodE at h
  split at h
  · cases h
  · split at h
    · simp at h
    · omega
theorem prodV_bnd (n : Int) (b : Nat) (up : Bool) : -9223372036854775808 ≤ prodV n b up ∧ prodV n b up ≤ 9223372036854775807 := by
  unfold prodV
  split
  · rename_i h
    unfold prodE at h
    split at h
    · cases h
    · split at h
      · split at h <;> cases h
      · split at h
        · rename_i hp
          unfold pfit at hp
          generalize pabs n b up = q at *
          generalize pneg n b = g at *
          cases g
          · simp at hp; simp; omega
          · simp at hp; simp; omega
        · cases h
  · omega
theorem prodE_cases (n : Int) (b : Nat) (up : Bool) : prodE n b up = 0 ∨ prodE n b up = 10 ∨ prodE n b up = 11 := by
  unfold prodE
  split
  · exact .inr (.inl rfl)
  · split
    · split
      · exact .inr (.inl rfl)
      · exact .inr (.inr rfl)
    · split
      · exact .inl rfl
      · exact .inr (.inr rfl)
theorem prodV_one (b : Nat) (up : Bool) (h : prodE 1 b up = 0) : prodV 1 b up = if isNeg b then -(pabs 1 b up : Int) else (pabs 1 b up : Int) := by
  unfold prodV
  rw [if_pos h, show pneg 1 b = isNeg b by unfold pneg; simp]
theorem ikey_small (n : Int) (h : n.natAbs ≤ 4503599627370496) : ikey (FloatKind.f64.nearest n) = (if n < 0 then -(rung (intW false n.natAbs) : Int) else (rung (intW false n.natAbs) : Int)) ∧ FloatKind.f64.nearest n < 18446744073709551616 ∧ isNaN (FloatKind.f64.nearest n) = false := by
  rw [nearest_small n h]
  obtain ⟨h1, h2, h3, h4, h5⟩ := intW_parts (decide (n < 0)) n.natAbs h
  obtain ⟨g1, g2, g3, g4, g5⟩ := intW_parts false n.natAbs h
  refine ⟨?_, h3, by unfold isNaN; simp; omega⟩
  unfold ikey
  rw [h2, h1, g1]
  by_cases hn : n < 0 <;> simp [hn]
theorem near_law (b : Nat) (hb : b < 18446744073709551616) (h1 : prodE 1 b false = 0) (h2 : prodE 1 b true = 0) :
    isNaN b = false ∧ FloatKind.f64.nearest (prodV 1 b false) < 18446744073709551616 ∧ FloatKind.f64.nearest (prodV 1 b true) < 18446744073709551616 ∧ isNaN (FloatKind.f64.nearest (prodV 1 b false)) = false ∧ isNaN (FloatKind.f64.nearest (prodV 1 b true)) = false ∧
    ((prodV 1 b false = prodV 1 b true ∧ ikey (FloatKind.f64.nearest (prodV 1 b false)) = ikey b) ∨
     (prodV 1 b false ≠ prodV 1 b true ∧ prodV 1 b true - 1 = prodV 1 b false ∧ ikey (FloatKind.f64.nearest (prodV 1 b false)) < ikey b ∧ ikey b < ikey (FloatKind.f64.nearest (prodV 1 b true)))) := by
  have hf := prodE_fin b false h1
  have hnn : isNaN b = false := by unfold isNaN; simp; omega
  refine ⟨hnn, ?_⟩
  rw [prodV_one b false h1, prodV_one b true h2]
  rcases Nat.lt_or_ge (expf b) 1075 with hx | hx
  · obtain ⟨w1, b1⟩ := whole_small b false hb hf hx
    obtain ⟨w2, b2⟩ := whole_small b true hb hf hx
    clear w1 w2
    have hq : ∀ up, pabs 1 b up = Mo.part b / 2 ^ (1075 - expf b) + if (decide (Mo.part b % 2 ^ (1075 - expf b) ≠ 0) && (isNeg b != up)) = true then 1 else 0 := by
      intro up
      have hg : pneg 1 b = isNeg b := by unfold pneg; simp
      unfold pabs sq sl
      rw [if_neg (by omega), hg, decide_eq_true hx]
      simp
    have r1 := fun q h => rung_int b q false h hx
    have hdm := Nat.div_add_mod (Mo.part b) (2 ^ (1075 - expf b))
    have hml := Nat.mod_lt (Mo.part b) (Nat.two_pow_pos (1075 - expf b))
    have q1 := hq false
    have q2 := hq true
    clear hq
    generalize 2 ^ (1075 - expf b) = D at *
    generalize Mo.part b / D = q at *
    generalize Mo.part b % D = r at *
    have hP : Mo.part b = q * D + r := by rw [Nat.mul_comm]; omega
    rw [hP] at r1
    have hk : ikey b = if isNeg b then -(rung b : Int) else rung b := rfl
    rw [hk]
    by_cases hr : r = 0
    · subst hr
      simp only [ne_eq, not_true_eq_false, decide_false, Bool.false_and, Bool.false_eq_true, if_false, Nat.add_zero] at q1 q2
      rw [q1] at b1
      rw [q1, q2]
      obtain ⟨x1, x2, x3⟩ := ikey_small (if isNeg b = true then -(q : Int) else (q : Int)) (by split <;> omega)
      refine ⟨x2, x2, x3, x3, .inl ⟨rfl, ?_⟩⟩
      rw [x1]
      have := r1 q b1
      have h0 : q = 0 → rung (intW false q) = 0 := fun h => by rw [h]; rfl
      have ha : (if isNeg b = true then -(q : Int) else (q : Int)).natAbs = q := by split <;> omega
      rw [ha]
      have he : rung b = rung (intW false q) := by
        rw [Nat.add_zero] at this
        omega
      rw [he]
      by_cases hq0 : q = 0
      · rw [h0 hq0]; simp
      · cases isNeg b
        · simp only [Bool.false_eq_true, if_false]; rw [if_neg (by omega)]
        · simp only [if_true]; rw [if_pos (by omega)]
    · have ha := r1 q
      have hb := r1 (q + 1)
      rw [Nat.succ_mul] at hb
      cases hs : isNeg b
      · rw [hs] at q1 q2
        simp [hr] at q1 q2
        rw [q1] at b1
        rw [q2] at b2
        simp only [Bool.false_eq_true, if_false]
        rw [q1, q2]
        obtain ⟨x1, x2, x3⟩ := ikey_small (q : Int) (by omega)
        obtain ⟨y1, y2, y3⟩ := ikey_small ((q + 1 : Nat) : Int) (by omega)
        rw [if_neg (by omega)] at x1 y1
        simp only [Int.natAbs_natCast] at x1 y1
        have ha := ha b1
        have hb := hb b2
        refine ⟨x2, y2, x3, y3, .inr ⟨by omega, by omega, ?_, ?_⟩⟩
        · rw [x1]; omega
        · rw [y1]; omega
      · rw [hs] at q1 q2
        simp [hr] at q1 q2
        rw [q1] at b1
        rw [q2] at b2
        simp only [if_true]
        rw [q1, q2]
        obtain ⟨x1, x2, x3⟩ := ikey_small (-((q + 1 : Nat) : Int)) (by omega)
        obtain ⟨y1, y2, y3⟩ := ikey_small (-(q : Int)) (by omega)
        rw [if_pos (by omega)] at x1
        simp only [Int.natAbs_neg, Int.natAbs_natCast] at x1 y1
        have ha := ha b2
        have hb := hb b1
        have h0 : q = 0 → rung (intW false q) = 0 := fun h => by rw [h]; rfl
        refine ⟨x2, y2, x3, y3, .inr ⟨by omega, by omega, ?_, ?_⟩⟩
        · rw [x1]; omega
        · rw [y1]; split <;> omega
  · have hq : ∀ up, pabs 1 b up = Mo.part b * 2 ^ (expf b - 1075) := by
      intro up
      unfold pabs sq sl
      rw [if_pos hx, decide_eq_false (by omega)]
      simp
    rw [hq, hq]
    have hpos : 0 < Mo.part b * 2 ^ (expf b - 1075) := by
      refine Nat.mul_pos ?_ (Nat.two_pow_pos _)
      unfold Mo.part
      unfold expf at hx
      split
      · rename_i h; rw [if_pos h] at hx; omega
      · omega
    have hne : FloatKind.f64.nearest (if isNeg b = true then -((Mo.part b * 2 ^ (expf b - 1075) : Nat) : Int) else ((Mo.part b * 2 ^ (expf b - 1075) : Nat) : Int)) = b := by
      have key := near_big b hb hf hx
      generalize Mo.part b * 2 ^ (expf b - 1075) = Z at *
      have e1 : decide ((if isNeg b = true then -(Z : Int) else (Z : Int)) < 0) = isNeg b := by
        cases isNeg b <;> simp <;> omega
      have e2 : (if isNeg b = true then -(Z : Int) else (Z : Int)).natAbs = Z := by split <;> omega
      show Ieee.double.nearest (decide ((if isNeg b = true then -(Z : Int) else (Z : Int)) < 0)) (if isNeg b = true then -(Z : Int) else (Z : Int)).natAbs 0 = b
      rw [e1, e2]; exact key
    rw [hne]
    exact ⟨hb, hb, hnn, hnn, .inl ⟨rfl, rfl⟩⟩
end Go.Proofs.Ytmnpmcfhmhkibaa
