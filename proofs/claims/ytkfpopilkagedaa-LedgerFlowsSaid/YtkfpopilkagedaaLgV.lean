/- The book: Move. -/
import Derived.Test.YtkfpopilkagedaaLgO
import Derived.Deep.RegionHeld3
import Derived.Deep.RegionWith
set_option linter.unusedSimpArgs false
set_option linter.unusedVariables false
namespace Go.Proofs.Ytkfpopilkagedaa
open Go.RowKit Mo
def mvOk (a c n : Int) : Prop := isAc a = true ∧ isAc c = true ∧ 1 ≤ n ∧ isA n = true ∧ a ≠ c
/-- what Move answers, and what the accounts are behind it -/
def MvIs (f : Int → Option (Int × Int)) (fee a c n V E : Int) (f' : Int → Option (Int × Int)) : Prop :=
  ((isAc a && isAc c) = false ∧ V = 0 ∧ E = 141 ∧ f = f') ∨
  (isAc a = true ∧ isAc c = true ∧ (n < 1 ∨ isA n = false) ∧ V = 0 ∧ E = 143 ∧ f = f') ∨
  (isAc a = true ∧ isAc c = true ∧ 1 ≤ n ∧ isA n = true ∧ a = c ∧ V = 0 ∧ E = 144 ∧ f = f') ∨
  (mvOk a c n ∧ f a = none ∧ V = 0 ∧ E = 145 ∧ f = f') ∨
  (∃ x, mvOk a c n ∧ f a = some x ∧ x.1 < n + fee ∧ V = 0 ∧ E = 146 ∧ f = f') ∨
  (∃ x, mvOk a c n ∧ f a = some x ∧ n + fee ≤ x.1 ∧ f c = none ∧ V = 0 ∧ E = 147 ∧ f = f') ∨
  (∃ x y, mvOk a c n ∧ f a = some x ∧ n + fee ≤ x.1 ∧ f c = some y ∧ isA (y.1 + n) = false ∧ V = 0 ∧ E = 148 ∧ f = f') ∨
  (∃ x y, mvOk a c n ∧ f a = some x ∧ n + fee ≤ x.1 ∧ f c = some y ∧ isA (y.1 + n) = true ∧ V = fee ∧ E = 0 ∧ fput (fput f a (x.1 - n - fee, x.2 + fee)) c (y.1 + n, y.2) = f')
theorem mv_of (f : Int → Option (Int × Int)) (fee a c n : Int) : ∃ V E f', MvIs f fee a c n V E f' := by
  by_cases h1 : (isAc a && isAc c) = false
  · exact ⟨_, _, _, .inl ⟨h1, rfl, rfl, rfl⟩⟩
  obtain ⟨h1, h2⟩ : isAc a = true ∧ isAc c = true := by simpa using h1
  by_cases h3 : n < 1 ∨ isA n = false
  · exact ⟨_, _, _, .inr (.inl ⟨h1, h2, h3, rfl, rfl, rfl⟩)⟩
  obtain ⟨h3, h4⟩ : 1 ≤ n ∧ isA n = true := by simp at h3; exact ⟨by omega, h3.2⟩
  by_cases h5 : a = c
  · exact ⟨_, _, _, .inr (.inr (.inl ⟨h1, h2, h3, h4, h5, rfl, rfl, rfl⟩))⟩
  have ho : mvOk a c n := ⟨h1, h2, h3, h4, h5⟩
  cases ex : f a with
  | none => exact ⟨_, _, _, .inr (.inr (.inr (.inl ⟨ho, ex, rfl, rfl, rfl⟩)))⟩
  | some x =>
    by_cases h6 : x.1 < n + fee
    · exact ⟨_, _, _, .inr (.inr (.inr (.inr (.inl ⟨x, ho, ex, h6, rfl, rfl, rfl⟩))))⟩
    have h6 : n + fee ≤ x.1 := by omega
    cases ey : f c with
    | none => exact ⟨_, _, _, .inr (.inr (.inr (.inr (.inr (.inl ⟨x, ho, ex, h6, ey, rfl, rfl, rfl⟩)))))⟩
    | some y =>
      cases hz : isA (y.1 + n)
      · exact ⟨_, _, _, .inr (.inr (.inr (.inr (.inr (.inr (.inl ⟨x, y, ho, ex, h6, ey, hz, rfl, rfl, rfl⟩))))))⟩
      · exact ⟨_, _, _, .inr (.inr (.inr (.inr (.inr (.inr (.inr ⟨x, y, ho, ex, h6, ey, hz, rfl, rfl, rfl⟩))))))⟩
end Go.Proofs.Ytkfpopilkagedaa
