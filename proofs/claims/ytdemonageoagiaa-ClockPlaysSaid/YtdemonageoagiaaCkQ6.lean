/- The document's clock against the clock: pure. -/
import Derived.Test.YtdemonageoagiaaCkQ5
import Derived.Test.YtdemonageoagiaaCkRi
set_option linter.unusedSimpArgs false
set_option linter.unusedVariables false
namespace Go.Proofs.Ytdemonageoagiaa
open Go.RowKit Mo
theorem atI_append (L : List Tk) (x : Tk) (k : Nat) (hk : k ≤ L.length) : atI (L ++ [x]) k = atI L k := by
  induction k with
  | zero => rfl
  | succ k ih =>
    have e : (L ++ [x])[k]? = L[k]? := List.getElem?_append_left (by omega)
    simp only [atI]
    rw [e, ih (by omega)]
theorem flI_append (L : List Tk) (x : Tk) (k : Nat) (hk : k ≤ L.length) : flI (L ++ [x]) k = flI L k := by
  induction k with
  | zero => rfl
  | succ k ih =>
    have e : (L ++ [x])[k]? = L[k]? := List.getElem?_append_left (by omega)
    simp only [flI]
    rw [e, ih (by omega)]
theorem atI_end (L : List Tk) (x : Tk) : atI (L ++ [x]) (L.length + 1) = if x.s = true then (L.length : Int) else atI L L.length := by
  have e : (L ++ [x])[L.length]? = some x := by simp
  simp only [atI]
  rw [e, atI_append L x _ (Nat.le_refl _)]
  simp
theorem flI_end (L : List Tk) (x : Tk) : flI (L ++ [x]) (L.length + 1) = max (flI L L.length) x.f := by
  have e : (L ++ [x])[L.length]? = some x := by simp
  simp only [flI]
  rw [e, flI_append L x _ (Nat.le_refl _)]
  simp
/-- a list of readings tells a clock -/
structure Tells (k : Ck) (L : List Tk) : Prop where
  ok : k.ok
  fl : flI L L.length = k.fl
  la : ∀ x, L.getLast? = some x → k.la = x.h
  la0 : L = [] → k.la = 0
  st : (k.st = false ∧ atI L L.length < 0) ∨ (k.st = true ∧ ∃ (a : Nat) (b : Tk), atI L L.length = a ∧ a < L.length ∧ L[a]? = some b ∧ b.h = k.bh ∧ b.t = k.bt ∧ b.e = k.be)
theorem tells_new (r : Nat) (hr : rate6 r = true) : Tells (ckNew r) [] :=
  ⟨ckNew_ok hr, rfl, by simp, fun _ => rfl, .inl ⟨rfl, by decide⟩⟩
theorem tells_set {k : Ck} {L : List Tk} (T : Tells k L) (h t e : Int) (hE : ckSetE k h t e = 0) : Tells (ckSet k h t e) (L ++ [⟨h, true, t, e, 0⟩]) := by
  have hk := ckSet_ok T.ok h t e
  have e0 : ckSet k h t e = ⟨h, t, e, true, k.rt, h, k.fl⟩ := by unfold ckSet; rw [if_pos hE]
  rw [e0] at hk ⊢
  refine ⟨hk, ?_, ?_, by simp, .inr ⟨rfl, L.length, ⟨h, true, t, e, 0⟩, ?_, by simp, by simp, rfl, rfl, rfl⟩⟩
  · rw [List.length_append, List.length_singleton, flI_end, T.fl]
    have := T.ok.f0
    simp only
    omega
  · intro x hx
    rw [List.getLast?_append] at hx
    simp at hx
    rw [← hx]
  · rw [List.length_append, List.length_singleton, atI_end]; rfl
theorem tells_now {k : Ck} {L : List Tk} (T : Tells k L) (h : Int) (hE : ckNowE k h = 0) : Tells (ckNow k h) (L ++ [⟨h, false, 0, 0, ckLo k h⟩]) := by
  have hk := ckNow_ok T.ok h
  have e0 := ckNow_is k h hE
  have hb := now_bounds T.ok h hE
  rw [e0] at hk ⊢
  refine ⟨hk, ?_, ?_, by simp, ?_⟩
  · rw [List.length_append, List.length_singleton, flI_end, T.fl]
    simp only
    omega
  · intro x hx
    rw [List.getLast?_append] at hx
    simp at hx
    rw [← hx]
  · rw [List.length_append, List.length_singleton, atI_end]
    simp only [Bool.false_eq_true, if_false]
    rcases T.st with ⟨h1, h2⟩ | ⟨h1, a, b, h2, h3, h4, h5, h6, h7⟩
    · exact .inl ⟨h1, h2⟩
    · exact .inr ⟨h1, a, b, h2, by omega, by rw [List.getElem?_append_left h3]; exact h4, h5, h6, h7⟩
theorem tells_setE {k : Ck} {L : List Tk} (T : Tells k L) (h t e : Int) : (ckSetE k h t e = 61 ∧ (inT h && inT t && inT e) = false) ∨ (inT h = true ∧ inT t = true ∧ inT e = true ∧ ((ckSetE k h t e = 62 ∧ ∃ (m : Nat) (x : Tk), L.length = m + 1 ∧ L[m]? = some x ∧ h < x.h) ∨ (ckSetE k h t e = 0 ∧ (L.length = 0 ∨ ∃ (m : Nat) (x : Tk), L.length = m + 1 ∧ L[m]? = some x ∧ x.h ≤ h)))) := by
  unfold ckSetE
  by_cases hb : (inT h && inT t && inT e) = true
  · rw [if_pos hb]
    simp only [Bool.and_eq_true] at hb
    refine .inr ⟨hb.1.1, hb.1.2, hb.2, ?_⟩
    have h0 := (inT_iff.1 hb.1.1).1
    rcases Nat.eq_zero_or_pos L.length with hl | hl
    · have := T.la0 (List.eq_nil_of_length_eq_zero hl)
      rw [if_neg (by omega)]
      exact .inr ⟨rfl, .inl hl⟩
    · obtain ⟨m, hm⟩ : ∃ m, L.length = m + 1 := ⟨L.length - 1, by omega⟩
      have hx : L[m]? = some L[m] := List.getElem?_eq_getElem (by omega)
      have := T.la L[m] (by rw [List.getLast?_eq_getElem?, show L.length - 1 = m by omega]; exact hx)
      by_cases hc : h < k.la
      · rw [if_pos hc]; exact .inl ⟨rfl, m, _, hm, hx, by omega⟩
      · rw [if_neg hc]; exact .inr ⟨rfl, .inr ⟨m, _, hm, hx, by omega⟩⟩
  · rw [if_neg hb]
    exact .inl ⟨rfl, by simpa using hb⟩
end Go.Proofs.Ytdemonageoagiaa
