/- A sort's plain law: sorted, the same numbers, and how many are at least the middle one. -/
import Derived.Test.YtajojpfenlafbaaLsH
set_option linter.unusedSimpArgs false
set_option linter.unusedVariables false
namespace Go.Proofs.Ytajojpfenlafbaa
theorem swp_getD (v : List Int) (p a : Nat) (h : p + 1 < v.length) : (swp v p).getD a 0 = if a = p then v.getD (p + 1) 0 else if a = p + 1 then v.getD p 0 else v.getD a 0 := by
  unfold swp
  simp only [List.getD_eq_getElem?_getD, List.getElem?_set, List.length_set]
  by_cases h1 : a = p
  · subst h1
    rw [if_pos rfl, if_pos rfl, if_pos (show a < v.length by omega)]
    rfl
  · rw [if_neg (fun e => h1 e.symm), if_neg h1]
    by_cases h2 : a = p + 1
    · subst h2
      rw [if_pos rfl, if_pos rfl, if_pos h]
      rfl
    · rw [if_neg (fun e => h2 e.symm), if_neg h2]
theorem getD_take (v : List Int) (n i : Nat) (h : i < n) : (v.take n).getD i 0 = v.getD i 0 := by
  rw [List.getD_eq_getElem?_getD, List.getD_eq_getElem?_getD, List.getElem?_take, if_pos h]
theorem swp_perm (v : List Int) (p : Nat) (h : p + 1 < v.length) : (swp v p).Perm v := by
  have e : swp v p = (v.set (p + 1) (v[p]'(by omega))).set p (v[p + 1]'h) := by
    unfold swp
    rw [List.getD_eq_getElem?_getD, List.getD_eq_getElem?_getD, List.getElem?_eq_getElem (by omega), List.getElem?_eq_getElem h]
    rfl
  rw [e]
  exact List.set_set_perm h (by omega)
theorem ins_perm (v : List Int) (i : Nat) (h : i < v.length) : (ins v i).Perm v := by
  induction i generalizing v with
  | zero => exact List.Perm.refl _
  | succ i ih =>
    unfold ins
    split
    · exact (ih _ (by rw [swp_len]; omega)).trans (swp_perm v i h)
    · exact List.Perm.refl _
theorem swp_take (v : List Int) (p n : Nat) (h : p + 1 < n) : (swp v p).take n = swp (v.take n) p := by
  unfold swp
  rw [List.take_set, List.take_set, getD_take v n (p + 1) h, getD_take v n p (by omega)]
theorem ins_take (v : List Int) (i n : Nat) (h : i < n) : (ins v i).take n = ins (v.take n) i := by
  induction i generalizing v with
  | zero => rfl
  | succ i ih =>
    unfold ins
    rw [getD_take v n (i + 1) h, getD_take v n i (by omega)]
    split
    · rw [ih _ (by omega), swp_take v i n h]
    · rfl
theorem srt_take (v : List Int) (i n : Nat) (h : i ≤ n) : (srt v i).take n = srt (v.take n) i := by
  induction i with
  | zero => rfl
  | succ i ih => unfold srt; rw [ins_take _ _ _ (by omega), ih (by omega)]
theorem srt_perm (v : List Int) (i : Nat) (h : i ≤ v.length) : (srt v i).Perm v := by
  induction i with
  | zero => exact List.Perm.refl _
  | succ i ih => exact (ins_perm _ i (by rw [srt_len]; omega)).trans (ih (by omega))
theorem ins_sorted (v : List Int) (i j : Nat) (hj : j ≤ i) (hi : i < v.length) (h : ∀ a b, a < b → b ≤ i → b ≠ j → v.getD a 0 ≤ v.getD b 0) : ∀ a b, a < b → b ≤ i → (ins v j).getD a 0 ≤ (ins v j).getD b 0 := by
  induction j generalizing v with
  | zero => exact fun a b h1 h2 => h a b h1 h2 (by omega)
  | succ j ih =>
    unfold ins
    split
    · rename_i hlt
      refine ih (swp v j) (by omega) (by rw [swp_len]; exact hi) ?_
      intro a b h1 h2 h3
      rw [swp_getD v j a (by omega), swp_getD v j b (by omega)]
      by_cases ha : a = j
      · subst ha
        rw [if_pos rfl, if_neg (by omega)]
        by_cases hb : b = a + 1
        · subst hb
          rw [if_pos rfl]
          omega
        · rw [if_neg hb]
          exact h (a + 1) b (by omega) h2 (by omega)
      · rw [if_neg ha]
        by_cases ha2 : a = j + 1
        · subst ha2
          rw [if_pos rfl, if_neg (by omega), if_neg (by omega)]
          exact h j b (by omega) h2 (by omega)
        · rw [if_neg ha2, if_neg h3]
          by_cases hb : b = j + 1
          · subst hb
            rw [if_pos rfl]
            exact h a j (by omega) (by omega) (by omega)
          · rw [if_neg hb]
            exact h a b h1 h2 (by omega)
    · rename_i hlt
      intro a b h1 h2
      by_cases hb : b = j + 1
      · subst hb
        by_cases ha : a = j
        · subst ha; omega
        · have := h a j (by omega) (by omega) (by omega)
          omega
      · exact h a b h1 h2 hb
theorem srt_sorted (v : List Int) (i : Nat) (h : i ≤ v.length) : ∀ a b, a < b → b < i → (srt v i).getD a 0 ≤ (srt v i).getD b 0 := by
  induction i with
  | zero => intro a b _ h; omega
  | succ i ih =>
    intro a b h1 h2
    exact ins_sorted (srt v i) i i (Nat.le_refl _) (by rw [srt_len]; omega) (fun a b h3 h4 h5 => ih (by omega) a b h3 (by omega)) a b h1 (by omega)
theorem mid_counts (ys : List Int) (n : Nat) (hn : ys.length = n) (h1 : 1 ≤ n) (hs : ∀ a b, a < b → b < n → ys.getD a 0 ≤ ys.getD b 0) (u : Int) (hu : ys.getD ((n - 1) / 2) 0 = u) :
    n < 2 * ys.countP (fun x => decide (u ≤ x)) ∧ 2 * ys.countP (fun x => decide (u < x)) ≤ n := by
  have hq : (n - 1) / 2 < n := by omega
  obtain ⟨q, hqq⟩ : ∃ q, (n - 1) / 2 = q := ⟨_, rfl⟩
  rw [hqq] at hu hq
  have hle : ∀ a b, a ≤ b → b < n → ys.getD a 0 ≤ ys.getD b 0 := by
    intro a b h2 h3
    rcases Nat.lt_or_eq_of_le h2 with h | rfl
    · exact hs a b h h3
    · exact Int.le_refl _
  constructor
  · have e : ys.countP (fun x => decide (u ≤ x)) = (ys.take q).countP (fun x => decide (u ≤ x)) + (ys.drop q).countP (fun x => decide (u ≤ x)) := by
      rw [← List.countP_append, List.take_append_drop]
    have e2 : (ys.drop q).countP (fun x => decide (u ≤ x)) = (ys.drop q).length := by
      rw [List.countP_eq_length]
      intro x hx
      obtain ⟨i, hi, rfl⟩ := List.mem_iff_getElem.1 hx
      rw [List.length_drop] at hi
      rw [List.getElem_drop]
      have := hle q (q + i) (by omega) (by omega)
      rw [hu, List.getD_eq_getElem?_getD, List.getElem?_eq_getElem (by omega)] at this
      simpa using this
    rw [e, e2, List.length_drop]
    omega
  · have e : ys.countP (fun x => decide (u < x)) = (ys.take (q + 1)).countP (fun x => decide (u < x)) + (ys.drop (q + 1)).countP (fun x => decide (u < x)) := by
      rw [← List.countP_append, List.take_append_drop]
    have e2 : (ys.take (q + 1)).countP (fun x => decide (u < x)) = 0 := by
      rw [List.countP_eq_zero]
      intro x hx
      obtain ⟨i, hi, rfl⟩ := List.mem_iff_getElem.1 hx
      rw [List.length_take] at hi
      rw [List.getElem_take]
      have := hle i q (by omega) (by omega)
      rw [hu, List.getD_eq_getElem?_getD, List.getElem?_eq_getElem (by omega)] at this
      simpa using this
    have e3 := List.countP_le_length (p := fun x => decide (u < x)) (l := ys.drop (q + 1))
    rw [List.length_drop] at e3
    rw [e, e2]
    omega
/-- what the middle one is -/
theorem unt_counts (n : Nat) (us : List Int) (h1 : 1 ≤ n) (h2 : n ≤ us.length) :
    n < 2 * (us.take n).countP (fun x => decide (unt n us ≤ x)) ∧ 2 * (us.take n).countP (fun x => decide (unt n us < x)) ≤ n ∧ unt n us ∈ us.take n := by
  have hl : (us.take n).length = n := by rw [List.length_take]; omega
  have hp := srt_perm (us.take n) n (by omega)
  have hs := srt_sorted (us.take n) n (by omega)
  have e : unt n us = (srt (us.take n) n).getD ((n - 1) / 2) 0 := by
    unfold unt
    rw [← srt_take us n n (Nat.le_refl _), List.getD_eq_getElem?_getD, List.getD_eq_getElem?_getD, List.getElem?_take, if_pos (by omega)]
  have hl2 : (srt (us.take n) n).length = n := by rw [srt_len, hl]
  have hc := mid_counts (srt (us.take n) n) n hl2 h1 hs (unt n us) e.symm
  rw [hp.countP_eq, hp.countP_eq] at hc
  refine ⟨hc.1, hc.2, ?_⟩
  rw [← hp.mem_iff, e, List.getD_eq_getElem?_getD, List.getElem?_eq_getElem (by omega)]
  exact List.getElem_mem _
end Go.Proofs.Ytajojpfenlafbaa
