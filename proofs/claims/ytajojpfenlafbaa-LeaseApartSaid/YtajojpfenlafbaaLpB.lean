/- Leases in plays: what holds at every turn, pure. -/
import Derived.Test.YtajojpfenlafbaaLsA
import Derived.Test.YtajojpfenlafbaaLsP
import Derived.Test.YtajojpfenlafbaaLpA
set_option linter.unusedSimpArgs false
set_option linter.unusedVariables false
namespace Go.Proofs.Ytajojpfenlafbaa
open Mo
theorem countP_tk (p : Int → Bool) (v : List Int) (k : Nat) (h : k < v.length) : (v.take (k + 1)).countP p = (v.take k).countP p + if p (v.getD k 0) = true then 1 else 0 := by
  rw [List.take_succ_eq_append_getElem h, List.countP_append, List.getD_eq_getElem?_getD, List.getElem?_eq_getElem h]
  simp [List.countP_cons]
theorem count_pair (p q : Int → Bool) (xs ys : List Int) (n : Nat) (hx : n ≤ xs.length) (hy : n ≤ ys.length) (h : ∀ v, v < n → ¬ (p (xs.getD v 0) = true ∧ q (ys.getD v 0) = true)) : (xs.take n).countP p + (ys.take n).countP q ≤ n := by
  induction n with
  | zero => simp
  | succ n ih =>
    rw [countP_tk p xs n (by omega), countP_tk q ys n (by omega)]
    have := ih (by omega) (by omega) (fun v hv => h v (by omega))
    have := h n (by omega)
    by_cases a : p (xs.getD n 0) = true
    · by_cases b : q (ys.getD n 0) = true
      · exact absurd ⟨a, b⟩ this
      · rw [if_pos a, if_neg b]; omega
    · rw [if_neg a]; split <;> omega
theorem count_both {p q : Int → Bool} {xs ys : List Int} {n : Nat} (hx : n ≤ xs.length) (hy : n ≤ ys.length) (h1 : n < 2 * (xs.take n).countP p) (h2 : n < 2 * (ys.take n).countP q) : ∃ v, v < n ∧ p (xs.getD v 0) = true ∧ q (ys.getD v 0) = true := by
  by_cases h : ∃ v, v < n ∧ p (xs.getD v 0) = true ∧ q (ys.getD v 0) = true
  · exact h
  · have := count_pair p q xs ys n hx hy (fun v hv hh => h ⟨v, hv, hh⟩)
    omega
theorem count_up (p q : Int → Bool) (xs ys : List Int) (n : Nat) (hx : n ≤ xs.length) (hy : n ≤ ys.length) (h : ∀ v, v < n → p (xs.getD v 0) = true → q (ys.getD v 0) = true) : (xs.take n).countP p ≤ (ys.take n).countP q := by
  induction n with
  | zero => simp
  | succ n ih =>
    rw [countP_tk p xs n (by omega), countP_tk q ys n (by omega)]
    have := ih (by omega) (by omega) (fun v hv => h v (by omega))
    have := h n (by omega)
    by_cases a : p (xs.getD n 0) = true
    · rw [if_pos a, if_pos (this a)]; omega
    · rw [if_neg a]; split <;> omega
theorem getD_st (v : List Int) (k i : Nat) (x : Int) (h : k < v.length) : (v.set k x).getD i 0 = if i = k then x else v.getD i 0 := by
  rw [List.getD_eq_getElem?_getD, List.getD_eq_getElem?_getD, List.getElem?_set]
  by_cases e : k = i
  · subst e; rw [if_pos rfl, if_pos rfl, if_pos h]; rfl
  · rw [if_neg e, if_neg (fun h => e h.symm)]
/-- what leaders hear of a voter, and what the voter granted -/
structure LInv (n : Nat) (t : Int) (vL vU : Nat → Int) (us : Nat → List Int) : Prop where
  l : ∀ l, l < 3 → (us l).length = 5
  bd : ∀ l v, l < 3 → 0 ≤ (us l).getD v 0 ∧ (us l).getD v 0 ≤ 1125899906842624
  b1 : ∀ l v, l < 3 → v < n → (us l).getD v 0 ≤ t + 1048576
  b2 : ∀ l v, l < 3 → v < n → (us l).getD v 0 ≤ t ∨ ((us l).getD v 0 ≤ vU v ∧ (vL v = (l : Int) + 1 ∨ vL v = 0))
  b3 : ∀ l l' v, l < 3 → l' < 3 → v < n → l ≠ l' → (us l).getD v 0 ≤ t ∨ (us l').getD v 0 ≤ t
  b4 : ∀ v, v < n → vL v ≠ 0 → vU v ≤ t + 1048576
  b5 : ∀ v, v < n → 0 ≤ vU v ∧ vU v ≤ 1125899906842624
variable {n : Nat} {t : Int} {vL vU : Nat → Int} {us : Nat → List Int}
theorem linv_new (n : Nat) (t : Int) (t0 : 0 ≤ t) : LInv n t (fun _ => 0) (fun _ => 0) (fun _ => [0, 0, 0, 0, 0]) := by
  have z : ∀ v : Nat, ([0, 0, 0, 0, 0] : List Int).getD v 0 = 0 := fun v => by rcases v with _ | _ | _ | _ | _ | v <;> rfl
  refine ⟨fun _ _ => rfl, fun l v _ => by rw [z]; omega, fun l v _ _ => by rw [z]; omega, fun l v _ _ => .inl (by rw [z]; omega), fun l l' v _ _ _ _ => .inl (by rw [z]; omega), fun v _ h => absurd rfl h, fun v _ => by omega⟩
theorem linv_go (H : LInv n t vL vU us) (d : Int) (d0 : 0 ≤ d) : LInv n (t + d) vL vU us :=
  ⟨H.l, H.bd, fun l v a b => by have := H.b1 l v a b; omega, fun l v a b => by rcases H.b2 l v a b with h | h; exact .inl (by omega); exact .inr h, fun l l' v a b c e => by rcases H.b3 l l' v a b c e with h | h; exact .inl (by omega); exact .inr (by omega), fun v a b => by have := H.b4 v a b; omega, H.b5⟩
theorem linv_again (H : LInv n t vL vU us) (v : Nat) (hi : Int) (h0 : 0 ≤ hi) (h : t ≤ hi) : LInv n t (upd vL v 0) (upd vU v (min (hi + 1048576) 1125899906842624)) us := by
  refine ⟨H.l, H.bd, H.b1, ?_, H.b3, ?_, ?_⟩
  · intro l q a b
    by_cases e : q = v
    · subst e
      rw [upd_same, upd_same]
      have := H.b1 l q a b
      have := (H.bd l q a).2
      exact .inr ⟨by omega, .inr rfl⟩
    · rw [upd_ne _ _ _ _ e, upd_ne _ _ _ _ e]
      exact H.b2 l q a b
  · intro q b hq
    by_cases e : q = v
    · subst e; rw [upd_same] at hq; exact absurd rfl hq
    · rw [upd_ne _ _ _ _ e] at hq ⊢
      exact H.b4 q b hq
  · intro q b
    by_cases e : q = v
    · subst e; rw [upd_same]; omega
    · rw [upd_ne _ _ _ _ e]; exact H.b5 q b
theorem linv_hear (H : LInv n t vL vU us) {v who : Nat} (hn : n ≤ 5) (hv : v < n) (hw : who < 3) {u : Int} (a1 : vL v = (who : Int) + 1) (a2 : vU v = u) (a3 : ∀ l, l < 3 → l ≠ who → (us l).getD v 0 ≤ t) (a4 : (us who).getD v 0 ≤ t ∨ (us who).getD v 0 ≤ u) (u0 : 0 ≤ u) (u1 : u ≤ 1125899906842624) (u2 : u ≤ t + 1048576) :
    LInv n t vL vU (upd us who ((us who).set v (max ((us who).getD v 0) u))) := by
  have hl := H.l who hw
  have G : ∀ q, ((us who).set v (max ((us who).getD v 0) u)).getD q 0 = if q = v then max ((us who).getD v 0) u else (us who).getD q 0 := fun q => getD_st _ _ _ _ (by omega)
  have bv := H.bd who v hw
  refine ⟨?_, ?_, ?_, ?_, ?_, H.b4, H.b5⟩
  · intro l a
    by_cases e : l = who
    · subst e; rw [upd_same]; simpa using hl
    · rw [upd_ne _ _ _ _ e]; exact H.l l a
  · intro l q a
    by_cases e : l = who
    · subst e
      rw [upd_same, G]
      split
      · omega
      · exact H.bd l q a
    · rw [upd_ne _ _ _ _ e]; exact H.bd l q a
  · intro l q a b
    by_cases e : l = who
    · subst e
      rw [upd_same, G]
      have := H.b1 l v a hv
      split
      · omega
      · exact H.b1 l q a b
    · rw [upd_ne _ _ _ _ e]; exact H.b1 l q a b
  · intro l q a b
    by_cases e : l = who
    · subst e
      rw [upd_same, G]
      split
      · rename_i e; subst e
        rw [a1, a2]
        rcases a4 with h | h
        · by_cases h2 : (us l).getD q 0 ≤ u
          · exact .inr ⟨by omega, .inl rfl⟩
          · exact .inl (by omega)
        · exact .inr ⟨by omega, .inl rfl⟩
      · exact H.b2 l q a b
    · rw [upd_ne _ _ _ _ e]; exact H.b2 l q a b
  · intro l l' q a b c e
    by_cases e1 : l = who
    · subst e1
      rw [upd_same, upd_ne _ _ _ _ (fun h => e h.symm), G]
      split
      · rename_i e2; subst e2
        exact .inr (a3 l' b (fun h => e h.symm))
      · exact H.b3 l l' q a b c e
    · by_cases e2 : l' = who
      · subst e2
        rw [upd_same, upd_ne _ _ _ _ e1, G]
        split
        · rename_i e3; subst e3
          exact .inl (a3 l a e1)
        · exact H.b3 l l' q a b c e
      · rw [upd_ne _ _ _ _ e1, upd_ne _ _ _ _ e2]; exact H.b3 l l' q a b c e
/-- a grant, and what it is if it is heard of -/
theorem linv_grant (H : LInv n t vL vU us) {v who : Nat} (hn : n ≤ 5) (hv : v < n) (hw : who < 3) {lo hi len u E L' U' : Int} (h1 : lo ≤ t) (len1 : 1 ≤ len) (len2 : len ≤ 1048576) (l0 : 0 ≤ lo) (hs : isS lo hi = true) (G : GrIs (vL v) (vU v) lo hi ((who : Int) + 1) len u E L' U') :
    LInv n t (upd vL v L') (upd vU v U') us ∧ (E = 0 → 0 ≤ u ∧ u ≤ 1125899906842624 ∧ LInv n t (upd vL v L') (upd vU v U') (upd us who ((us who).set v (max ((us who).getD v 0) u)))) := by
  have same : LInv n t (upd vL v (vL v)) (upd vU v (vU v)) us := by
    have e1 : upd vL v (vL v) = vL := by funext i; unfold upd; split; rename_i h; rw [h]; rfl
    have e2 : upd vU v (vU v) = vU := by funext i; unfold upd; split; rename_i h; rw [h]; rfl
    rw [e1, e2]; exact H
  have b5 := H.b5 v hv
  rcases G with ⟨a, _⟩ | ⟨_, a, _⟩ | ⟨_, _, a, _⟩ | ⟨_, _, _, a, _⟩ | ⟨_, _, _, _, hL, hu, rfl, rfl, rfl⟩ | ⟨_, _, _, _, _, _, rfl, rfl, rfl, rfl⟩ | ⟨_, _, _, _, hL, hlt, hu, rfl, rfl, rfl⟩
  · rw [hs] at a; cases a
  · omega
  · omega
  · omega
  · have hb4 := H.b4 v hv (by omega)
    have main : LInv n t (upd vL v ((who : Int) + 1)) (upd vU v U') us := by
      refine ⟨H.l, H.bd, H.b1, ?_, H.b3, ?_, ?_⟩
      · intro l q a b
        by_cases e : q = v
        · subst e
          rw [upd_same, upd_same]
          rcases H.b2 l q a b with h | ⟨h, h'⟩
          · exact .inl h
          · exact .inr ⟨by omega, by omega⟩
        · rw [upd_ne _ _ _ _ e, upd_ne _ _ _ _ e]; exact H.b2 l q a b
      · intro q b hq
        by_cases e : q = v
        · subst e; rw [upd_same]; omega
        · rw [upd_ne _ _ _ _ e] at hq ⊢; exact H.b4 q b hq
      · intro q b
        by_cases e : q = v
        · subst e; rw [upd_same]; omega
        · rw [upd_ne _ _ _ _ e]; exact H.b5 q b
    refine ⟨main, fun _ => ⟨by omega, by omega, linv_hear main hn hv hw (upd_same _ _ _) (upd_same _ _ _) ?_ ?_ (by omega) (by omega) (by omega)⟩⟩
    · intro l a e
      rcases H.b2 l v a hv with h | ⟨h, h'⟩
      · exact h
      · omega
    · rcases H.b2 who v hw hv with h | ⟨h, h'⟩
      · exact .inl h
      · exact .inr (by omega)
  · exact ⟨same, fun h => by cases h⟩
  · have main : LInv n t (upd vL v ((who : Int) + 1)) (upd vU v U') us := by
      refine ⟨H.l, H.bd, H.b1, ?_, H.b3, ?_, ?_⟩
      · intro l q a b
        by_cases e : q = v
        · subst e
          rcases H.b2 l q a b with h | ⟨h, h'⟩
          · exact .inl h
          · exact .inl (by omega)
        · rw [upd_ne _ _ _ _ e, upd_ne _ _ _ _ e]; exact H.b2 l q a b
      · intro q b hq
        by_cases e : q = v
        · subst e; rw [upd_same]; omega
        · rw [upd_ne _ _ _ _ e] at hq ⊢; exact H.b4 q b hq
      · intro q b
        by_cases e : q = v
        · subst e; rw [upd_same]; omega
        · rw [upd_ne _ _ _ _ e]; exact H.b5 q b
    have all : ∀ l, l < 3 → (us l).getD v 0 ≤ t := by
      intro l a
      rcases H.b2 l v a hv with h | ⟨h, h'⟩
      · exact h
      · omega
    exact ⟨main, fun _ => ⟨by omega, by omega, linv_hear main hn hv hw (upd_same _ _ _) (upd_same _ _ _) (fun l a _ => all l a) (.inl (all who hw)) (by omega) (by omega) (by omega)⟩⟩
/-- no two hold at once -/
theorem linv_one (H : LInv n t vL vU us) (h1 : 1 ≤ n) (hn : n ≤ 5) {l l' : Nat} (a : l < 3) (b : l' < 3) (e : l ≠ l') {x y : Int} (hx : t ≤ x) (hy : t ≤ y) : ¬ (x < unt n (us l) ∧ y < unt n (us l')) := by
  rintro ⟨h, h'⟩
  have e1 := H.l l a; have e2 := H.l l' b
  obtain ⟨v, hv, p, q⟩ := count_both (by omega) (by omega) (unt_counts n (us l) h1 (by omega)).1 (unt_counts n (us l') h1 (by omega)).1
  simp only [decide_eq_true_eq] at p q
  rcases H.b3 l l' v a b hv e with h | h <;> omega
/-- stamps that were given -/
structure SInv (n : Nat) (last : Int) (us : Nat → List Int) (la : Nat → Int) : Prop where
  s0 : ∀ l, l < 3 → 0 ≤ la l
  s1 : 0 ≤ last
  s2 : last = 0 ∨ ∃ l, l < 3 ∧ last ≤ la l ∧ n < 2 * ((us l).take n).countP (fun x => decide (last < x))
theorem sinv_hear {last : Int} {la : Nat → Int} (S : SInv n last us la) (hn : n ≤ 5) (hl : ∀ l, l < 3 → (us l).length = 5) {v who : Nat} (hv : v < n) (hw : who < 3) (u : Int) : SInv n last (upd us who ((us who).set v (max ((us who).getD v 0) u))) la := by
  refine ⟨S.s0, S.s1, ?_⟩
  rcases S.s2 with h | ⟨l, a, b, c⟩
  · exact .inl h
  · refine .inr ⟨l, a, b, ?_⟩
    by_cases e : l = who
    · subst e
      rw [upd_same]
      have e1 := hl l a
      have := count_up (fun x => decide (last < x)) (fun x => decide (last < x)) (us l) ((us l).set v (max ((us l).getD v 0) u)) n (by omega) (by simp; omega) (fun q hq h => by
        rw [getD_st _ _ _ _ (by omega)]
        simp only [decide_eq_true_eq] at h ⊢
        split
        · rename_i e; subst e; omega
        · exact h)
      omega
    · rw [upd_ne _ _ _ _ e]; exact c
theorem sinv_give {last : Int} {la : Nat → Int} (H : LInv n t vL vU us) (S : SInv n last us la) (h1 : 1 ≤ n) (hn : n ≤ 5) {who : Nat} (hw : who < 3) {hi : Int} (hh : t ≤ hi) (t0 : 0 ≤ t) (a : hi < unt n (us who)) (b : max (la who) hi < unt n (us who) - 1) :
    last < max (la who) hi + 1 ∧ t < max (la who) hi + 1 ∧ SInv n (max (la who) hi + 1) us (upd la who (max (la who) hi + 1)) := by
  have e1 := H.l who hw
  have cu := (unt_counts n (us who) h1 (by omega)).1
  refine ⟨?_, by omega, ?_, by omega, .inr ⟨who, hw, by rw [upd_same]; exact Int.le_refl _, ?_⟩⟩
  · rcases S.s2 with h | ⟨l, c, d, f⟩
    · omega
    · by_cases e : l = who
      · subst e; omega
      · have e2 := H.l l c
        obtain ⟨v, hv, p, q⟩ := count_both (by omega) (by omega) f cu
        simp only [decide_eq_true_eq] at p q
        rcases H.b3 l who v c hw hv e with h | h <;> omega
  · intro l c
    by_cases e : l = who
    · subst e; rw [upd_same]; have := S.s0 l c; omega
    · rw [upd_ne _ _ _ _ e]; exact S.s0 l c
  · have := count_up (fun x => decide (unt n (us who) ≤ x)) (fun x => decide (max (la who) hi + 1 < x)) (us who) (us who) n (by omega) (by omega) (fun q hq h => by
      simp only [decide_eq_true_eq] at h ⊢
      omega)
    omega
end Go.Proofs.Ytajojpfenlafbaa
