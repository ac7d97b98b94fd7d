/- Accounts in plain Lean: what they may be, what they come to, how they are listed. -/
import Derived.Test.YtkfpopilkagedaaLgV6
import Derived.Test.YtkfpopilkagedaaLgK
set_option linter.unusedSimpArgs false
set_option linter.unusedVariables false
namespace Go.Proofs.Ytkfpopilkagedaa
open Go.RowKit Mo
def FOk (f : Int → Option (Int × Int)) (q : Int) : Prop := ∀ k p, f k = some p → isAc k = true ∧ isA p.1 = true ∧ 0 ≤ p.2 ∧ p.2 ≤ q * 1000000000000000
theorem FOk.nil (q : Int) : FOk (fun _ => none) q := fun _ _ h => by cases h
theorem FOk.mono {f : Int → Option (Int × Int)} {q q' : Int} (h : FOk f q) (hq : q ≤ q') : FOk f q' := fun k p hp => by
  obtain ⟨a, b, c, d⟩ := h k p hp
  exact ⟨a, b, c, by omega⟩
theorem FOk.put {f : Int → Option (Int × Int)} {q : Int} (h : FOk f q) {k : Int} {p : Int × Int} (hk : isAc k = true) (hp : isA p.1 = true) (h0 : 0 ≤ p.2) (h1 : p.2 ≤ q * 1000000000000000) : FOk (fput f k p) q := by
  intro i u hu
  unfold fput at hu
  split at hu
  · rename_i e
    subst e
    cases hu
    exact ⟨hk, hp, h0, h1⟩
  · exact h i u hu
theorem isAc_iff {k : Int} : isAc k = true ↔ 0 ≤ k ∧ k < 4096 := by unfold isAc; simp
theorem FOk.sup {f : Int → Option (Int × Int)} {q : Int} (h : FOk f q) : Sup f := by
  intro k hk
  obtain ⟨p, hp⟩ := Option.isSome_iff_exists.1 hk
  exact isAc_iff.1 (h k p hp).1
theorem FOk.opened {f f' : Int → Option (Int × Int)} {q a n E : Int} (h : FOk f q) (hq : 0 ≤ q) (hO : OpIs f a n E f') : FOk f' q := by
  rcases hO with ⟨_, _, rfl⟩ | ⟨_, _, _, rfl⟩ | ⟨_, _, _, _, rfl⟩ | ⟨h1, _, h3, _, rfl⟩
  · exact h
  · exact h
  · exact h
  · exact h.put h1 h3 (Int.le_refl _) (by omega)
theorem FOk.moved {f f' : Int → Option (Int × Int)} {q fee a c n V E : Int} (h : FOk f q) (hq : 0 ≤ q) (h0 : 0 ≤ fee) (h1 : fee ≤ 1000000000000000) (hO : MvIs f fee a c n V E f') : FOk f' (q + 1) := by
  have hm := h.mono (q' := q + 1) (by omega)
  rcases hO with ⟨_, _, _, rfl⟩ | ⟨_, _, _, _, _, rfl⟩ | ⟨_, _, _, _, _, _, _, rfl⟩ | ⟨_, _, _, _, rfl⟩ | ⟨_, _, _, _, _, _, rfl⟩ | ⟨_, _, _, _, _, _, _, rfl⟩ | ⟨_, _, _, _, _, _, _, _, _, rfl⟩ | ⟨x, y, ho, hx, hs, hy, hz, _, _, rfl⟩
  · exact hm
  · exact hm
  · exact hm
  · exact hm
  · exact hm
  · exact hm
  · exact hm
  · obtain ⟨g1, g2, g3, g4⟩ := h a x hx
    obtain ⟨k1, k2, k3, k4⟩ := h c y hy
    obtain ⟨o1, o2, o3, o4, o5⟩ := ho
    have hA := isA_iff.1 g2
    have hB := isA_iff.1 o4
    exact (hm.put g1 (isA_iff.2 (by dsimp only; omega)) (by dsimp only; omega) (by dsimp only; omega)).put k1 hz (by dsimp only; omega) (by dsimp only; omega)
/-- what an account has and has paid -/
def val : Option (Int × Int) → Int
  | none => 0
  | some p => p.1 + p.2
def totN (f : Int → Option (Int × Int)) : Nat → Int
  | 0 => 0
  | n + 1 => totN f n + val (f n)
def tot (f : Int → Option (Int × Int)) : Int := totN f 4096
theorem totN_put (f : Int → Option (Int × Int)) (k : Nat) (p : Int × Int) (n : Nat) : totN (fput f k p) n = totN f n + if k < n then p.1 + p.2 - val (f k) else 0 := by
  induction n with
  | zero => simp [totN]
  | succ n ih =>
    unfold totN
    rw [ih]
    rcases Nat.lt_trichotomy k n with h | h | h
    · rw [if_pos h, if_pos (by omega), show fput f k p n = f n from if_neg (by omega)]; omega
    · subst h
      rw [if_neg (by omega), if_pos (by omega), show fput f k p k = some p from if_pos rfl]; simp only [val]; omega
    · rw [if_neg (by omega), if_neg (by omega), show fput f k p n = f n from if_neg (by omega)]; omega
theorem tot_put (f : Int → Option (Int × Int)) {k : Int} (p : Int × Int) (hk : isAc k = true) : tot (fput f k p) = tot f + (p.1 + p.2 - val (f k)) := by
  obtain ⟨h0, h1⟩ := isAc_iff.1 hk
  obtain ⟨j, rfl⟩ : ∃ j : Nat, k = j := ⟨k.toNat, by omega⟩
  unfold tot
  rw [totN_put, if_pos (by omega)]
theorem tot_nil : tot (fun _ => none) = 0 := by
  have h : ∀ n, totN (fun _ => none) n = 0 := by
    intro n
    induction n with
    | zero => rfl
    | succ n ih => unfold totN; rw [ih]; rfl
  exact h 4096
theorem tot_opened {f f' : Int → Option (Int × Int)} {a n E : Int} (hO : OpIs f a n E f') : tot f' = tot f + if E = 0 then n else 0 := by
  rcases hO with ⟨_, rfl, rfl⟩ | ⟨_, _, rfl, rfl⟩ | ⟨_, _, _, rfl, rfl⟩ | ⟨h1, h2, h3, rfl, rfl⟩
  · simp
  · simp
  · simp
  · have e : f a = none := by simpa using h2
    rw [tot_put f _ h1, e]
    simp [val]
theorem tot_moved {f f' : Int → Option (Int × Int)} {fee a c n V E : Int} (hO : MvIs f fee a c n V E f') : tot f' = tot f := by
  rcases hO with ⟨_, _, _, rfl⟩ | ⟨_, _, _, _, _, rfl⟩ | ⟨_, _, _, _, _, _, _, rfl⟩ | ⟨_, _, _, _, rfl⟩ | ⟨_, _, _, _, _, _, rfl⟩ | ⟨_, _, _, _, _, _, _, rfl⟩ | ⟨_, _, _, _, _, _, _, _, _, rfl⟩ | ⟨x, y, ho, hx, hs, hy, hz, _, _, rfl⟩
  · rfl
  · rfl
  · rfl
  · rfl
  · rfl
  · rfl
  · rfl
  · obtain ⟨o1, o2, o3, o4, o5⟩ := ho
    rw [tot_put _ _ o2, tot_put _ _ o1, hx, show fput f a (x.1 - n - fee, x.2 + fee) c = f c from if_neg (fun h => o5 h.symm), hy]
    simp only [val]
    omega
theorem tot_nonneg {f : Int → Option (Int × Int)} {q : Int} (h : FOk f q) : 0 ≤ tot f := by
  have hn : ∀ n, 0 ≤ totN f n := by
    intro n
    induction n with
    | zero => exact Int.le_refl _
    | succ n ih =>
      unfold totN
      cases e : f n with
      | none => simpa [val] using ih
      | some p =>
        obtain ⟨_, h1, h2, _⟩ := h _ p e
        have := isA_iff.1 h1
        simp only [val]; omega
  exact hn 4096
/-- how accounts are listed -/
def hasAt (f : Int → Option (Int × Int)) (k : Int) : Int := ((f k).getD (0, 0)).1
def paidAt (f : Int → Option (Int × Int)) (k : Int) : Int := ((f k).getD (0, 0)).2
def entsH (f : Int → Option (Int × Int)) (l : List Int) : List (Int × Int) := l.map (fun k => (k, hasAt f k))
def entsP (f : Int → Option (Int × Int)) (l : List Int) : List (Int × Int) := (l.filter (fun k => paidAt f k != 0)).map (fun k => (4096 + k, paidAt f k))
def ents (f : Int → Option (Int × Int)) : List (Int × Int) := entsH f (keysOf f) ++ entsP f (keysOf f)
def eC (p : Int × Int) : List Value := [.int .i64 p.1, .int .i64 p.2]
theorem entsP_len (f : Int → Option (Int × Int)) (l : List Int) : (entsP f l).length ≤ l.length := by
  unfold entsP
  rw [List.length_map]
  exact List.length_filter_le _ _
theorem entsH_len (f : Int → Option (Int × Int)) (l : List Int) : (entsH f l).length = l.length := by unfold entsH; rw [List.length_map]
theorem ents_len (f : Int → Option (Int × Int)) : (ents f).length ≤ 8192 := by
  have := keysOf_len f
  have := entsP_len f (keysOf f)
  unfold ents
  rw [List.length_append, entsH_len]
  omega
theorem entsH_snoc (f : Int → Option (Int × Int)) (l : List Int) (k : Int) : entsH f (l ++ [k]) = entsH f l ++ [(k, hasAt f k)] := by unfold entsH; rw [List.map_append]; rfl
theorem entsP_snoc0 (f : Int → Option (Int × Int)) (l : List Int) (k : Int) (h : paidAt f k = 0) : entsP f (l ++ [k]) = entsP f l := by
  unfold entsP
  rw [List.filter_append]
  simp [h]
theorem entsP_snoc1 (f : Int → Option (Int × Int)) (l : List Int) (k : Int) (h : paidAt f k ≠ 0) : entsP f (l ++ [k]) = entsP f l ++ [(4096 + k, paidAt f k)] := by
  unfold entsP
  rw [List.filter_append]
  simp [h]
theorem ents_sorted {f : Int → Option (Int × Int)} (hs : Sup f) : (ents f).Pairwise (fun a b => a.1 < b.1) := by
  unfold ents
  refine List.pairwise_append.2 ⟨?_, ?_, ?_⟩
  · unfold entsH
    rw [List.pairwise_map]
    exact keysOf_sorted f
  · unfold entsP
    rw [List.pairwise_map]
    exact ((keysOf_sorted f).filter _).imp (fun h => by dsimp only; omega)
  · intro a ha b hb
    unfold entsH at ha
    unfold entsP at hb
    obtain ⟨k, hk, rfl⟩ := List.mem_map.1 ha
    obtain ⟨j, hj, rfl⟩ := List.mem_map.1 hb
    have h1 := hs k ((keysOf_mem hs k).1 hk)
    have h2 := hs j ((keysOf_mem hs j).1 ((List.mem_filter.1 hj).1))
    dsimp only
    omega
theorem ents_val {f : Int → Option (Int × Int)} {q : Int} (h : FOk f q) : ∀ p ∈ ents f, 0 ≤ p.1 ∧ p.1 < 8192 ∧ 0 ≤ p.2 ∧ (p.1 < 4096 → p.2 ≤ 1000000000000000) ∧ p.2 ≤ 1000000000000000 + q * 1000000000000000 := by
  intro p hp
  have hs := h.sup
  unfold ents at hp
  rcases List.mem_append.1 hp with hp | hp
  · obtain ⟨k, hk, rfl⟩ := List.mem_map.1 hp
    obtain ⟨u, hu⟩ := Option.isSome_iff_exists.1 ((keysOf_mem hs k).1 hk)
    obtain ⟨h1, h2, h3, h4⟩ := h k u hu
    have a1 := isAc_iff.1 h1; have a2 := isA_iff.1 h2
    simp only [hasAt, hu, Option.getD_some]
    omega
  · obtain ⟨k, hk, rfl⟩ := List.mem_map.1 hp
    obtain ⟨u, hu⟩ := Option.isSome_iff_exists.1 ((keysOf_mem hs k).1 ((List.mem_filter.1 hk).1))
    obtain ⟨h1, h2, h3, h4⟩ := h k u hu
    have a1 := isAc_iff.1 h1; have a2 := isA_iff.1 h2
    simp only [paidAt, hu, Option.getD_some]
    omega
theorem sumA_ents (f : Int → Option (Int × Int)) (l : List Int) : sumA ((entsH f l ++ entsP f l).map Prod.snd) = sumA (l.map (fun k => hasAt f k + paidAt f k)) := by
  rw [List.map_append, sumA_append]
  induction l with
  | nil => rfl
  | cons k l ih =>
    have e1 : sumA ((entsH f (k :: l)).map Prod.snd) = hasAt f k + sumA ((entsH f l).map Prod.snd) := rfl
    have e2 : sumA ((entsP f (k :: l)).map Prod.snd) = paidAt f k + sumA ((entsP f l).map Prod.snd) := by
      unfold entsP
      by_cases h : paidAt f k = 0
      · simp [h]
      · simp [h, sumA]
    have e3 : sumA ((k :: l).map (fun k => hasAt f k + paidAt f k)) = hasAt f k + paidAt f k + sumA (l.map (fun k => hasAt f k + paidAt f k)) := rfl
    rw [e1, e2, e3, ← ih]
    omega
theorem sumA_keys (f : Int → Option (Int × Int)) (n : Nat) : sumA ((((List.range n).map (fun i : Nat => (i : Int))).filter (fun k => (f k).isSome)).map (fun k => hasAt f k + paidAt f k)) = totN f n := by
  induction n with
  | zero => rfl
  | succ n ih =>
    rw [List.range_succ, List.map_append, List.filter_append, List.map_append, sumA_append, ih]
    show _ = totN f n + val (f n)
    cases e : f n with
    | none => simp [e, val, sumA]
    | some p => simp [e, val, sumA, hasAt, paidAt]
theorem ents_tot (f : Int → Option (Int × Int)) : sumA ((ents f).map Prod.snd) = tot f := by
  unfold ents
  rw [sumA_ents]
  exact sumA_keys f 4096
theorem sum_take_le (l : List Int) (h : ∀ x ∈ l, 0 ≤ x) (k : Nat) : 0 ≤ sumA (l.take k) ∧ sumA (l.take k) ≤ sumA l := by
  have nn : ∀ l : List Int, (∀ x ∈ l, 0 ≤ x) → 0 ≤ sumA l := by
    intro l
    induction l with
    | nil => intro _; exact Int.le_refl _
    | cons x l ih =>
      intro h
      have := h x (by simp)
      have := ih (fun y hy => h y (by simp [hy]))
      simp only [sumA]; omega
  have h1 := nn (l.take k) (fun x hx => h x (List.mem_of_mem_take hx))
  have h2 := nn (l.drop k) (fun x hx => h x (List.mem_of_mem_drop hx))
  have h3 := sumA_append (l.take k) (l.drop k)
  rw [List.take_append_drop] at h3
  omega
end Go.Proofs.Ytkfpopilkagedaa
