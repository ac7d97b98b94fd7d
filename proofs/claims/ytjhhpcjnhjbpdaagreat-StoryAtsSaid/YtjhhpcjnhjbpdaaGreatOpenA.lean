/- Arguments laid open: slices of whatever elements. -/
import Derived.Test.YtjhhpcjnhjbpdaaGreatRows
import Derived.Test.YtjhhpcjnhjbpdaaGreatWords
import Derived.WalkKit
import Derived.ProofKit
import Derived.OpenShut
import Derived.Laws.Cover2
import Derived.Lib.SmallJoins
import Derived.Deep.Slices
set_option linter.unusedSimpArgs false
set_option linter.unusedVariables false
namespace Go.Proofs.YtjhhpcjnhjbpdaaGreat
open Go.ChangeShapes Go.WideShapes Go.ChangeAt Go.RowKit Go.Joins Go.Deep

theorem list_of {E : Type} {n : Nat} {P : Nat → E → Prop} (h : ∀ i, i < n → ∃ x, P i x) : ∃ l : List E, l.length = n ∧ ∀ i (hi : i < l.length), P i l[i] := by
  induction n with
  | zero => exact ⟨[], rfl, fun i hi => by simp at hi⟩
  | succ n ih =>
    obtain ⟨l, hl, hp⟩ := ih fun i hi => h i (by omega)
    obtain ⟨x, hx⟩ := h n (by omega)
    refine ⟨l ++ [x], by simp [hl], fun i hi => ?_⟩
    rw [List.getElem_append]
    split
    · exact hp i _
    · have : i = n := by simp at hi; omega
      subst this
      simpa using hx
theorem flatMap_single {α β : Type} (l : List α) (f : α → β) : (l.flatMap fun x => [f x]) = l.map f := by
  induction l with
  | nil => rfl
  | cons a l ih => simp [ih]
theorem flatMap_get {α β : Type} (l : List α) (f : α → List β) (k : Nat) (hk : ∀ x, (f x).length = k) (u : Nat) (v : β) (h : (l.flatMap f)[u]? = some v) :
    ∃ i j, u = i * k + j ∧ j < k ∧ ∃ h : i < l.length, (f l[i])[j]? = some v := by
  induction l generalizing u with
  | nil => simp at h
  | cons a l ih =>
    rw [List.flatMap_cons] at h
    by_cases hu : u < k
    · rw [List.getElem?_append_left (by rw [hk]; exact hu)] at h
      exact ⟨0, u, by simp, hu, by simp, by simpa using h⟩
    · rw [List.getElem?_append_right (by rw [hk]; omega), hk] at h
      obtain ⟨i, j, e, hj, hi, hv⟩ := ih _ h
      exact ⟨i + 1, j, by rw [Nat.add_mul]; omega, hj, by simpa using hi, by simpa using hv⟩
theorem flatMap_at {α β : Type} (l : List α) (f : α → List β) (k : Nat) (hk : ∀ x, (f x).length = k) (i j : Nat) (hi : i < l.length) (hj : j < k) : (l.flatMap f)[i * k + j]? = (f l[i])[j]? := by
  induction l generalizing i with
  | nil => simp at hi
  | cons a l ih =>
    rw [List.flatMap_cons]
    cases i with
    | zero => rw [List.getElem?_append_left (by rw [hk]; omega)]; simp
    | succ i =>
      rw [List.getElem?_append_right (by rw [hk, Nat.add_mul]; omega), hk, show (i + 1) * k + j - k = i * k + j from by rw [Nat.add_mul]; omega, ih i (by simpa using hi)]
      simp
theorem flatMap_len {α β : Type} (l : List α) (f : α → List β) (k : Nat) (hk : ∀ x, (f x).length = k) : (l.flatMap f).length = l.length * k := by
  induction l with
  | nil => simp
  | cons a l ih => rw [List.flatMap_cons, List.length_append, hk, ih, List.length_cons, Nat.add_mul]; omega

theorem cell_in {w : World} {a : Addr} {v : Option Value} (i j : Nat) (hj : 0 < j) (h : w.cell? (a.add (i + j)) = v) : w.cell? ⟨(a.add i).block, (a.add i).off + j, none⟩ = v := by
  rw [← h, ← add_of_add]
  unfold Addr.add
  rw [if_neg (show ¬ j = 0 by omega)]
/-- a slice's header and cells, below what the world has -/
def SlOk (w : World) (size : Nat) (A : Option Addr) (c : Nat) (cells : List Value) : Prop := ∃ n, Reads w w.heap.size size A n cells
theorem SlOk.reads {w : World} {size : Nat} {A : Option Addr} {c n : Nat} {cells : List Value} (h : SlOk w size A c cells) (hn : cells.length = n * size) (hs : 0 < size) : Reads w w.heap.size size A n cells := by
  obtain ⟨m, h⟩ := h
  have : m = n := Nat.eq_of_mul_eq_mul_right hs (h.1.symm.trans hn)
  exact this ▸ h

theorem slice_open {E : Type} {size : Nat} {ce : E → List Value} {H : Type} {enc : TypeId × Value → H} {P : Program} {w : World} {base : Nat} {spare : Nat → Bool} {held : Bool} {ok : E → Prop} {t e : TypeId} (ht : P.underlying t = some (.slice e)) (hC : P.cellsOf e = size)
    (hE : ∀ n cs y, DataW.trod enc P w base spare held n e cs = some y → ∃ x : E, cs = ce x ∧ ok x) (hk : ∀ x, (ce x).length = size) (hs : 0 < size) {n : Nat} {cs : List Value} {y : DataW H × List MemPlace}
    (h : DataW.trod enc P w base spare held n t cs = some y) :
    ∃ (A : Option Addr) (c : Nat) (xs : List E), cs = [.slice A xs.length c] ∧ SlOk w size A c (xs.flatMap ce) ∧ xs.length ≤ c ∧ c ≤ maxLen ∧ ∀ x ∈ xs, ok x := by
  rcases open_slice ht h with ⟨hcs, _⟩ | ⟨a, len, cap, m, n', D, Pl, hcs, hb, hl, hm, hmm, _, hi⟩
  · exact ⟨none, 0, [], hcs, ⟨0, by simp, fun h => absurd h (by omega)⟩, Nat.le_refl _, by simp [maxLen], by simp⟩
  · have hlm : len ≤ m := by rw [hmm]; split <;> omega
    obtain ⟨xs, hx, hp⟩ := list_of (n := len) (P := fun i x => w.cells? base (a.add (i * P.cellsOf e)) (P.cellsOf e) = some (ce x) ∧ ok x) fun i h => by
      obtain ⟨cs', hc, ht'⟩ := hi i (by omega)
      obtain ⟨x, rfl, hok⟩ := hE _ _ _ ht'
      exact ⟨x, hc, hok⟩
    have hcell : ∀ (u : Nat) (v : Value), (xs.flatMap ce)[u]? = some v → w.cell? (a.add u) = some v := by
      intro u v hu
      obtain ⟨i, j, rfl, hj, hil, hv⟩ := flatMap_get xs ce size hk u v hu
      obtain ⟨_, hcl, hat⟩ := World.cells?_some (hp i hil).1
      have := hat j (by rw [hC]; exact hj)
      rw [hC, add_of_add] at this
      rw [this, hv]
    refine ⟨some a, cap, xs, by rw [hcs, hx], ⟨len, by rw [flatMap_len _ _ _ hk, hx], fun hn => ?_⟩, by omega, hm, fun x hx' => ?_⟩
    · have h1 := hcell 0 ((xs.flatMap ce)[0]'(by rw [flatMap_len _ _ _ hk, hx]; exact Nat.mul_pos hn hs)) (List.getElem?_eq_getElem _)
      have h2 := World.block_lt_of_cell? w _ h1
      rw [block_of_add] at h2
      exact ⟨a, rfl, h2, hcell⟩
    · obtain ⟨i, hi', rfl⟩ := List.getElem_of_mem hx'
      exact (hp i hi').2
end Go.Proofs.YtjhhpcjnhjbpdaaGreat
