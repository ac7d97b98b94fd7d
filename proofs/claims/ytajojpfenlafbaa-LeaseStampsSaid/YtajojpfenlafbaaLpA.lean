/- Leases in plays: families of objects behind an array of pointers. -/
import Derived.Test.YtajojpfenlafbaaLsW
import Derived.Test.YtajojpfenlafbaaLsP
set_option linter.unusedSimpArgs false
set_option linter.unusedVariables false
namespace Go.Proofs.Ytajojpfenlafbaa
open Go.RowKit Mo
def upd {α : Type} (f : Nat → α) (k : Nat) (x : α) : Nat → α := fun i => if i = k then x else f i
theorem upd_same {α : Type} (f : Nat → α) (k : Nat) (x : α) : upd f k x k = x := by unfold upd; rw [if_pos rfl]
theorem upd_ne {α : Type} (f : Nat → α) (k i : Nat) (x : α) (h : i ≠ k) : upd f k x i = f i := by unfold upd; rw [if_neg h]
/-- an array of n pointers, the first k of them not nil -/
def parr (g : Nat → Nat) (k n : Nat) : Array Value := ((List.range n).map fun i => if i < k then Value.pointer (some ⟨g i, 0, none⟩) else .pointer none).toArray
theorem parr_at {W : World} {b : Nat} {T : TypeId} {g : Nat → Nat} {k n : Nat} (h : Blk W b T (parr g k n)) (i : Nat) (hi : i < k) (hk : k ≤ n) : W.cell? ⟨b, i, none⟩ = some (.pointer (some ⟨g i, 0, none⟩)) := by
  rw [h.cell i]
  unfold parr
  simp only [List.getElem?_toArray, List.getElem?_map]
  rw [List.getElem?_range (by omega)]
  simp [hi]
theorem parr_set (g : Nat → Nat) (k n v : Nat) (x : Nat) (hv : v ≤ k) (hn : v < n) : (parr g k n).setIfInBounds v (.pointer (some ⟨x, 0, none⟩)) = parr (upd g v x) (if v = k then k + 1 else k) n := by
  unfold parr
  rw [List.setIfInBounds_toArray]
  congr 1
  apply List.ext_getElem?
  intro i
  rw [List.getElem?_set]
  simp only [List.length_map, List.length_range, List.getElem?_map]
  by_cases h : v = i
  · subst h
    rw [if_pos rfl, if_pos hn, List.getElem?_range hn]
    simp only [Option.map_some, upd_same]
    rw [if_pos]
    split <;> omega
  · rw [if_neg h]
    by_cases hi : i < n
    · rw [List.getElem?_range hi]
      simp only [Option.map_some]
      rw [upd_ne _ _ _ _ (fun e => h e.symm)]
      by_cases hik : i < k
      · rw [if_pos hik, if_pos]; split <;> omega
      · rw [if_neg hik, if_neg]; split <;> omega
    · rw [List.getElem?_eq_none (by simp; omega)]; rfl
theorem Blk.ne_type {W : World} {g g' : Nat} {T T' : TypeId} {cs cs' : Array Value} (h : Blk W g T cs) (h' : Blk W g' T' cs') (ne : T ≠ T') : g ≠ g' := by
  rintro rfl
  have e : (some (Obj.cells cs T)) = some (Obj.cells cs' T') := h.symm.trans h'
  injection e with e
  injection e with e1 e2
  exact ne e2
/-- objects of one type, behind an array of pointers -/
structure Fam (w W : World) (b : Nat) (TA T : TypeId) (k n : Nat) (g : Nat → Nat) (cs : Nat → Array Value) : Prop where
  a : Blk W b TA (parr g k n)
  o : ∀ i, i < k → Blk W (g i) T (cs i)
  inj : ∀ i j, i < k → j < k → g i = g j → i = j
  lo : ∀ i, i < k → w.heap.size ≤ g i
  lb : w.heap.size ≤ b
variable {w W W2 : World} {b k n : Nat} {TA T T2 : TypeId} {g : Nat → Nat} {cs : Nat → Array Value}
theorem Fam.pass (F : Fam w W b TA T k n g cs) (hb : Below W.heap.size W W2) : Fam w W2 b TA T k n g cs :=
  ⟨Blk.below F.a hb F.a.lt, fun i hi => Blk.below (F.o i hi) hb (F.o i hi).lt, F.inj, F.lo, F.lb⟩
theorem Fam.other (F : Fam w W b TA T k n g cs) {x : Nat} {xs : Array Value} (hx : Blk W x T2 xs) (h1 : T2 ≠ T) (h2 : T2 ≠ TA) (hk : Keeps (· = x) W W2) : Fam w W2 b TA T k n g cs :=
  ⟨F.a.keeps hk (Blk.ne_type F.a hx h2.symm), fun i hi => (F.o i hi).keeps hk (Blk.ne_type (F.o i hi) hx h1.symm), F.inj, F.lo, F.lb⟩
theorem Fam.one (F : Fam w W b TA T k n g cs) (hT : TA ≠ T) {i : Nat} (hi : i < k) {c : Array Value} (hk : Keeps (· = g i) W W2) (hc : Blk W2 (g i) T c) : Fam w W2 b TA T k n g (upd cs i c) :=
  ⟨F.a.keeps hk (Blk.ne_type F.a (F.o i hi) hT), fun j hj => by
    by_cases e : j = i
    · subst e; rw [upd_same]; exact hc
    · rw [upd_ne _ _ _ _ e]
      exact (F.o j hj).keeps hk (fun h => e (F.inj j i hj hi h)), F.inj, F.lo, F.lb⟩
/-- a new object, its pointer laid at v (behind the last, or in the place of another) -/
theorem Fam.put {W0 : World} (F : Fam w W0 b TA T k n g cs) (hT : TA ≠ T) (hb : Below W0.heap.size W0 W) {x v : Nat} {c : Array Value} (hx : W0.heap.size ≤ x) (hw : w.heap.size ≤ W0.heap.size) (hc : Blk W x T c) (hv : v ≤ k) (hn : v < n) :
    Fam w (W.setCell ⟨b, v, none⟩ (.pointer (some ⟨x, 0, none⟩))) b TA T (if v = k then k + 1 else k) n (upd g v x) (upd cs v c) := by
  have hF := F.pass hb
  have hlt : ∀ j, j < k → g j < x := fun j hj => Nat.lt_of_lt_of_le (F.o j hj).lt hx
  refine ⟨?_, ?_, ?_, ?_, F.lb⟩
  · have h := hF.a.set_ v (.pointer (some ⟨x, 0, none⟩))
    rw [parr_set g k n v x hv hn] at h
    exact h
  · intro j hj
    by_cases e : j = v
    · subst e
      rw [upd_same, upd_same]
      exact Blk.far hc (Blk.ne_type hc hF.a hT.symm) _
    · rw [upd_ne _ _ _ _ e, upd_ne _ _ _ _ e]
      have hjk : j < k := by revert hj; split <;> omega
      exact Blk.far (hF.o j hjk) (Blk.ne_type (hF.o j hjk) hF.a hT.symm) _
  · intro i j hi hj e
    by_cases ei : i = v
    · subst ei
      by_cases ej : j = i
      · exact ej.symm
      · rw [upd_same, upd_ne _ _ _ _ ej] at e
        have := hlt j (by revert hj; split <;> omega)
        omega
    · by_cases ej : j = v
      · subst ej
        rw [upd_same, upd_ne _ _ _ _ ei] at e
        have := hlt i (by revert hi; split <;> omega)
        omega
      · rw [upd_ne _ _ _ _ ei, upd_ne _ _ _ _ ej] at e
        exact F.inj i j (by revert hi; split <;> omega) (by revert hj; split <;> omega) e
  · intro j hj
    by_cases e : j = v
    · subst e; rw [upd_same]; omega
    · rw [upd_ne _ _ _ _ e]
      exact F.lo j (by revert hj; split <;> omega)
end Go.Proofs.Ytajojpfenlafbaa
