/- Accounts: a map of them, as a function. -/
import Derived.Test.YtkfpopilkagedaaLgA
import Derived.Maps.OwnSet
import Derived.Maps.Views
import Derived.Maps.Ext
import Derived.Maps.RangeWalk
set_option linter.unusedSimpArgs false
set_option linter.unusedVariables false
namespace Go.Proofs.Ytkfpopilkagedaa
open Go.RowKit Mo
open Go.ChangeMaps
/-- how an account reads -/
def accR : Value → Option (DataW Unit × List MemPlace)
  | .agg cs => match cs.toList with
    | [.int .i64 a, .int .i64 b] => some (.agg [.lit (.int .i64 a), .lit (.int .i64 b)], [])
    | _ => none
  | _ => none
def accD (p : Int × Int) : DataW Unit := .agg [.lit (.int .i64 p.1), .lit (.int .i64 p.2)]
def accV (p : Int × Int) : Value := .agg #[.int .i64 p.1, .int .i64 p.2]
theorem accR_mk (p : Int × Int) : accR (accV p) = some (accD p, []) := rfl
theorem accR_inv {v : Value} {p : Int × Int} {ps : List MemPlace} (h : accR v = some (accD p, ps)) : v = accV p := by
  unfold accR at h
  split at h
  · rename_i cs
    split at h
    · rename_i a b e
      simp only [accD, Option.some.injEq, Prod.mk.injEq, DataW.agg.injEq, List.cons.injEq, DataW.lit.injEq, Lit.int.injEq, true_and, and_true] at h
      obtain ⟨⟨h1, h2⟩, _⟩ := h
      subst h1; subst h2
      rw [show cs = #[.int .i64 p.1, .int .i64 p.2] from Array.ext' e]
      rfl
    · cases h
  · cases h
theorem int_law : Maps.Keyed Try.prog 3 := Maps.int_keyed Try.underlying3
theorem acc_zero (w : World) : (zeroValue 61).run Try.prog w = .ok (accV (0, 0)) w := by kernel_rfl
theorem key_int {k : Int} (h : (Lit.int .i64 k).wf = true) : keyOf Try.prog 3 (.int .i64 k) = some (.int .i64 k) := Maps.keyOf_int_mk Try.underlying3 h
/-- block m is a map of accounts that is f -/
def MapF (w : World) (m n : Nat) (f : Int → Option (Int × Int)) : Prop :=
  ∃ D : DataW Unit, w.ownsMap Try.prog 3 accR m n D ∧ ∀ k, Maps.has D (.int .i64 k) = (f k).isSome ∧ D.atKey (.int .i64 k) (accD (0, 0)) = accD ((f k).getD (0, 0))
def fput (f : Int → Option (Int × Int)) (k : Int) (p : Int × Int) : Int → Option (Int × Int) := fun i => if i = k then some p else f i
variable {w w' : World} {m n : Nat} {f : Int → Option (Int × Int)}
theorem MapF.made (w : World) : MapF (w.alloc (.map #[] 0)) w.heap.size 0 (fun _ => none) :=
  ⟨_, World.ownsMap_made w _ _ _, fun k => ⟨rfl, rfl⟩⟩
theorem MapF.lt (h : MapF w m n f) : m < w.heap.size := by obtain ⟨D, h, _⟩ := h; exact h.lt
theorem MapF.alloc (h : MapF w m n f) (o : Obj) : MapF (w.alloc o) m n f := by obtain ⟨D, h, e⟩ := h; exact ⟨D, h.alloc o, e⟩
theorem MapF.drew (h : MapF w m n f) : MapF w.drew m n f := by obtain ⟨D, h, e⟩ := h; exact ⟨D, h.drew, e⟩
theorem MapF.look (h : MapF w m n f) {k : Int} (hk : (Lit.int .i64 k).wf = true) : (Instr.lookup 59 (.map (some m)) (.int .i64 k) true).run Try.prog w = .ok (.tuple #[accV ((f k).getD (0, 0)), .bool (f k).isSome]) w := by
  obtain ⟨D, h, e⟩ := h
  obtain ⟨v, ps, hrun, hv⟩ := h.look_ok int_law Try.underlying59 (acc_zero w) (accR_mk _) (key_int hk)
  rw [(e k).1] at hrun
  rw [(e k).2] at hv
  rw [accR_inv hv] at hrun
  exact hrun
theorem MapF.look1 (h : MapF w m n f) {k : Int} (hk : (Lit.int .i64 k).wf = true) : (Instr.lookup 59 (.map (some m)) (.int .i64 k) false).run Try.prog w = .ok (accV ((f k).getD (0, 0))) w := by
  obtain ⟨D, h, e⟩ := h
  obtain ⟨v, ps, hrun, hv⟩ := h.lookup int_law Try.underlying59 (acc_zero w) (accR_mk _) (key_int hk)
  rw [(e k).2] at hv
  rw [accR_inv hv] at hrun
  exact hrun
theorem MapF.store (h : MapF w m n f) (hn : n < maxLen) {k : Int} (hk : (Lit.int .i64 k).wf = true) (p : Int × Int) : ∃ w', (Instr.mapUpdate 59 (.map (some m)) (.int .i64 k) (accV p)).run Try.prog w = .ok () w' ∧ MapF w' m (n + 1) (fput f k p) ∧ w.grownBy w' (some m) := by
  obtain ⟨D, h, e⟩ := h
  have hm := h.isMap
  obtain ⟨w', hrun, h1, h2⟩ := h.update int_law Try.underlying59 hn (key_int hk) (accR_mk p)
  refine ⟨w', hrun, ⟨_, h1, fun i => ?_⟩, h2⟩
  unfold fput
  by_cases hi : i = k
  · subst hi
    rw [if_pos rfl]
    have hkl : WideAt.IsKeyLit (.int .i64 i) := trivial
    exact ⟨Maps.has_put_same hm hkl _, Maps.atKey_put_same hm hkl _ _⟩
  · rw [if_neg hi]
    have hne : (Lit.int .i64 i) ≠ .int .i64 k := fun h => hi (Lit.int.inj h).2
    rw [Maps.has_put_other hne, Maps.atKey_put_other hne]
    exact e i
end Go.Proofs.Ytkfpopilkagedaa
