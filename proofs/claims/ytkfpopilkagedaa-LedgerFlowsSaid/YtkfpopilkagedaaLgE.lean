/- Accounts: an entry, and what is stored there. -/
import Derived.Test.YtkfpopilkagedaaLgM
import Derived.WideKeyEntry
set_option linter.unusedSimpArgs false
set_option linter.unusedVariables false
namespace Go.Proofs.Ytkfpopilkagedaa
open Go.RowKit Mo
open Go.ChangeMaps Go.MapKept Go.WideElems Go.WideShapes Go.ChangeShapes
theorem setBlock_self {w : World} {b : Nat} {o : Obj} (h : w.heap[b]? = some o) : setBlock w b o = w := by
  have e : w.heap.setIfInBounds b o = w.heap := by
    apply Array.ext (by simp)
    intro i h1 h2
    rw [Array.getElem_setIfInBounds (by simpa using h2)]
    split
    · rename_i e; subst e
      obtain ⟨_, h3⟩ := Array.getElem?_eq_some_iff.1 h
      exact h3.symm
    · rfl
  unfold setBlock
  rw [e]
theorem MapF.entry {w : World} {m n : Nat} {f : Int → Option (Int × Int)} (h : MapF w m n f) (hn : n < maxLen) {k : Int} (hk : (Lit.int .i64 k).wf = true) (hf : (f k).isSome = true) :
    ∃ (v : Value) (st : Nat), (Instr.mapEntry 59 (.map (some m)) (.int .i64 k)).run Try.prog w = .ok (.tuple #[v, .int .i64 st]) w ∧
      ∀ p, ∃ w', (Instr.entryStore 59 (.map (some m)) (.int .i64 st) (accV p)).run Try.prog w = .ok () w' ∧ MapF w' m (n + 1) (fput f k p) ∧ w.grownBy w' (some m) := by
  have h0 := h
  have st := fun p => h0.store hn hk p
  obtain ⟨D, h, e⟩ := h
  have hD := e k
  obtain ⟨es, clock, hb, F, hs, rfl⟩ := h
  have K := int_law
  have hkey := key_int hk
  have ht := Try.underlying59
  obtain ⟨s1, s2, _⟩ := F.stamped
  rcases K.find w hkey es.toList F.keys with ⟨h1, h2⟩ | ⟨j, e0, h1, h2, h3⟩
  · exfalso
    have l1 := h0.look hk
    rw [hf] at l1
    have l2 : (Instr.lookup 59 (.map (some m)) (.int .i64 k) true).run Try.prog w = .ok (.tuple #[accV (0, 0), .bool false]) w := by
      simp [Instr.lookup, run_underlying ht, MapKept.run_getObj_map hb, K.check w _ hkey, h1, acc_zero, Result.andThen]
      try rfl
    rw [l1] at l2
    simp at l2
  · have hj : es[j]? = some e0 := by simpa using h2
    have hsame : es.modify j (fun e => { e with key := .int .i64 k }) = es := by
      apply Array.ext'
      rw [Array.toList_modify, modify_eq_set _ _ _ _ h2]
      have : ({ e0 with key := .int .i64 k } : MapEntry) = e0 := by rw [← h3]
      rw [this]
      exact set_self _ _ _ h2
    refine ⟨e0.val, e0.born, ?_, fun p => ?_⟩
    · simp [Instr.mapEntry, run_underlying ht, MapKept.run_getObj_map hb, K.check w false hkey, h1, hj, h3, K.stays w hkey, hsame, MapKept.run_setObj_map _ hb, Result.andThen, setBlock_self hb, goInt]
      exact setBlock_self hb
    · obtain ⟨w', hrun, hM, hg⟩ := st p
      refine ⟨w', ?_, hM, hg⟩
      have hidx : es.findIdx? (fun e => ((e.born : Nat) : Int) == ((e0.born : Nat) : Int)) = some j := by
        rw [findIdx_arr]
        exact findIdx_born s2 h2
      have hmod : es.modify j (fun e => { e with val := accV p }) = es.modify j (fun e' => { e' with key := .int .i64 k, val := accV p }) := by
        apply Array.ext'
        rw [Array.toList_modify, Array.toList_modify, modify_eq_set _ _ _ _ h2, modify_eq_set _ _ _ _ h2, ← h3]
      rw [← hrun]
      simp [Instr.entryStore, Instr.mapUpdate, run_underlying ht, K.check w false hkey, h1, hj, h3, K.stays w hkey, MapKept.run_getObj_map hb, asInt, asIntOf, goInt, hidx, hmod, MapKept.run_setObj_map _ hb, Result.andThen, setBlock]
end Go.Proofs.Ytkfpopilkagedaa
