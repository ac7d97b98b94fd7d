/- Contracts of the reference for stamps. -/
import Derived.Test.YtkjlhhdenebbiaaStampA
import Derived.Deep.RegionHeld3
import Derived.Deep.DeepFit
set_option linter.unusedSimpArgs false
set_option linter.unusedVariables false
namespace Go.Proofs.Ytkjlhhdenebbiaa
open Go.RowKit
theorem info_i64 : (Try.prog.info? 2).map (fun i => (i.zero, i.size, i.bytes)) = some (some (.int .i64 0), 1, 8) := by kernel_rfl
theorem one_ints (xs : List Int) : ∀ u ∈ xs.map (Value.int .i64), u.oneCell' = true := by
  intro u hu
  obtain ⟨x, _, rfl⟩ := List.mem_map.1 hu
  rfl
set_option maxHeartbeats 1000000 in
theorem refKeep_ok {m : Nat} {mm : List Int} (A : Option Addr) (c : Nat) (t : Int) (w : World) (hm : mm.length = m) (hr : Reads w w.heap.size 1 A m (mm.map (Value.int .i64))) (hn : m ≤ 100000) (h1 : 1 ≤ t) (h2 : t ≤ 1125899906842624) :
    Calls Try.prog 11 #[.slice A m c, .int .i64 t] w fun e w' => ∃ A' c', e = .returned (.tuple #[.slice A' (m + 1) c', .int .i64 0]) ∧
      Reads w' w'.heap.size 1 A' (m + 1) ((mm ++ [t]).map (Value.int .i64)) ∧ Below w.heap.size w w' ∧ ∀ a, A' = some a → w.heap.size ≤ a.block := by
  obtain ⟨i0, hi, hz0, hz1, hz2⟩ := info_parts info_i64
  have HM := Lib.hid hm; have HR := Lib.hid hr; clear hm hr
  go_enter Try.func11, Try.ntmps11
  go_wp2_with (first | (go_at_call 20; go_in) | (go_at_call 23; go_in) | (at_builtin; refine wpList_append_any _ rfl (.tmp 10) (.tmp 11) 26 rfl w.heap.size 2 i0 (.int .i64 0) 1 8 Try.underlying26 hi hz0 hz1 hz2 rfl (by decide) (.slice (some ⟨w.heap.size, 0, none⟩) 0 0) 0 [] rfl (own_new #[] 0 rfl (by simp [maxLen]) rfl) w.heap.size A m c (mm.map (Value.int .i64)) rfl (HR.out.alloc (Nat.le_refl _) _) (one_ints _) (by unfold maxLen; omega) (by omega) (by simp) ?_; intro v1 w1 ho1 hg1 _; have HO := Lib.hid ho1; have HG := Lib.hid hg1; clear ho1 hg1) | (at_builtin; refine wpList_append_any _ rfl (.tmp 12) (.tmp 14) 26 rfl w.heap.size 2 i0 (.int .i64 0) 1 8 Try.underlying26 hi hz0 hz1 hz2 rfl (by decide) v1 (0 + m) _ rfl (HO.out.alloc _) (w1.heap.size + 1) (some ⟨w1.heap.size, 0, none⟩) 1 1 [.int .i64 t] rfl (reads_one rfl) (by simp [Value.oneCell']) (by unfold maxLen; omega) (by omega) (by have := HG.out.size; simp at this ⊢; omega) ?_; intro v2 w2 ho2 hg2 _; have HO2 := Lib.hid ho2; have HG2 := Lib.hid hg2; clear ho2 hg2))
  go_ret2
  obtain ⟨A', c', rfl, hR, hA⟩ := own_shape HO2.out
  refine ⟨A', c', by rw [Nat.zero_add]; rfl, ?_, ?_, hA⟩
  · have := hR
    rw [Nat.zero_add] at this
    simpa using this
  · have k1 := Below.grown ((Below.refl w.heap.size w).alloc (Nat.le_refl _) _) HG.out (by simp) (fun k e => by simp [Value.ownBlock] at e; omega)
    exact Below.grown (k1.alloc k1.size _) HG2.out (by have := k1.size; simp; omega) (fun k e => (HO.out.lt k e).1)
end Go.Proofs.Ytkjlhhdenebbiaa
