/- The accounts' numbers, rising: slices.Sorted(maps.Keys(b.m)). -/
import Derived.Test.YtkfpopilkagedaaLgO
import Derived.Test.YtkfpopilkagedaaIter
import Derived.CallsIn
set_option linter.unusedSimpArgs false
set_option linter.unusedVariables false
namespace Go.Proofs.Ytkfpopilkagedaa
open Go.RowKit Mo
open Go.Maps Go.Shelf
/-- the accounts' numbers, rising -/
def keysOf (f : Int → Option (Int × Int)) : List Int := ((List.range 4096).map (fun i : Nat => (i : Int))).filter (fun k => (f k).isSome)
def Sup (f : Int → Option (Int × Int)) : Prop := ∀ k, (f k).isSome = true → 0 ≤ k ∧ k < 4096
theorem range_int_sorted (n : Nat) : ((List.range n).map (fun i : Nat => (i : Int))).Pairwise (· < ·) := by
  rw [List.pairwise_map]
  exact List.pairwise_lt_range.imp (fun h => by omega)
theorem keysOf_sorted (f : Int → Option (Int × Int)) : (keysOf f).Pairwise (· < ·) := (range_int_sorted 4096).filter _
theorem keysOf_mem {f : Int → Option (Int × Int)} (hs : Sup f) (k : Int) : k ∈ keysOf f ↔ (f k).isSome = true := by
  unfold keysOf
  rw [List.mem_filter, List.mem_map]
  constructor
  · exact fun h => h.2
  · intro h
    obtain ⟨h0, h1⟩ := hs k h
    exact ⟨⟨k.toNat, by rw [List.mem_range]; omega, by omega⟩, h⟩
theorem keysOf_len (f : Int → Option (Int × Int)) : (keysOf f).length ≤ 4096 := by
  unfold keysOf
  exact Nat.le_trans (List.length_filter_le _ _) (by rw [List.length_map, List.length_range]; exact Nat.le_refl _)
theorem sorted_keys {w : World} {m n : Nat} {f : Int → Option (Int × Int)} {D : DataW Unit} (hown : w.ownsMap Try.prog 3 accR m n D) (hD : ∀ k, Maps.has D (.int .i64 k) = (f k).isSome) (hs : Sup f) {ss : List Int} (hp : ss.Perm (intKeys D)) :
    ss.mergeSort (fun x y => decide (x ≤ y)) = keysOf f := by
  obtain ⟨es, rfl, hpw, _⟩ := hown.entries int_law
  obtain ⟨es', hD', hko⟩ := hown.keysOf
  obtain rfl : es = es' := by simpa using hD'
  have h1 : (keysOf f).Perm (intKeys (.map es)) := perm_intKeys hpw (fun p hp => by obtain ⟨v, hv⟩ := hko p hp; obtain ⟨x, _, hx, _⟩ := Maps.keyOf_i64 Try.underlying3 hv; exact ⟨x, hx⟩) ((keysOf_sorted f).imp (fun h => by omega)) (fun x => by rw [keysOf_mem hs, hD])
  rw [show (fun x y : Int => decide (x ≤ y)) = leI from rfl, mergeSort_of_perm_i (hp.trans h1.symm)]
  exact List.mergeSort_of_pairwise ((keysOf_sorted f).imp (fun h => by simp only [leI, decide_eq_true_eq]; omega))
theorem mkeys_any (m : Nat) (W : World) : Calls Try.prog 21 #[.map (some m)] W fun e w' => e = .returned (.func (.func 29) #[] #[.pointer (some ⟨W.heap.size, 0, none⟩)]) ∧ w' = W.alloc (.cells #[.map (some m)] 59) :=
  (callsIn_wide (n := 5)).1 (AnyZI.keys_in Try.keysA Fence.wide 5 trivial rfl (some m) W)
theorem sortsA (m : Nat) : AnyZI.SortsIn Try.prog Try.sortedA_ren Fence.wide m :=
  ⟨fun blk off cap ss W hH hblk hsz => callsIn_wide.2 (AnyM.slices_Sort_int Try.sortA blk off cap ss W hH hblk hsz),
   fun p cap W => callsIn_wide.2 (AnyM.slices_Sort_int_none Try.sortA p cap W)⟩
set_option maxHeartbeats 1000000 in
theorem msorted_any (m n : Nat) (f : Int → Option (Int × Int)) (w : World) (h : MapF w m n f) (hn : n ≤ 1000000) (hs : Sup f) :
    Calls Try.prog 20 #[.func (.func 29) #[] #[.pointer (some ⟨w.heap.size, 0, none⟩)]] (w.alloc (.cells #[.map (some m)] 59)) fun e w' =>
      ∃ A c, e = .returned (.slice A (keysOf f).length c) ∧ Reads w' w'.heap.size 1 A (keysOf f).length ((keysOf f).map (Value.int .i64)) ∧ Below w.heap.size w w' := by
  have hlt := h.lt
  obtain ⟨D, hown, hD⟩ := h
  have hsz := hown.size_le
  have hseq : SeqGives Fence.wide 2 Try.prog 29 #[.pointer (some ⟨w.heap.size, 0, none⟩)] encZ (fun ss => ss.Perm (intKeys D)) (Maps.size D) (w.alloc (.cells #[.map (some m)] 59)) :=
    AnyZI.keys_gives (ρ := Try.keysA_ren) { Try.keysA with } Fence.wide _ trivial rfl (by omega) w.heap.size m n D _ (by simp) (by simp) (by
      obtain ⟨es, clock, hb, Ft, hs, hD⟩ := hown
      exact ⟨es, clock, (Below.heap_alloc _ _ m hlt).trans hb, Ft, hs, hD⟩)
  have cS := AnyZI.sorted_in Try.sortedA Fence.wide 5 trivial trivial trivial trivial rfl (by omega) (sortsA _) (enters_of Try.func28 (by kernel_rfl) rfl) 29 #[.pointer (some ⟨w.heap.size, 0, none⟩)] trivial (enters_of Try.func29 (by kernel_rfl) rfl) _ _ (by unfold maxLen; omega) (by omega) _ hseq
  refine ((callsIn_wide (n := 5)).1 cS).mono ?_
  rintro e w' ⟨v, ss, rfl, hS, hrow, -, hb⟩
  rw [sorted_keys hown (fun k => (hD k).1) hs hS] at hrow
  have hlen : ss.length = (keysOf f).length := by rw [← sorted_keys hown (fun k => (hD k).1) hs hS, List.length_mergeSort]
  rw [hlen] at hrow
  obtain ⟨A, c, rfl, hr, _⟩ := own_shape hrow
  exact ⟨A, c, rfl, hr, ((Below.refl _ w).alloc (Nat.le_refl _) _).trans (hb.mono (by simp))⟩
end Go.Proofs.Ytkfpopilkagedaa
