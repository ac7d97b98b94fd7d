/- Contracts of the document's product: digits, and one. -/
import Derived.Test.YtdemonageoagiaaProdB
set_option linter.unusedSimpArgs false
set_option linter.unusedVariables false
namespace Go.Proofs.Ytdemonageoagiaa
open Go.RowKit Mo
def MoreRet (w : World) (l : List Nat) (e : Ending) (w' : World) : Prop := ∃ A c o, e = .returned (.slice A o.length c) ∧ Dg w' A c o ∧ Mo.bits o ∧ val o = val l + 1 ∧ o.length = l.length + 1 ∧ Below w.heap.size w w'
theorem val_snoc0 (l : List Nat) : val (l ++ [0]) = val l := by rw [val_append]; simp [val]
theorem bits_snoc0 {l : List Nat} (h : Mo.bits l) : Mo.bits (l ++ [0]) := by
  intro x hx
  rcases List.mem_append.1 hx with h1 | h1
  · exact h x h1
  · simp at h1; omega
set_option maxRecDepth 100000 in
set_option maxHeartbeats 2000000 in
theorem more_any (w : World) (A : Option Addr) (c : Nat) (l : List Nat) (hl : Dg w A c l) (bl : Mo.bits l) (ln : l.length ≤ 5000) :
    Calls Try.prog 33 #[.slice A l.length c] w (MoreRet w l) := by
  have HL := Lib.hid hl; have BL := Lib.hid bl
  clear hl bl
  obtain ⟨i0, hi, hz0, hz1, hz2⟩ := info_parts info_u8
  go_enter Try.func33, Try.ntmps33
  go_wp2_with (first
    | (at_builtin; refine wpList_append_any _ rfl (.tmp 5) (.tmp 6) 87 rfl w.heap.size 5 i0 (.int .u8 0) 1 1 Try.underlying87 hi hz0 hz1 hz2 rfl (by decide) (.slice (some ⟨w.heap.size, 0, none⟩) 0 0) 0 [] rfl (own_new #[] 0 rfl (by simp [maxLen]) rfl) w.heap.size A l.length c (l.map u8v) rfl (HL.out.rd.alloc (Nat.le_refl _) _) (one_u8 _) (by unfold maxLen; omega) (by omega) (by simp) ?_; intro v1 w1 ho1 hg1 _; have HO := Lib.hid ho1; have HG := Lib.hid hg1; clear ho1 hg1)
    | (at_builtin; refine wpList_append_any _ rfl (.tmp 7) (.tmp 8) 87 rfl w.heap.size 5 i0 (.int .u8 0) 1 1 Try.underlying87 hi hz0 hz1 hz2 rfl (by decide) v1 (0 + l.length) _ rfl (HO.out.alloc _) (w1.heap.size + 1) (some ⟨w1.heap.size, 0, none⟩) 1 1 [.int .u8 0] rfl (reads_one rfl) (by simp [Value.oneCell']) (by unfold maxLen; omega) (by omega) (by have := HG.out.size; simp at this ⊢; omega) ?_; intro v2 w2 ho2 hg2 _; have HO2 := Lib.hid ho2; have HG2 := Lib.hid hg2; clear ho2 hg2))
  have HB : Hid (Below w.heap.size w w2) := Lib.hid (by
    have k1 := Below.grown ((Below.refl w.heap.size w).alloc (Nat.le_refl _) _) HG.out (by simp) (fun k e => by simp [Value.ownBlock] at e <;> omega)
    exact Below.grown (k1.alloc k1.size _) HG2.out (by have := k1.size; simp; omega) (fun k e => (HO.out.lt k e).1))
  obtain ⟨g, cp, rfl, hgb, hcp, hcm, HO3⟩ : ∃ g cp, v2 = .slice (some ⟨g, 0, none⟩) (l.length + 1) cp ∧ w.heap.size ≤ g ∧ l.length + 1 ≤ cp ∧ cp ≤ maxLen ∧ Hid (w2.ownsRow w.heap.size 5 1 (.slice (some ⟨g, 0, none⟩) (l.length + 1) cp) (l.length + 1) ((l ++ [0]).map u8v)) := by
    have h := HO2.out
    have h' := h
    rcases h.2 with ⟨_, hl⟩ | ⟨g, cap, cur, rfl, hb, hh, h1, h2, _⟩
    · omega
    · exact ⟨g, cap, by rw [Nat.zero_add], hb, by omega, h2, Lib.hid (by simpa [u8v] using h')⟩
  clear HO HG HO2 HG2
  go_loopw [4] (fun i wr => ∃ (k : Nat) (o : List Nat), k ≤ l.length ∧ i = .int .i64 k ∧ o.length = l.length + 1 ∧ Hid (wr.ownsRow w.heap.size 5 1 (.slice (some ⟨g, 0, none⟩) (l.length + 1) cp) (l.length + 1) (o.map u8v)) ∧ Hid (Mo.bits o ∧ val o + 2 ^ k = val l + 1 ∧ o[l.length]? = some 0) ∧ Hid (Below w.heap.size w wr)) (fun i _ => l.length - (intOf i).toNat)
  case atStart => exact ⟨0, l ++ [0], Nat.zero_le _, rfl, by simp, HO3, Lib.hid ⟨bits_snoc0 BL.out, by rw [val_snoc0], by simp⟩, HB⟩
  case round =>
    obtain ⟨k, o, hk, rfl, ho, HO, HV, HW⟩ := hrel
    have hko : k < o.length := by omega
    have hq : wr.cell? ⟨g, k, none⟩ = some (.int .u8 (o[k] : Nat)) := by
      rw [HO.out.cellAt k (by omega)]; simp [hko, u8v]
    have hf := HO.out.frozenAt k
    have hglt : g < wr.heap.size := (HO.out.lt g rfl).2
    have hxb := bits_get HV.out.1 hko
    obtain ⟨x, hx⟩ : ∃ x, o[k] = x := ⟨_, rfl⟩
    have HX := Lib.hid hx
    rw [hx] at hq hxb
    clear hx
    have hkn : (k : Int) < l.length + 1 := by omega
    rcases (show x = 0 ∨ x = 1 by omega) with rfl | rfl
    · have hv : val (o.set k 1) = val l + 1 := by
        have h1 := val_set o k 1 hko
        rw [HX.out] at h1
        have h2 := HV.out.2.1
        omega
      have HV2 := Lib.hid hv
      clear hv
      go_wp2
      go_ret
      have hst := (HO.out.stored k (.int .u8 1)).1
      obtain ⟨A', c', e, hdg⟩ := own_dg (l := o.set k 1) (n := l.length + 1) (by rw [List.map_set]; exact hst) (by simp [ho])
      refine ⟨A', c', o.set k 1, ?_, hdg, bits_set HV.out.1 _ _ (by omega), HV2.out, by simp [ho], HW.out.setCell hgb _⟩
      rw [← e]; rfl
    · have hkl : k < l.length := by
        rcases (show k = l.length ∨ k < l.length by omega) with rfl | h
        · have h1 := HV.out.2.2
          rw [List.getElem?_eq_getElem hko, HX.out] at h1
          simp at h1
        · exact h
      have hv : val (o.set k 0) + 2 ^ (k + 1) = val l + 1 := by
        have h1 := val_set o k 0 hko
        rw [HX.out] at h1
        have h2 := HV.out.2.1
        rw [Nat.pow_succ]
        omega
      have HV2 := Lib.hid hv
      clear hv
      go_wp2_with fail
      go_roundw
      case rel => exact ⟨k + 1, o.set k 0, by omega, by go_num, by simp [ho], Lib.hid (by rw [List.map_set]; exact (HO.out.stored k (.int .u8 0)).1), Lib.hid ⟨bits_set HV.out.1 _ _ (by omega), HV2.out, by rw [List.getElem?_set_ne (by omega)]; exact HV.out.2.2⟩, Lib.hid (HW.out.setCell hgb _)⟩
      case measure => simp [intOf]; omega
end Go.Proofs.Ytdemonageoagiaa
