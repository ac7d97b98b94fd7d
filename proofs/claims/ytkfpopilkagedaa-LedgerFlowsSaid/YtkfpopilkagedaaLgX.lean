/- Lists of entries: the same? what do they come to? -/
import Derived.Test.YtkfpopilkagedaaLgL
import Derived.Test.YtkfpopilkagedaaOpenA
import Derived.Deep.QuietTactic
import Derived.BigQuiet
set_option linter.unusedSimpArgs false
set_option linter.unusedVariables false
namespace Go.Proofs.Ytkfpopilkagedaa
open Go.RowKit Mo
theorem below_dn {B : Nat} {w a : World} (h : Below B w a) (n : Nat) : Below B w (a.drewN n) := ⟨h.os, h.tape, h.output, h.size, h.block⟩
def sameL (a b : List (Int × Int)) : Bool := decide (a = b)
theorem eC_at (xs : List (Int × Int)) (k : Nat) (hk : k < xs.length) : (xs.flatMap eC)[k * 2]? = some (.int .i64 xs[k].1) ∧ (xs.flatMap eC)[k * 2 + 1]? = some (.int .i64 xs[k].2) := by
  have h := fun j (hj : j < 2) => flatMap_at xs eC 2 (fun _ => rfl) k j hk hj
  have h0 := h 0 (by omega); have h1 := h 1 (by omega)
  exact ⟨h0, h1⟩
theorem ents_at {w : World} {B n : Nat} {ad : Addr} {xs : List (Int × Int)} (h : ∀ j u, (xs.flatMap eC)[j]? = some u → w.cell? (ad.add j) = some u) (k : Nat) (hk : k < xs.length) : w.cell? (ad.add (k * 2)) = some (.int .i64 xs[k].1) ∧ w.cell? (ad.add (k * 2 + 1)) = some (.int .i64 xs[k].2) :=
  ⟨h _ _ (eC_at xs k hk).1, h _ _ (eC_at xs k hk).2⟩
set_option maxRecDepth 100000 in
set_option maxHeartbeats 4000000 in
theorem same_any (A B : Option Addr) (c d : Nat) (xs ys : List (Int × Int)) (w : World) (ha : Reads w w.heap.size 2 A xs.length (xs.flatMap eC)) (hb : Reads w w.heap.size 2 B ys.length (ys.flatMap eC)) (hx : xs.length ≤ 100000) (hy : ys.length ≤ 100000) :
    Calls Try.prog 15 #[.slice A xs.length c, .slice B ys.length d] w fun e w' => e = .returned (.bool (sameL xs ys)) ∧ Below w.heap.size w w' := by
  have HA := Lib.hid ha; have HB := Lib.hid hb
  clear ha hb
  by_cases hl : xs.length = ys.length
  · have b0 : ((xs.length : Int) == (ys.length : Int)) = true := by simp; omega
    have b1 : (xs.length == ys.length) = true := by simpa using hl
    have HL := Lib.hid hl
    clear hl
    go_enter Try.func15, Try.ntmps15
    go_wp2_with fail
    go_loopw [5] (fun s wr => ∃ k : Nat, k ≤ xs.length ∧ s = .int .i64 k ∧ Hid (xs.take k = ys.take k) ∧ Hid (Below w.heap.size w wr)) (fun s _ => xs.length - (intOf s).toNat)
    case atStart => exact ⟨0, Nat.zero_le _, rfl, Lib.hid (by simp), Lib.hid (Below.refl _ _)⟩
    case round =>
      obtain ⟨k, hk, rfl, HT, HW⟩ := hrel
      by_cases hlt : k < xs.length
      · have hly : k < ys.length := by rw [← HL.out]; exact hlt
        have hd : decide ((k : Int) < (xs.length : Int)) = true := by simp; omega
        obtain ⟨ad, hA, hadb, hcell⟩ := (HA.out.below HW.out).2 (by omega)
        obtain ⟨bd, hB, hbdb, hcell2⟩ := (HB.out.below HW.out).2 (by omega)
        subst hA; subst hB
        obtain ⟨q0, q1⟩ := ents_at (B := 0) (n := 0) hcell k hlt
        obtain ⟨r0, r1⟩ := ents_at (B := 0) (n := 0) hcell2 k hly
        replace q1 := cell_in _ 1 (by omega) q1; replace r1 := cell_in _ 1 (by omega) r1
        have HX := Lib.hid (List.take_succ_eq_append_getElem hlt); have HY := Lib.hid (List.take_succ_eq_append_getElem hly)
        have hne : (xs[k] ≠ ys[k]) → sameL xs ys = false := fun h => by
          unfold sameL
          rw [decide_eq_false_iff_not]
          rintro rfl
          exact h rfl
        have NE := Lib.hid hne
        clear hcell hcell2 hne
        generalize xs[k] = x at *
        generalize ys[k] = y at *
        obtain ⟨x1, x2⟩ := x
        obtain ⟨y1, y2⟩ := y
        simp only at q0 q1 r0 r1
        rcases (show x1 ≠ y1 ∨ (x1 = y1 ∧ x2 ≠ y2) ∨ (x1 = y1 ∧ x2 = y2) by omega) with h | ⟨h, h2⟩ | ⟨h, h2⟩
        · have e1 : (x1 == y1) = false := by simpa using h
          have n1 : (x1 != y1) = true := by simpa using h
          have e := NE.out (fun e => h (congrArg Prod.fst e))
          have E := Lib.hid e
          clear h e
          go_wp2_with fail
          go_quiet (fail)
          go_wp2_with fail
          go_ret
          exact ⟨by rw [E.out]; rfl, below_dn HW.out _⟩
        · subst h
          have e2 : (x2 == y2) = false := by simpa using h2
          have n2 : (x2 != y2) = true := by simpa using h2
          have n1 : (x1 != x1) = false := by simp
          have e := NE.out (fun e => h2 (congrArg Prod.snd e))
          have E := Lib.hid e
          clear h2 e
          go_wp2_with fail
          go_quiet (fail)
          go_wp2_with fail
          go_ret
          exact ⟨by rw [E.out]; rfl, below_dn HW.out _⟩
        · subst h; subst h2
          have n1 : (x1 != x1) = false := by simp
          have n2 : (x2 != x2) = false := by simp
          go_wp2_with fail
          go_quiet (fail)
          go_wp2_with fail
          go_roundw
          case rel => exact ⟨k + 1, by omega, by go_num, Lib.hid (by rw [HX.out, HY.out, HT.out]), Lib.hid (below_dn HW.out _)⟩
          case measure => simp [intOf]; omega
      · have hd : decide ((k : Int) < (xs.length : Int)) = false := by simp; omega
        have e : sameL xs ys = true := by
          have hk9 : k = xs.length := by omega
          have h := HT.out
          rw [hk9, List.take_length] at h
          rw [HL.out, List.take_length] at h
          unfold sameL
          exact decide_eq_true h
        have E := Lib.hid e
        clear e
        go_wp2_with fail
        go_ret
        exact ⟨by rw [E.out]; rfl, HW.out⟩
  · have b0 : ((xs.length : Int) == (ys.length : Int)) = false := by simp; omega
    have b1 : (xs.length == ys.length) = false := by simpa using hl
    have e : sameL xs ys = false := by
      unfold sameL
      rw [decide_eq_false_iff_not]
      rintro rfl
      exact hl rfl
    have E := Lib.hid e
    clear e hl
    go_enter Try.func15, Try.ntmps15
    go_wp2_with fail
    go_ret
    exact ⟨by rw [E.out]; rfl, Below.refl _ _⟩
end Go.Proofs.Ytkfpopilkagedaa
