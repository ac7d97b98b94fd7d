/- Leases in plays: what its pieces share. -/
import Derived.Test.YtajojpfenlafbaaLpC
import Derived.Test.YtajojpfenlafbaaLsHf
import Derived.Test.YtajojpfenlafbaaOpen23
import Derived.Test.YtajojpfenlafbaaStampI
import Derived.LoopTactic
import Derived.IntWalk
import Derived.Deep.RegionHeld3
import Derived.Deep.RegionWith
import Derived.Deep.DeepCutAuto
import Derived.BigRegion
import Derived.Laws.BitsAllLaws
import Derived.Laws.Bits128
set_option linter.unusedSimpArgs false
set_option linter.unusedVariables false
namespace Go.Proofs.Ytajojpfenlafbaa
open Go.RowKit Mo
attribute [local go_sem ↓] Go.wp_at_zero Go.wp_at_succ
theorem i64_and40 (n : Int) : bits .and .i64 n 1099511627775 = n % 1099511627776 := by
  have h : (BitVec.ofInt 64 1099511627775).toNat = 2 ^ 40 - 1 := by decide
  have key : (BitVec.ofInt 64 n &&& BitVec.ofInt 64 1099511627775).toNat = (n % ((2 ^ 64 : Nat) : Int)).toNat % 2 ^ 40 := by
    rw [BitVec.toNat_and, BitVec.toNat_ofInt, h, Nat.and_two_pow_sub_one_eq_mod]
  show IntKind.i64.wrap ((BitVec.ofInt 64 n &&& BitVec.ofInt 64 1099511627775).toNat : Nat) = n % 1099511627776
  rw [key, IntKind.wrap_i64]
  omega
theorem and40 (n : Int) : ∃ m, bits .and .i64 n 1099511627775 = m ∧ 0 ≤ m ∧ m ≤ 1099511627775 := ⟨_, i64_and40 n, by omega, by omega⟩
theorem rate128 : rate6 4575657221408423936 = true ∧ Mo.part 4575657221408423936 = 4503599627370496 ∧ expf 4575657221408423936 = 1016 := by decide
theorem ckLo_nonneg (c : Ck) (h : Int) : 0 ≤ ckLo c h := by
  unfold ckLo
  split
  · exact Int.le_trans (Int.le_max_right _ _) (Int.le_max_left _ _)
  · exact Int.le_refl _
theorem hold_turn {c : Ck} {h t : Int} {k : Nat} (H : HInv 4575657221408423936 c h t k) (hk : k < 60) (d s : Int) (d0 : 0 ≤ d) (d1 : d ≤ 65535) : 0 ≤ d / 256 ∧ d / 256 ≤ 255 ∧ -(d / 256) ≤ bro s (d / 256) ∧ bro s (d / 256) ≤ d / 256 ∧ HInv 4575657221408423936 c (h + (d - bro s (d / 256))) (t + d) (k + 1) := by
  have hq : 0 ≤ d / 256 := by omega
  have hb := bro_bnd (n := s) hq
  refine ⟨hq, by omega, hb.1, hb.2, hold_go H (d - bro s (d / 256)) d (d / 256) (by omega) (by omega) d0 (by omega) (by omega) (by omega) ?_⟩
  rw [rate128.2.1, rate128.2.2]
  refine half_ok (N := ((4503599627370496 : Nat) : Int)) (D := ((2 ^ (1075 - 1016) : Nat) : Int)) (d := d) (s := d / 256) (by decide) (by decide) (by decide) hq ?_ (by omega)
  have e : ((2 ^ (1075 - 1016) : Nat) : Int) = 576460752303423488 := by decide
  rw [e]
  omega
theorem new_set (r : Nat) (y e : Int) (h0 : 0 ≤ y) (h1 : y ≤ 1125899906842624) (h2 : 0 ≤ e) (h3 : e ≤ 1125899906842624) : ckSetE (ckNew r) 0 y e = 0 ∧ ckSet (ckNew r) 0 y e = ⟨0, y, e, true, r, 0, 0⟩ := by
  have hs : ckSetE (ckNew r) 0 y e = 0 := by
    unfold ckSetE
    rw [if_pos (by simp only [Bool.and_eq_true, inT_iff]; omega), if_neg (by simp [ckNew])]
  exact ⟨hs, by unfold ckSet; rw [if_pos hs]; rfl⟩
def ck0 (T : Int) (i : Nat) : Ck := ⟨0, T + i, 9, true, 4575657221408423936, 0, 0⟩
theorem fam0 {w W : World} {b n : Nat} {TA T : TypeId} {cs : Nat → Array Value} (h : Blk W b TA (parr (fun _ => 0) 0 n)) (hb : w.heap.size ≤ b) : Fam w W b TA T 0 n (fun _ => 0) cs :=
  ⟨h, fun i hi => absurd hi (Nat.not_lt_zero _), fun i j hi => absurd hi (Nat.not_lt_zero _), fun i hi => absurd hi (Nat.not_lt_zero _), hb⟩
set_option maxHeartbeats 400000 in
theorem brought23_any (n m : Int) (w : World) (h0 : 0 ≤ m) (h1 : m ≤ 9223372036854775807) : Calls Try.prog 33 #[.int .i64 n, .int .i64 m] w fun e w' => e = .returned (.int .i64 (bro n m)) ∧ w = w' := by
  unfold bro
  rcases (show m < n ∨ (n ≤ m ∧ n < -m) ∨ (n ≤ m ∧ -m ≤ n) by omega) with h | ⟨h, h'⟩ | ⟨h, h'⟩
  · rw [if_pos h]
    go_enter Try.func33, Try.ntmps33
    go_wp2
    go_ret
    exact ⟨rfl, rfl⟩
  · rw [if_neg (by omega), if_pos h']
    go_enter Try.func33, Try.ntmps33
    go_wp2
    go_ret
    exact ⟨rfl, rfl⟩
  · rw [if_neg (by omega), if_neg (by omega)]
    have hd : decide (n < -m) = false := by simp; omega
    go_enter Try.func33, Try.ntmps33
    go_wp2
    go_ret
    exact ⟨rfl, rfl⟩
def regOf (n : Nat) : Code → Option Code
  | .region i o d => if i = n then some (.region i o d) else none
  | .seq a b => match regOf n a with
    | some c => some c
    | none => regOf n b
  | .block _ c => regOf n c
  | .scope c => regOf n c
  | .loop c => regOf n c
  | .cond _ a b => match regOf n a with
    | some c => some c
    | none => regOf n b
  | _ => none
/-- only the way on is left open -/
def Only (K : Act → World → Prop) : Exit → Act → World → Prop
  | .normal, a, w => K a w
  | _, _, _ => False
theorem wp_only {P : Program} {c : Code} {K : Act → World → Prop} {Q : Exit → Act → World → Prop} {a : Act} {w : World} (h : c.wp P (Only K) a w) : c.wp P (Exit.then K Q) a w :=
  Code.wp_mono (fun e a w (h : Only K e a w) => by cases e <;> first | exact h | exact False.elim h) h
/-- the innermost loop that holds a region -/
def loopOf (n : Nat) : Code → Option Code
  | .loop c => match loopOf n c with
    | some x => some x
    | none => if (regOf n c).isSome then some (.loop c) else none
  | .seq a b => match loopOf n a with
    | some c => some c
    | none => loopOf n b
  | .block _ c => loopOf n c
  | .scope c => loopOf n c
  | .cond _ a b => match loopOf n a with
    | some c => some c
    | none => loopOf n b
  | _ => none
theorem xcells34 {W : World} {g : Nat} {T : TypeId} {dd ln s0 s1 s2 s3 s4 s5 s6 s7 ld vo : Int} {hd ag gi : Bool} (h : Blk W g T #[.int .u16 dd, .int .u16 ln, .int .i8 s0, .int .i8 s1, .int .i8 s2, .int .i8 s3, .int .i8 s4, .int .i8 s5, .int .i8 s6, .int .i8 s7, .int .u8 ld, .int .u8 vo, .bool hd, .bool ag, .bool gi]) : W.cell? ⟨g, 10, none⟩ = some (.int .u8 ld) ∧ W.cell? ⟨g, 11, none⟩ = some (.int .u8 vo) := by
  rw [h.cell, h.cell]; exact ⟨rfl, rfl⟩
theorem xcell1 {W : World} {g : Nat} {T : TypeId} {dd ln s0 s1 s2 s3 s4 s5 s6 s7 ld vo : Int} {hd ag gi : Bool} (h : Blk W g T #[.int .u16 dd, .int .u16 ln, .int .i8 s0, .int .i8 s1, .int .i8 s2, .int .i8 s3, .int .i8 s4, .int .i8 s5, .int .i8 s6, .int .i8 s7, .int .u8 ld, .int .u8 vo, .bool hd, .bool ag, .bool gi]) : W.cell? ⟨g, 1, none⟩ = some (.int .u16 ln) := by
  rw [h.cell]; rfl
theorem xcells567 {W : World} {g : Nat} {T : TypeId} {dd ln s0 s1 s2 s3 s4 s5 s6 s7 ld vo : Int} {hd ag gi : Bool} (h : Blk W g T #[.int .u16 dd, .int .u16 ln, .int .i8 s0, .int .i8 s1, .int .i8 s2, .int .i8 s3, .int .i8 s4, .int .i8 s5, .int .i8 s6, .int .i8 s7, .int .u8 ld, .int .u8 vo, .bool hd, .bool ag, .bool gi]) : W.cell? ⟨g, 12, none⟩ = some (.bool hd) ∧ W.cell? ⟨g, 13, none⟩ = some (.bool ag) ∧ W.cell? ⟨g, 14, none⟩ = some (.bool gi) := by
  rw [h.cell, h.cell, h.cell]; exact ⟨rfl, rfl, rfl⟩
end Go.Proofs.Ytajojpfenlafbaa
