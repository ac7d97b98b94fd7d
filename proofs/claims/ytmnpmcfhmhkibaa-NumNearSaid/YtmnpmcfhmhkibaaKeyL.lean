/- Contracts of the num package's functions: Least. -/
import Derived.Test.YtmnpmcfhmhkibaaKeyF
import Derived.Test.YtmnpmcfhmhkibaaStampI
import Derived.LoopTactic
set_option linter.unusedSimpArgs false
set_option linter.unusedVariables false
namespace Go.Proofs.Ytmnpmcfhmhkibaa
open Go.RowKit Mo
def leastF : Nat → List Nat → Nat | m, [] => m | m, x :: l => leastF (if cmpN x m < 0 then x else m) l
theorem leastF_take (m : Nat) (l : List Nat) (k : Nat) (h : k < l.length) : leastF m (l.take (k + 1)) = (if cmpN l[k] (leastF m (l.take k)) < 0 then l[k] else leastF m (l.take k)) := by
  induction l generalizing m k with
  | nil => simp at h
  | cons x l ih =>
    cases k with
    | zero => simp [leastF]
    | succ k => simpa [leastF] using ih (if cmpN x m < 0 then x else m) k (by simpa using h)
theorem leastF_lt (l : List Nat) (m : Nat) (hm : m < 18446744073709551616) (hl : ∀ x ∈ l, x < 18446744073709551616) : leastF m l < 18446744073709551616 := by
  induction l generalizing m with
  | nil => exact hm
  | cons x l ih =>
    refine ih _ ?_ (fun y hy => hl y (List.mem_cons_of_mem _ hy))
    split
    · exact hl x List.mem_cons_self
    · exact hm
def leastV : List Nat → Nat | [] => 0 | x :: l => leastF x l
def leastOk : List Nat → Bool | [] => false | _ :: _ => true
set_option maxHeartbeats 1000000 in
theorem least_any (w : World) (A : Option Addr) (c : Nat) (xs : List Nat) (hr : Reads w w.heap.size 1 A xs.length (xs.map (Value.float .f64))) (hc : xs.length ≤ c) (hm : c ≤ 9223372036854775807) (hx : ∀ u ∈ xs, u < 18446744073709551616) :
    Calls Try.prog 25 #[.slice A xs.length c] w fun e w' => e = .returned (.tuple #[.float .f64 (leastV xs), .bool (leastOk xs)]) ∧ w = w' := by
  cases xs with
  | nil =>
    go_enter Try.func25, Try.ntmps25
    go_wp2
    go_ret2
    exact ⟨rfl, rfl⟩
  | cons x0 l =>
    have hx0 := hx x0 List.mem_cons_self
    have hxl : ∀ u ∈ l, u < 18446744073709551616 := fun u hu => hx u (List.mem_cons_of_mem _ hu)
    obtain ⟨ad, hA, hadb, hcell⟩ := hr.2 (by simp)
    subst hA
    have q0 := hcell 0 (.float .f64 x0) (by simp)
    have ead : ad.add 0 = ad := by cases ad; simp [Addr.add]
    rw [ead] at q0
    have HC := Lib.hid (show ∀ j, ∀ h : j < l.length, w.cell? ⟨ad.block, ad.off + 1 + j, none⟩ = some (.float .f64 l[j]) from fun j h => by
      have := hcell (j + 1) (.float .f64 l[j]) (by simp [h])
      unfold Addr.add at this
      rw [if_neg (by omega)] at this
      rw [Nat.add_assoc, Nat.add_comm 1 j]; exact this)
    have HXL := Lib.hid hxl
    have hn : ((l.length + 1 : Nat) : Int) ≤ c := by simp at hc; omega
    simp only [List.length_cons] at *
    clear hcell hr hx hxl ead
    have hn0 : ((l.length : Int) + 1 == 0) = false := beq_eq_false_iff_ne.2 (by omega)
    have hcc : (c = 1 ∧ l.length = 0) ∨ 1 < c := by omega
    have HV : Hid (leastV (x0 :: l) = leastF x0 l) := rfl
    have HO : Hid (leastOk (x0 :: l) = true) := rfl
    rcases hcc with ⟨rfl, hl0⟩ | hcc
    · go_enter Try.func25, Try.ntmps25
      go_wp2_with fail
      go_loop [4, 16] (fun o i => ∃ (k m : Nat), k ≤ l.length ∧ i = .int .i64 k ∧ o = .float .f64 m ∧ Hid (leastF x0 (l.take k) = m)) (fun _ i => l.length - (intOf i).toNat)
      case atStart => exact ⟨0, x0, Nat.zero_le _, rfl, rfl, Lib.hid (by simp [leastF])⟩
      case round =>
        obtain ⟨k, m, hk, rfl, rfl, HI⟩ := hrel
        by_cases hlt : k < l.length
        · exfalso; omega
        · have hd : decide ((k : Int) < l.length) = false := by simp; omega
          have hk9 : k = l.length := by omega
          have hI := HI.out
          rw [hk9, List.take_length] at hI
          go_wp2
          go_ret2
          rw [HV.out, HO.out, hI]
          exact ⟨rfl, rfl⟩
    · go_enter Try.func25, Try.ntmps25
      go_wp2_with fail
      go_loop [4, 16] (fun o i => ∃ (k m : Nat), k ≤ l.length ∧ i = .int .i64 k ∧ o = .float .f64 m ∧ Hid (leastF x0 (l.take k) = m)) (fun _ i => l.length - (intOf i).toNat)
      case atStart => exact ⟨0, x0, Nat.zero_le _, rfl, rfl, Lib.hid (by simp [leastF])⟩
      case round =>
        obtain ⟨k, m, hk, rfl, rfl, HI⟩ := hrel
        by_cases hlt : k < l.length
        · have hd : decide ((k : Int) < l.length) = true := by simp; omega
          have q1 := HC.out k hlt
          have hxk := HXL.out l[k] (List.getElem_mem hlt)
          have hm9 : m < 18446744073709551616 := by rw [← HI.out]; exact leastF_lt _ _ hx0 (fun x hx => HXL.out x (List.mem_of_mem_take hx))
          have hl9 := leastF_take x0 l k hlt
          rw [HI.out] at hl9
          generalize l[k] = x at *
          have HL9 := Lib.hid hl9; clear hl9
          obtain ⟨z, hz⟩ : ∃ z, cmpN x m = z := ⟨_, rfl⟩
          have HZ := Lib.hid hz; clear hz
          by_cases hz0 : z < 0
          · go_wp2_with (go_at_call 16; refine (cmp_any _ _ _ hxk hm9).mono ?_; rintro e w1 ⟨rfl, rfl⟩; rw [HZ.out])
            go_round
            case rel => exact ⟨k + 1, x, by omega, by go_num, rfl, HL9.out.trans (by rw [HZ.out, if_pos hz0])⟩
            case measure => simp [intOf]; omega
          · have hd2 : decide (z < 0) = false := by simp; omega
            go_wp2_with (go_at_call 16; refine (cmp_any _ _ _ hxk hm9).mono ?_; rintro e w1 ⟨rfl, rfl⟩; rw [HZ.out])
            go_round
            case rel => exact ⟨k + 1, m, by omega, by go_num, rfl, HL9.out.trans (by rw [HZ.out, if_neg (by omega)])⟩
            case measure => simp [intOf]; omega
        · have hd : decide ((k : Int) < l.length) = false := by simp; omega
          have hk9 : k = l.length := by omega
          have hI := HI.out
          rw [hk9, List.take_length] at hI
          go_wp2
          go_ret2
          rw [HV.out, HO.out, hI]
          exact ⟨rfl, rfl⟩
end Go.Proofs.Ytmnpmcfhmhkibaa
