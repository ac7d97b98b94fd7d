/- NumBack: the walk. -/
import Derived.Test.YtmnpmcfhmhkibaaKeyW
set_option linter.unusedSimpArgs false
set_option linter.unusedVariables false
namespace Go.Proofs.Ytmnpmcfhmhkibaa
open Go.RowKit Mo
theorem u64_wf {n : Int} (h : (Lit.int .u64 n).wf = true) : 0 ≤ n ∧ n ≤ 18446744073709551615 := by
  simpa [Lit.wf, IntKind.min, IntKind.max, IntKind.signed, IntKind.bits] using h
set_option maxHeartbeats 1000000 in
theorem numBack_walk (w : World) (k : Int) (wk : (Lit.int .u64 k).wf = true) :
    Calls Try.prog 4 #[.int .u64 k] w fun e w' => e = .returned (.bool true) ∧ Below w.heap.size w w' := by
  obtain ⟨h1, h2⟩ := u64_wf wk
  obtain ⟨n, rfl⟩ : ∃ n : Nat, k = n := ⟨k.toNat, by omega⟩
  have hn : n < 18446744073709551616 := by omega
  clear wk h1 h2
  have HB : Hid (Below w.heap.size w w) := Lib.hid (Below.refl _ _)
  have hr := run_bits
  obtain ⟨V, hV⟩ : ∃ V, ofV n = V := ⟨_, rfl⟩
  obtain ⟨K, hK⟩ : ∃ K, ofOk n = K := ⟨_, rfl⟩
  have HV := Lib.hid hV; have HK := Lib.hid hK; clear hV hK
  go_enter Try.func4, Try.ntmps4
  go_wp2_with (first
    | (go_at_call 13; refine (awake01_any _).mono ?_; rintro e w5 ⟨rfl, hb⟩; replace HB := Lib.hid (below_then (w := w) (by repeat (first | exact HB.out | refine below_alloc_ ?_ _ | exact Below.refl _ _)) hb); clear hb)
    | (go_at_call 20; refine (of_any _ _ hn).mono ?_; rintro e w1 ⟨rfl, rfl⟩; rw [HV.out, HK.out])
    | (go_at_call 21; refine (rbits_any _ _ hn).mono ?_; rintro e w1 ⟨rfl, rfl⟩; rw [HV.out, HK.out]))
  go_ret
  exact ⟨rfl, HB.out⟩
end Go.Proofs.Ytmnpmcfhmhkibaa
