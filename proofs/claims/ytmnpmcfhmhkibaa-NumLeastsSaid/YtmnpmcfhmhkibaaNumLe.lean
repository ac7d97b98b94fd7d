/- NumLeasts: the walk. -/
import Derived.Test.YtmnpmcfhmhkibaaKeyM
import Derived.Test.YtmnpmcfhmhkibaaNumKs
import Derived.Test.YtmnpmcfhmhkibaaOpen01
set_option linter.unusedSimpArgs false
set_option linter.unusedVariables false
namespace Go.Proofs.Ytmnpmcfhmhkibaa
open Go.RowKit Mo
theorem info_f64 : (Try.prog.info? 22).map (fun i => (i.zero, i.size, i.bytes)) = some (some (.float .f64 0), 1, 8) := by kernel_rfl
theorem one_floats (xs : List Nat) : ∀ u ∈ xs.map (Value.float .f64), u.oneCell' = true := by
  intro u hu
  obtain ⟨x, _, rfl⟩ := List.mem_map.1 hu
  rfl
theorem own_shape2 {w : World} {base : Nat} {e : TypeId} {n : Nat} {v : Value} {xs : List Value} (h : w.ownsRow base e 1 v n xs) :
    ∃ A c, v = .slice A n c ∧ Reads w w.heap.size 1 A n xs ∧ n ≤ c ∧ c ≤ maxLen := by
  have h' := h
  rcases h.2 with ⟨rfl, rfl⟩ | ⟨g, cap, cur, rfl, hb, hh, h1, h2, _⟩
  · exact ⟨none, 0, rfl, Reads.of_own h', Nat.le_refl _, by simp [maxLen]⟩
  · exact ⟨some ⟨g, 0, none⟩, cap, rfl, Reads.of_own h', h1, h2⟩
theorem leastV_lt (xs : List Nat) (hx : ∀ u ∈ xs, u < 18446744073709551616) : leastV xs < 18446744073709551616 := by
  cases xs with
  | nil => exact (by decide : (0 : Nat) < 18446744073709551616)
  | cons x l => exact leastF_lt l x (hx x List.mem_cons_self) (fun u hu => hx u (List.mem_cons_of_mem _ hu))
set_option maxHeartbeats 1000000 in
theorem numLeasts_walk (w : World) (A : Option Addr) (c : Nat) (xs : List Nat) (hr : SlOk w 1 A c (xs.map (Value.float .f64))) (hc : xs.length ≤ c) (hm : c ≤ maxLen) (hx : ∀ u_ ∈ xs, (Lit.float .f64 u_).wf = true) :
    Calls Try.prog 6 #[.slice A xs.length c] w fun e w' => e = .returned (.bool true) ∧ Below w.heap.size w w' := by
  have hr := hr.reads (n := xs.length) (by simp) (by decide)
  have HR := Lib.hid hr
  have HX := Lib.hid (show ∀ u ∈ xs, u < 18446744073709551616 from fun u hu => f64_wf (hx u hu))
  have HB : Hid (Below w.heap.size w w) := Lib.hid (Below.refl _ _)
  clear hr hc hm hx
  rcases (show 200 < xs.length ∨ xs.length ≤ 200 by omega) with h | h
  · have hd : decide ((200 : Int) < xs.length) = true := by simp; omega
    go_enter Try.func6, Try.ntmps6
    go_wp2_with ((go_at_call 13; refine (awake01_any _).mono ?_; rintro e w5 ⟨rfl, hb⟩; replace HB := Lib.hid (below_then (w := w) (by repeat (first | exact HB.out | refine below_alloc_ ?_ _ | exact Below.refl _ _)) hb); clear hb))
    go_ret
    exact ⟨rfl, HB.out⟩
  have hd : decide ((200 : Int) < xs.length) = false := by simp; omega
  obtain ⟨V, hV⟩ : ∃ V, leastV xs = V := ⟨_, rfl⟩
  obtain ⟨K, hK⟩ : ∃ K, leastOk xs = K := ⟨_, rfl⟩
  have hVl := leastV_lt xs HX.out
  rw [hV] at hVl
  have HV := Lib.hid hV; have HK := Lib.hid hK
  have HS := Lib.hid (show sameN V V = true by unfold sameN; simp)
  clear hV hK
  obtain ⟨i0, hi0, hz0, hz1, hz2⟩ := info_parts info_f64
  go_enter Try.func6, Try.ntmps6
  go_wp2_with (first
    | (go_at_call 13; refine (awake01_any _).mono ?_; rintro e w5 ⟨rfl, hb⟩; replace HB := Lib.hid (below_then (w := w) (by repeat (first | exact HB.out | refine below_alloc_ ?_ _ | exact Below.refl _ _)) hb); clear hb)
    | (at_builtin
       refine wpList_append_any _ rfl (.tmp 12) (.tmp 13) 40 rfl w.heap.size 22 i0 (.float .f64 0) 1 8 Try.underlying40 hi0 hz0 hz1 hz2 rfl (by omega) (.slice (some ⟨w.heap.size, 0, none⟩) 0 0) 0 [] (by rfl) (own_empty (by rfl) (Nat.le_refl _)) _ A xs.length c (xs.map (Value.float .f64)) (by rfl) (HR.out.al _) (one_floats xs) (by simp only [maxLen]; omega) (by omega) (by simp) ?_
       intro v1 w1 hown hg1 hat1
       simp only [Nat.zero_add, List.nil_append] at hown
       replace HB : Hid (Below w.heap.size w w1) := Lib.hid ((below_alloc_ (Below.refl _ _) _).grown hg1 (by simp) (by simp [Value.ownBlock]))
       obtain ⟨A1, c1, rfl, hr1, hc1, hm1⟩ := own_shape2 hown
       have HR1 := Lib.hid hr1
       clear hown hr1 hg1 hat1)
    | (go_at_call 25; refine (least_any _ A1 c1 xs HR1.out hc1 (by unfold maxLen at hm1; omega) HX.out).mono ?_; rintro e w2 ⟨rfl, rfl⟩; rw [HV.out, HK.out])
    | (go_at_call 26; refine (rleast_any _ A c xs (HR.out.kp (S := fun _ => False) (.of_below HB.out) (fun _ _ h => h)) h HX.out).mono ?_; rintro e w5 ⟨rfl, hb⟩; rw [HV.out, HK.out]; replace HB := Lib.hid (below_then (w := w) (by repeat (first | exact HB.out | refine below_alloc_ ?_ _ | exact Below.refl _ _)) hb); clear hb)
    | (go_at_call 27; refine (same_any _ _ _ hVl hVl).mono ?_; rintro e w2 ⟨rfl, rfl⟩; rw [HS.out]))
  go_ret
  exact ⟨rfl, HB.out⟩
end Go.Proofs.Ytmnpmcfhmhkibaa
