/- AmountTotals, AmountSplits: the walks. -/
import Derived.Test.YtefcofkodhichaaAmtW
import Derived.Test.YtefcofkodhichaaOpen04
set_option linter.unusedSimpArgs false
set_option linter.unusedVariables false
namespace Go.Proofs.Ytefcofkodhichaa
open Go.RowKit Mo
set_option maxHeartbeats 2000000 in
theorem same_any (w : World) (A : Option Addr) (c : Nat) (B : Option Addr) (d : Nat) (xs : List Int) (hr : Reads w w.heap.size 1 A xs.length (xs.map (Value.int .i64))) (hs : Reads w w.heap.size 1 B xs.length (xs.map (Value.int .i64))) (hm : xs.length ≤ 5000) :
    Calls Try.prog 19 #[.slice A xs.length c, .slice B xs.length d] w fun e w' => e = .returned (.bool true) ∧ Below w.heap.size w w' := by
  have HR := Lib.hid hr; have HS := Lib.hid hs
  clear hr hs
  go_enter Try.func19, Try.ntmps19
  go_wp2_with fail
  go_loopw [5] (fun i wr => ∃ (k : Nat), k ≤ xs.length ∧ i = .int .i64 k ∧ Hid (Below w.heap.size w wr)) (fun i _ => xs.length - (intOf i).toNat)
  case atStart => exact ⟨0, Nat.zero_le _, rfl, Lib.hid (Below.refl _ _)⟩
  case round =>
    obtain ⟨k, hk, rfl, HW⟩ := hrel
    by_cases hlt : k < xs.length
    · have hd : decide ((k : Int) < xs.length) = true := by simp; omega
      obtain ⟨ad, u, rfl, hadb, hu, hcell⟩ := (HR.out.kp (S := fun _ => False) (.of_below HW.out) (fun _ _ h => h)).at_ hlt
      obtain ⟨bd, v, rfl, hbdb, hv, hcell2⟩ := (HS.out.kp (S := fun _ => False) (.of_below HW.out) (fun _ _ h => h)).at_ hlt
      obtain rfl : u = .int .i64 xs[k] := by simp [hlt] at hu; rw [← hu]
      obtain rfl : v = .int .i64 xs[k] := by simp [hlt] at hv; rw [← hv]
      clear hu hv
      generalize xs[k] = x at *
      go_wp2_with (fail)
      go_quiet (fail)
      go_wp2_with (fail)
      go_roundw
      case rel => exact ⟨k + 1, by omega, by go_num, Lib.hid (Keeps.below ((Keeps.of_below HW.out).drewN _))⟩
      case measure => simp [intOf]; omega
    · have hd : decide ((k : Int) < xs.length) = false := by simp; omega
      go_wp2
      go_ret
      exact ⟨rfl, HW.out⟩
theorem own_shape2 {w : World} {base : Nat} {e : TypeId} {n : Nat} {v : Value} {xs : List Value} (h : w.ownsRow base e 1 v n xs) :
    ∃ A c, v = .slice A n c ∧ Reads w w.heap.size 1 A n xs ∧ n ≤ c ∧ c ≤ maxLen := by
  have h' := h
  rcases h.2 with ⟨rfl, rfl⟩ | ⟨g, cap, cur, rfl, hb, hh, h1, h2, _⟩
  · exact ⟨none, 0, rfl, Reads.of_own h', Nat.le_refl _, by simp [maxLen]⟩
  · exact ⟨some ⟨g, 0, none⟩, cap, rfl, Reads.of_own h', h1, h2⟩
set_option maxHeartbeats 2000000 in
theorem amountTotals_walk (w : World) (A : Option Addr) (c : Nat) (xs : List Int) (hr : SlOk w 1 A c (xs.map (Value.int .i64))) (hc : xs.length ≤ c) (hm : c ≤ maxLen) (hx : ∀ u_ ∈ xs, (Lit.int .i64 u_).wf = true) :
    Calls Try.prog 4 #[.slice A xs.length c] w fun e w' => e = .returned (.bool true) ∧ Below w.heap.size w w' := by
  have hr := hr.reads (n := xs.length) (by simp) (by decide)
  have HR := Lib.hid hr
  have HX := Lib.hid hx
  have HB : Hid (Below w.heap.size w w) := Lib.hid (Below.refl _ _)
  clear hr hc hm hx
  rcases (show 5000 < xs.length ∨ xs.length ≤ 5000 by omega) with h | h
  · have hd : decide ((5000 : Int) < xs.length) = true := by simp; omega
    go_enter Try.func4, Try.ntmps4
    go_wp2_with ((go_at_call 15; refine (awake04_any _).mono ?_; rintro e w5 ⟨rfl, hb⟩; replace HB := Lib.hid (below_then (w := w) (by repeat (first | exact HB.out | refine below_alloc_ ?_ _ | exact Below.refl _ _)) hb); clear hb))
    go_ret
    exact ⟨rfl, HB.out⟩
  have hd : decide ((5000 : Int) < xs.length) = false := by simp; omega
  have HMM := Lib.hid (show xs.length ≤ 9223372036854775807 by omega)
  obtain ⟨V, hV⟩ : ∃ V, totV xs = V := ⟨_, rfl⟩
  obtain ⟨K, hK⟩ : ∃ K, totOk xs = K := ⟨_, rfl⟩
  have HV := Lib.hid hV; have HK := Lib.hid hK
  clear hV hK
  obtain ⟨i0, hi0, hz0, hz1, hz2⟩ := info_parts info_i64
  cases K
  all_goals
    first | (have HE := Lib.hid (show errA (totOk xs) = 0 by rw [HK.out]; rfl)) | (have HE := Lib.hid (show errA (totOk xs) = 40 by rw [HK.out]; rfl))
    go_enter Try.func4, Try.ntmps4
    go_wp2_with (first
      | (at_builtin
         refine wpList_append_any _ rfl (.tmp 12) (.tmp 13) 27 rfl w.heap.size 2 i0 (.int .i64 0) 1 8 Try.underlying27 hi0 hz0 hz1 hz2 rfl (by omega) (.slice (some ⟨w.heap.size, 0, none⟩) 0 0) 0 [] (by rfl) (own_empty (by rfl) (Nat.le_refl _)) _ A xs.length c (xs.map (Value.int .i64)) (by rfl) (HR.out.al _) (one_ints xs) (by simp only [maxLen]; omega) (by omega) (by simp) ?_
         intro v1 w1 hown hg1 hat1
         simp only [Nat.zero_add, List.nil_append] at hown
         replace HB : Hid (Below w.heap.size w w1) := Lib.hid ((below_alloc_ (Below.refl _ _) _).grown hg1 (by simp) (by simp [Value.ownBlock]))
         obtain ⟨A1, c1, rfl, hr1, hc1, hm1⟩ := own_shape2 hown
         have HR1 := Lib.hid hr1
         have HR2 := Lib.hid (HR.out.kp (S := fun _ => False) (.of_below HB.out) (fun _ _ h => h))
         clear hown hr1 hg1 hat1 hc1 hm1)
      | (go_at_call 18; refine (total_any _ A1 c1 xs HR1.out HMM.out HX.out).mono ?_; rintro e w2 ⟨rfl, rfl⟩; rw [HV.out, HE.out])
      | (go_at_call 12; refine (rtotal_any _ A c xs HR2.out HMM.out HX.out).mono ?_; rintro e w2 ⟨rfl, rfl⟩; rw [HV.out, HK.out]; have HQ := Lib.hid (And.intro HR1.out HR2.out))
      | (go_at_call 15; refine (awake04_any _).mono ?_; rintro e w5 ⟨rfl, hb⟩; (have HR3 := Lib.hid (HR1.out.kp (S := fun _ => False) (.of_below hb) (fun _ _ h => h))); (have HR4 := Lib.hid (HR2.out.kp (S := fun _ => False) (.of_below hb) (fun _ _ h => h))); replace HB := Lib.hid (below_then (w := w) (by repeat (first | exact HB.out | refine below_alloc_ ?_ _ | exact Below.refl _ _)) hb); clear hb)
      | (go_at_call 19; refine (same_any _ A1 c1 A c xs HR3.out HR4.out h).mono ?_; rintro e w5 ⟨rfl, hb⟩; replace HB := Lib.hid (below_then (w := w) (by repeat (first | exact HB.out | refine below_alloc_ ?_ _ | exact Below.refl _ _)) hb); clear hb))
    go_ret
    exact ⟨rfl, HB.out⟩
theorem reads_nil {w : World} {B : Nat} : Reads w B 1 none ([] : List Int).length (([] : List Int).map (Value.int .i64)) := ⟨rfl, fun h => absurd h (by simp)⟩
theorem split_low {w : World} {n p : Int} (h : isA n = false) (e : Ending) (w' : World) (k : SplitRet w n p e w') : e = .returned (.tuple #[.slice none 0 0, .int .i64 40]) ∧ Below w.heap.size w w' := by
  rcases k with ⟨_, h1, h2⟩ | ⟨h1, _⟩ | ⟨h1, _⟩
  · exact ⟨h1, h2⟩
  · rw [h] at h1; cases h1
  · rw [h] at h1; cases h1
theorem split_mid {w : World} {n p : Int} (h : isA n = true) (hp : p < 1 ∨ 1000 < p) (e : Ending) (w' : World) (k : SplitRet w n p e w') : e = .returned (.tuple #[.slice none 0 0, .int .i64 42]) ∧ Below w.heap.size w w' := by
  rcases k with ⟨h1, _⟩ | ⟨_, _, h1, h2⟩ | ⟨_, h1, h2, _⟩
  · rw [h] at h1; cases h1
  · exact ⟨h1, h2⟩
  · omega
theorem split_hi {w : World} {n p : Int} (h : isA n = true) (hp : 1 ≤ p) (hp2 : p ≤ 1000) (e : Ending) (w' : World) (k : SplitRet w n p e w') : ∃ A c, e = .returned (.tuple #[.slice A (splitL n p.toNat).length c, .int .i64 0]) ∧ Li w' A c (splitL n p.toNat) ∧ Below w.heap.size w w' := by
  rcases k with ⟨h1, _⟩ | ⟨_, h1, _⟩ | ⟨_, _, _, h1⟩
  · rw [h] at h1; cases h1
  · omega
  · exact h1
set_option maxHeartbeats 2000000 in
theorem amountSplits_walk (w : World) (n : Int) (wn : (Lit.int .i64 n).wf = true) (p : Int) (wp : (Lit.int .i64 p).wf = true) :
    Calls Try.prog 5 #[.int .i64 n, .int .i64 p] w fun e w' => e = .returned (.bool true) ∧ Below w.heap.size w w' := by
  obtain ⟨n1, n2⟩ := i64_wf wn
  obtain ⟨p1, p2⟩ := i64_wf wp
  have HB : Hid (Below w.heap.size w w) := Lib.hid (Below.refl _ _)
  clear wn wp
  rcases (show isA n = false ∨ (isA n = true ∧ (p < 1 ∨ 1000 < p)) ∨ (isA n = true ∧ 1 ≤ p ∧ p ≤ 1000) by cases isA n <;> simp; omega) with h | ⟨h, h2⟩ | ⟨h, h2, h3⟩
  · have HH := Lib.hid h
    clear h
    go_enter Try.func5, Try.ntmps5
    go_wp2_with (first
      | (go_at_call 15; refine (awake04_any _).mono ?_; rintro e w5 ⟨rfl, hb⟩; replace HB := Lib.hid (below_then (w := w) (by repeat (first | exact HB.out | refine below_alloc_ ?_ _ | exact Below.refl _ _)) hb); clear hb)
      | (go_at_call 20; refine ((split_any _ _ _ n1 n2 p1 p2).mono (split_low HH.out)).mono ?_; rintro e w5 ⟨rfl, hb⟩; replace HB := Lib.hid (below_then (w := w) (by repeat (first | exact HB.out | refine below_alloc_ ?_ _ | exact Below.refl _ _)) hb); clear hb)
      | (go_at_call 21; refine ((rsplit_any _ _ _ n1 n2 p1 p2).mono (split_low HH.out)).mono ?_; rintro e w5 ⟨rfl, hb⟩; replace HB := Lib.hid (below_then (w := w) (by repeat (first | exact HB.out | refine below_alloc_ ?_ _ | exact Below.refl _ _)) hb); clear hb)
      | (go_at_call 19; refine (same_any _ none 0 none 0 [] reads_nil reads_nil (by decide)).mono ?_; rintro e w5 ⟨rfl, hb⟩; replace HB := Lib.hid (below_then (w := w) (by repeat (first | exact HB.out | refine below_alloc_ ?_ _ | exact Below.refl _ _)) hb); clear hb))
    go_ret
    exact ⟨rfl, HB.out⟩
  · have HH := Lib.hid h; have HH2 := Lib.hid h2
    clear h h2
    go_enter Try.func5, Try.ntmps5
    go_wp2_with (first
      | (go_at_call 15; refine (awake04_any _).mono ?_; rintro e w5 ⟨rfl, hb⟩; replace HB := Lib.hid (below_then (w := w) (by repeat (first | exact HB.out | refine below_alloc_ ?_ _ | exact Below.refl _ _)) hb); clear hb)
      | (go_at_call 20; refine ((split_any _ _ _ n1 n2 p1 p2).mono (split_mid HH.out HH2.out)).mono ?_; rintro e w5 ⟨rfl, hb⟩; replace HB := Lib.hid (below_then (w := w) (by repeat (first | exact HB.out | refine below_alloc_ ?_ _ | exact Below.refl _ _)) hb); clear hb)
      | (go_at_call 21; refine ((rsplit_any _ _ _ n1 n2 p1 p2).mono (split_mid HH.out HH2.out)).mono ?_; rintro e w5 ⟨rfl, hb⟩; replace HB := Lib.hid (below_then (w := w) (by repeat (first | exact HB.out | refine below_alloc_ ?_ _ | exact Below.refl _ _)) hb); clear hb)
      | (go_at_call 19; refine (same_any _ none 0 none 0 [] reads_nil reads_nil (by decide)).mono ?_; rintro e w5 ⟨rfl, hb⟩; replace HB := Lib.hid (below_then (w := w) (by repeat (first | exact HB.out | refine below_alloc_ ?_ _ | exact Below.refl _ _)) hb); clear hb))
    go_ret
    exact ⟨rfl, HB.out⟩
  · have HH := Lib.hid h; have HH2 := Lib.hid h2; have HH3 := Lib.hid h3
    obtain ⟨l, hl⟩ : ∃ l, splitL n p.toNat = l := ⟨_, rfl⟩
    have HL5 := Lib.hid (show l.length ≤ 5000 by rw [← hl, splitL_len]; omega)
    have HL := Lib.hid hl
    clear h h2 h3 hl
    go_enter Try.func5, Try.ntmps5
    go_wp2_with (first
      | (go_at_call 20; refine ((split_any _ _ _ n1 n2 p1 p2).mono (split_hi HH.out HH2.out HH3.out)).mono ?_; rw [HL.out]; rintro e w5 ⟨A1, c1, rfl, hli, hb⟩; have HA := Lib.hid hli; clear hli; replace HB := Lib.hid (below_then (w := w) (by repeat (first | exact HB.out | refine below_alloc_ ?_ _ | exact Below.refl _ _)) hb); clear hb)
      | (go_at_call 21; refine ((rsplit_any _ _ _ n1 n2 p1 p2).mono (split_hi HH.out HH2.out HH3.out)).mono ?_; rw [HL.out]; rintro e w6 ⟨A2, c2, rfl, hli, hb⟩; have HA2 := Lib.hid hli; (have HA3 := Lib.hid (HA.out.pass hb)); clear hli; replace HB := Lib.hid (below_then (w := w) (by repeat (first | exact HB.out | refine below_alloc_ ?_ _ | exact Below.refl _ _)) hb); clear hb)
      | (go_at_call 15; refine (awake04_any _).mono ?_; rintro e w7 ⟨rfl, hb⟩; (have HA4 := Lib.hid (HA2.out.pass hb)); (have HA5 := Lib.hid (HA3.out.pass hb)); replace HB := Lib.hid (below_then (w := w) (by repeat (first | exact HB.out | refine below_alloc_ ?_ _ | exact Below.refl _ _)) hb); clear hb)
      | (go_at_call 19; refine (same_any _ A1 c1 A2 c2 l HA5.out.rd HA4.out.rd HL5.out).mono ?_; rintro e w5 ⟨rfl, hb⟩; replace HB := Lib.hid (below_then (w := w) (by repeat (first | exact HB.out | refine below_alloc_ ?_ _ | exact Below.refl _ _)) hb); clear hb))
    go_ret
    exact ⟨rfl, HB.out⟩
end Go.Proofs.Ytefcofkodhichaa
