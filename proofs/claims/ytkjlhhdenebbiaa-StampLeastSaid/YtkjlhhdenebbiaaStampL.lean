/- StampLeast: the walk. -/
import Derived.Test.YtkjlhhdenebbiaaStampB
import Derived.Test.YtkjlhhdenebbiaaOpen10
set_option linter.unusedSimpArgs false
set_option linter.unusedVariables false
namespace Go.Proofs.Ytkjlhhdenebbiaa
open Go.RowKit
theorem none_more {xs : List Int} {T : Int} {k : Nat} (H : ∀ j, ∀ h : j < xs.length, j < k → xs[j] ≠ T) (hk : k < xs.length) (hn : ¬ xs[k] = T) : ∀ j, ∀ h : j < xs.length, j < k + 1 → xs[j] ≠ T := by
  intro j h hj
  rcases Nat.lt_or_ge j k with h' | h'
  · exact H j h h'
  · obtain rfl : j = k := by omega
    exact hn
set_option maxHeartbeats 1000000 in
theorem stampLeast_walk (w : World) (last : Int) (wl : (Lit.int .i64 last).wf = true) (lo hi : Int) (w0 : (Lit.int .i64 lo).wf = true) (w1 : (Lit.int .i64 hi).wf = true)
    (A : Option Addr) (c : Nat) (xs : List Int) (hr : SlOk w 1 A c (xs.map (Value.int .i64))) (hc : xs.length ≤ c) (hm : c ≤ maxLen) (hx : ∀ u_ ∈ xs, (Lit.int .i64 u_).wf = true) :
    Calls Try.prog 6 #[.int .i64 last, .agg #[.int .i64 lo, .int .i64 hi], .slice A xs.length c] w fun e w' => e = .returned (.bool true) ∧ Below w.heap.size w w' := by
  have hr := Lib.hid (hr.reads (n := xs.length) (by simp) (by decide))
  clear hx w0 w1 wl
  have hml : xs.length ≤ 9223372036854775807 := by unfold maxLen at hm; omega
  clear hm
  by_cases hlong : 100 < xs.length
  · have hd : decide (100 < xs.length) = true := by simpa using hlong
    go_enter Try.func6, Try.ntmps6
    go_wp2_with (go_at_call 7; refine (new_any _).mono ?_; rintro e w1 ⟨rfl, rfl⟩)
    refine (awake10_any _).mono ?_
    rintro e w2 ⟨rfl, hb2⟩
    have HB2 := Lib.hid hb2; clear hb2
    go_wp2_with fail
    refine (awake10_any _).mono ?_
    rintro e w3 ⟨rfl, hb3⟩
    have HB3 := Lib.hid hb3; clear hb3
    go_wp2_with fail
    go_ret
    exact ⟨rfl, below_then (below_then (by repeat (first | exact Below.refl _ _ | refine below_alloc_ ?_ _ | refine Below.drew ?_)) HB2.out) HB3.out⟩
  · have hd : decide (100 < xs.length) = false := by simpa using hlong
    obtain ⟨l0, kr, HK, hk⟩ : ∃ l0 kr : Int, Hid (KeepIs 0 last kr l0) ∧ ((1 ≤ last ∧ last ≤ 1125899906842624 ∧ kr = 0 ∧ last = l0) ∨ ((last < 1 ∨ 1125899906842624 < last) ∧ kr = 100 ∧ 0 = l0)) := by
      by_cases h : 1 ≤ last ∧ last ≤ 1125899906842624
      · exact ⟨last, 0, .inl ⟨h.1, h.2, rfl, by omega⟩, .inl ⟨h.1, h.2, rfl, rfl⟩⟩
      · exact ⟨0, 100, .inr ⟨by omega, rfl, rfl⟩, .inr ⟨by omega, rfl, rfl⟩⟩
    obtain ⟨n, er, l, hn⟩ := next_cases l0 lo hi xs
    have HN := Lib.hid hn
    obtain ⟨T, hT⟩ : ∃ T, tops (max l0 hi) xs = T := ⟨_, rfl⟩
    unfold NextIs at hn
    rw [hT] at hn
    have hTl := tops_ge (max l0 hi) xs
    have HTis := Lib.hid (tops_is (max l0 hi) xs)
    rw [hT] at hTl HTis
    rcases hk with ⟨h1, h2, rfl, rfl⟩ | ⟨h1, rfl, rfl⟩
    all_goals
      rcases hn with ⟨h3, rfl, rfl, rfl⟩ | ⟨⟨h5, h6, h7⟩, h4, rfl, rfl, rfl⟩ | ⟨⟨h5, h6, h7⟩, h4, rfl, rfl, rfl⟩
    all_goals
      try have hT0 : 0 ≤ T := by omega
      have HT := Lib.hid hT; clear hT
      try have b1 : (last == last) = true := by simp
      go_enter Try.func6, Try.ntmps6
      go_wp2_with (go_at_call 7; refine (new_any _).mono ?_; rintro e w1 ⟨rfl, rfl⟩)
      refine (awake10_any _).mono ?_
      rintro e w2 ⟨rfl, hb2⟩
      have K2 := Lib.hid (((Keeps.refl (fun _ => False) w).alloc _).alloc _ |>.then hb2)
      have S2 := Lib.hid (Blk.keeps (Blk.new' (t := 46) (cs := #[.int .i64 0]) (n := w.heap.size + 1) (by simp)) (.of_below (S := fun _ => False) hb2) id)
      have B2 := Lib.hid (Blk.keeps (Blk.alloc (Blk.new w 28 #[.int .i64 lo, .int .i64 hi]) (.cells #[.int .i64 0] 46)) (.of_below (S := fun _ => False) hb2) id)
      clear hb2
      go_wp2_with fail
      refine (keep_any (w.heap.size + 1) _ _ S2.out HK.out).mono ?_
      rintro e w3 ⟨rfl, hs3, hk3⟩
      have S3 := Lib.hid hs3
      have B3 := Lib.hid (B2.out.keeps hk3 (by omega))
      have K3 := Lib.hid (K2.out.base hk3 (fun i h1 h2 => by omega))
      clear S2 B2 K2 hs3 hk3
      obtain ⟨c0, c1⟩ := B3.out.c2
      go_wp2_with fail
      clear c0 c1
      refine (next_any (w.heap.size + 1) lo hi A xs c _ S3.out ((hr.out.keeps K3.out (Nat.le_refl _) (fun _ _ h => h)).more K3.out.size) (by omega) HN.out).mono ?_
      rintro e w4 ⟨rfl, hs4, hk4⟩
      have S4 := Lib.hid hs4
      have B4 := Lib.hid (B3.out.keeps hk4 (by omega))
      have K4 := Lib.hid (K3.out.base hk4 (fun i h1 h2 => by omega))
      clear S3 B3 K3 hs4 hk4
      obtain ⟨c0, c1⟩ := B4.out.c2
    · go_wp2_with (go_at_call 13; go_must (refine (last_any (w.heap.size + 1) _ _ S4.out).mono ?_); rintro e w5 ⟨rfl, rfl⟩)
      go_ret
      exact ⟨rfl, K4.out.below⟩
    · go_wp2_with (go_at_call 13; go_must (refine (last_any (w.heap.size + 1) _ _ S4.out).mono ?_); rintro e w5 ⟨rfl, rfl⟩)
      go_ret
      exact ⟨rfl, K4.out.below⟩
    · by_cases e1 : T = hi
      · have b3 : (T == hi) = true := by simpa using e1
        clear e1 HTis
        go_wp2_with (go_at_call 13; go_must (refine (last_any (w.heap.size + 1) _ _ S4.out).mono ?_); rintro e w5 ⟨rfl, rfl⟩)
        go_ret
        exact ⟨by simp, K4.out.below⟩
      have b3 : (T == hi) = false := by simpa using e1
      by_cases e2 : T = last
      · have b4 : (T == last) = true := by simpa using e2
        clear e1 e2 HTis
        go_wp2_with (go_at_call 13; go_must (refine (last_any (w.heap.size + 1) _ _ S4.out).mono ?_); rintro e w5 ⟨rfl, rfl⟩)
        go_ret
        exact ⟨by simp, K4.out.below⟩
      have b4 : (T == last) = false := by simpa using e2
      by_cases e3 : T = 0
      · have b5 : (T == 0) = true := by simpa using e3
        have e4 := Lib.hid e3
        clear e1 e3 HTis e2
        go_wp2_with (go_at_call 13; go_must (refine (last_any (w.heap.size + 1) _ _ S4.out).mono ?_); rintro e w5 ⟨rfl, rfl⟩)
        go_ret
        exact ⟨by simp, K4.out.below⟩
      have b5 : (T == 0) = false := by simpa using e3
      have HE : Hid (∃ i, ∃ h : i < xs.length, xs[i] = T) := by
        rcases HTis.out with h | h
        · exfalso; omega
        · exact h
      clear e1 e3 HTis e2
      go_wp2_with (go_at_call 13; go_must (refine (last_any (w.heap.size + 1) _ _ S4.out).mono ?_); rintro e w5 ⟨rfl, rfl⟩)
      go_loop [12] (fun i => ∃ k : Nat, k ≤ xs.length ∧ i = .int .i64 k ∧ Hid (∀ j, ∀ h : j < xs.length, j < k → xs[j] ≠ T)) (fun i => xs.length - (intOf i).toNat)
      case atStart => exact ⟨0, Nat.zero_le _, rfl, fun j _ h => absurd h (by omega)⟩
      case round =>
        obtain ⟨k, hk, rfl, HJ⟩ := hrel
        by_cases hlt : k < xs.length
        · obtain ⟨ad, u, rfl, hadb, hx, hcell⟩ := (hr.out.keeps K4.out (Nat.le_refl _) (fun _ _ h => h)).at_ hlt
          obtain rfl : Value.int .i64 xs[k] = u := by simpa [hlt] using hx
          clear hx
          by_cases he : xs[k] = T
          · have b6 : (T == xs[k]) = true := by simpa using he.symm
            clear he
            go_wp2_with (go_at_call 13; go_must (refine (last_any (w.heap.size + 1) _ _ S4.out).mono ?_); rintro e w5 ⟨rfl, rfl⟩)
            go_ret
            exact ⟨by simp, K4.out.below⟩
          · have b6 : (T == xs[k]) = false := by simpa using Ne.symm he
            have HN := Lib.hid he; clear he
            go_wp2_with fail
            go_round
            case rel => exact ⟨k + 1, by omega, by go_num, none_more HJ.out hlt HN.out⟩
            case measure => simp [intOf]; omega
        · exfalso
          obtain ⟨i, h, he⟩ := HE.out
          exact HJ.out i h (by omega) he
    · go_wp2_with (go_at_call 13; go_must (refine (last_any (w.heap.size + 1) _ _ S4.out).mono ?_); rintro e w5 ⟨rfl, rfl⟩)
      go_ret
      exact ⟨rfl, K4.out.below⟩
    · go_wp2_with (go_at_call 13; go_must (refine (last_any (w.heap.size + 1) _ _ S4.out).mono ?_); rintro e w5 ⟨rfl, rfl⟩)
      go_ret
      exact ⟨rfl, K4.out.below⟩
    · by_cases e1 : T = hi
      · have b3 : (T == hi) = true := by simpa using e1
        clear e1 HTis
        go_wp2_with (go_at_call 13; go_must (refine (last_any (w.heap.size + 1) _ _ S4.out).mono ?_); rintro e w5 ⟨rfl, rfl⟩)
        go_ret
        exact ⟨by simp, K4.out.below⟩
      have b3 : (T == hi) = false := by simpa using e1
      by_cases e3 : T = 0
      · have b5 : (T == 0) = true := by simpa using e3
        have e4 := Lib.hid e3
        clear e1 e3 HTis
        go_wp2_with (go_at_call 13; go_must (refine (last_any (w.heap.size + 1) _ _ S4.out).mono ?_); rintro e w5 ⟨rfl, rfl⟩)
        go_ret
        exact ⟨by simp, K4.out.below⟩
      have b5 : (T == 0) = false := by simpa using e3
      have HE : Hid (∃ i, ∃ h : i < xs.length, xs[i] = T) := by
        rcases HTis.out with h | h
        · exfalso; omega
        · exact h
      clear e1 e3 HTis
      go_wp2_with (go_at_call 13; go_must (refine (last_any (w.heap.size + 1) _ _ S4.out).mono ?_); rintro e w5 ⟨rfl, rfl⟩)
      go_loop [12] (fun i => ∃ k : Nat, k ≤ xs.length ∧ i = .int .i64 k ∧ Hid (∀ j, ∀ h : j < xs.length, j < k → xs[j] ≠ T)) (fun i => xs.length - (intOf i).toNat)
      case atStart => exact ⟨0, Nat.zero_le _, rfl, fun j _ h => absurd h (by omega)⟩
      case round =>
        obtain ⟨k, hk, rfl, HJ⟩ := hrel
        by_cases hlt : k < xs.length
        · obtain ⟨ad, u, rfl, hadb, hx, hcell⟩ := (hr.out.keeps K4.out (Nat.le_refl _) (fun _ _ h => h)).at_ hlt
          obtain rfl : Value.int .i64 xs[k] = u := by simpa [hlt] using hx
          clear hx
          by_cases he : xs[k] = T
          · have b6 : (T == xs[k]) = true := by simpa using he.symm
            clear he
            go_wp2_with (go_at_call 13; go_must (refine (last_any (w.heap.size + 1) _ _ S4.out).mono ?_); rintro e w5 ⟨rfl, rfl⟩)
            go_ret
            exact ⟨by simp, K4.out.below⟩
          · have b6 : (T == xs[k]) = false := by simpa using Ne.symm he
            have HN := Lib.hid he; clear he
            go_wp2_with fail
            go_round
            case rel => exact ⟨k + 1, by omega, by go_num, none_more HJ.out hlt HN.out⟩
            case measure => simp [intOf]; omega
        · exfalso
          obtain ⟨i, h, he⟩ := HE.out
          exact HJ.out i h (by omega) he
end Go.Proofs.Ytkjlhhdenebbiaa
