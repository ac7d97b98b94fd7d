/- LedgerKeeps: the walk. -/
import Derived.Test.YtkfpopilkagedaaLgZ
import Derived.IntWalk
set_option linter.unusedSimpArgs false
set_option linter.unusedVariables false
namespace Go.Proofs.Ytkfpopilkagedaa
open Go.RowKit Mo
theorem pw_at {xs : List (Int × Int)} (h : xs.Pairwise (fun a b => a.1 < b.1)) (k : Nat) (hk : k < xs.length) (h0 : 0 < k) : (xs[k - 1]'(by omega)).1 < xs[k].1 := List.pairwise_iff_getElem.1 h (k - 1) k (by omega) hk (by omega)
set_option maxRecDepth 100000 in
set_option maxHeartbeats 4000000 in
theorem ledgerKeeps_walk (w : World) (r : Nat) (hwr : (Lit.float .f64 r).wf = true) (A : Option Addr) (c : Nat) (xs : List VOp14) (hr : SlOk w 4 A c (xs.flatMap VOp14.cells)) (hc : xs.length ≤ c) (hm : c ≤ maxLen) (hx : ∀ u_ ∈ xs, VOp14.ok w u_) :
    Calls Try.prog 3 #[.float .f64 r, .slice A xs.length c] w fun e w' => e = .returned (.bool true) ∧ Below w.heap.size w w' := by
  have ha := hr.reads (n := xs.length) (flatMap_len _ _ 4 (fun _ => rfl)) (by decide)
  have hml : xs.length ≤ 9223372036854775807 := by unfold maxLen at hm; omega
  have hb64 : r < 18446744073709551616 := by simpa [Lit.wf] using hwr
  have HA := Lib.hid ha; have HX := Lib.hid hx
  clear hr hm hx ha
  cases hrt : rateOk r
  · have HR := Lib.hid hrt
    clear hrt
    go_enter Try.func3, Try.ntmps3
    go_wp2_with (first
      | (go_at_call 8; (with_reducible refine (made_bad r _ _ _ _ hb64 HR.out).mono ?_); rintro e w1 ⟨rfl, rfl⟩; have HB : Hid (Below w.heap.size w w) := Lib.hid (Below.refl _ _))
      | (go_at_call 9; (with_reducible refine (awake14_any _).mono ?_); rintro e w2 ⟨rfl, hb⟩; have HB1 := Lib.hid (below_then HB.out hb); clear HB; have HB := HB1; clear HB1; clear hb))
    go_ret
    exact ⟨rfl, HB.out⟩
  · have HR := Lib.hid hrt
    clear hrt
    go_enter Try.func3, Try.ntmps3
    go_wp2_with (first
      | (go_at_call 8; (with_reducible refine (made_ok r A c xs _ HA.out HX.out hml hb64 HR.out).mono ?_); rintro e w1 ⟨b, m, f, N, rfl, hb, hm, hf, ht, n0, n1, hbk, hbw⟩; have HF := Lib.hid hf; have HT := Lib.hid ht; have B1 := Lib.hid hbk; have W1 := Lib.hid hbw; clear hf ht hbk hbw)
      | (go_at_call 9; (with_reducible refine (awake14_any _).mono ?_); rintro e w2 ⟨rfl, hb2⟩; have B2 := Lib.hid (B1.out.keeps (Keeps.of_below (S := fun _ => False) hb2) id id); have W2 := Lib.hid (below_then W1.out hb2); clear hb2)
      | (go_at_call 10; (with_reducible refine (list_any b r m 80 f _ B2.out (by omega) HF.out.sup).mono ?_); rintro e w3 ⟨A3, c3, rfl, hr3, ha3, hb3⟩; have L3 := Lib.hid hr3; have W3 := Lib.hid (below_then W2.out hb3); clear hr3 ha3 hb3))
    have hlen := ents_len f
    have HS := Lib.hid (ents_sorted HF.out.sup)
    have HV := Lib.hid (ents_val HF.out)
    have HE := Lib.hid ((ents_tot f).trans HT.out)
    obtain ⟨es, hes⟩ : ∃ es, ents f = es := ⟨_, rfl⟩
    rw [hes] at hlen HS HV HE L3 ⊢
    clear hes
    go_loopw [8] (fun s wr => ∃ k : Nat, k ≤ es.length ∧ s = .int .i64 k ∧ Hid (Below w3.heap.size w3 wr)) (fun s _ => es.length - (intOf s).toNat)
    case atStart => exact ⟨0, Nat.zero_le _, rfl, Lib.hid (Below.refl _ _)⟩
    case round =>
      obtain ⟨k, hk, rfl, HW⟩ := hrel
      by_cases hlt : k < es.length
      · have hd : decide ((k : Int) < (es.length : Int)) = true := by simp; omega
        obtain ⟨ad, hA, hadb, hcell⟩ := (L3.out.below HW.out).2 (by omega)
        subst hA
        obtain ⟨q0, q1⟩ := ents_at (B := 0) (n := 0) hcell k hlt
        replace q1 := cell_in _ 1 (by omega) q1
        have hv := HV.out es[k] (List.getElem_mem hlt)
        have hp := fun h0 => pw_at HS.out k hlt h0
        rcases (show k = 0 ∨ 0 < k by omega) with h0 | h0
        · have g1 : decide ((0 : Int) < (k : Int)) = false := by simp; omega
          have g1' : decide (0 < k) = false := by simp; omega
          clear h0 hp
          generalize es[k] = x at *
          clear hcell
          obtain ⟨x1, x2⟩ := x
          simp only at q0 q1 hv
          obtain ⟨v0, v1, v2, v3, v4⟩ := hv
          have g3 : decide (x2 < 0) = false := by simp; omega
          by_cases h4 : x1 < 4096
          · have g4 : decide (x1 < 4096) = true := by simpa using h4
            have v3 := v3 h4
            have g5 : decide (1000000000000000 < x2) = false := by simp; omega
            go_wp2_with fail
            go_quiet (fail)
            go_wp2_with fail
            go_roundw
            case rel => exact ⟨k + 1, by omega, by go_num, Lib.hid (below_dn HW.out _)⟩
            case measure => simp [intOf]; omega
          · have g4 : decide (x1 < 4096) = false := by simp; omega
            go_wp2_with fail
            go_quiet (fail)
            go_wp2_with fail
            go_roundw
            case rel => exact ⟨k + 1, by omega, by go_num, Lib.hid (below_dn HW.out _)⟩
            case measure => simp [intOf]; omega
        · obtain ⟨p0, p1⟩ := ents_at (B := 0) (n := 0) hcell (k - 1) (by omega)
          have hp := hp h0
          generalize es[k - 1]'(by omega) = y at *
          clear hcell
          generalize es[k] = x at *
          obtain ⟨x1, x2⟩ := x
          obtain ⟨y1, y2⟩ := y
          simp only at q0 q1 p0 hv hp
          obtain ⟨v0, v1, v2, v3, v4⟩ := hv
          have k1 : IntKind.i64.wrap ((k : Int) - 1) = (k : Int) - 1 := IntWalk.i64_in _ (by omega)
          have k2 : (0 : Int) ≤ (k : Int) - 1 := by omega
          have k3 : ((k : Int) - 1).toNat = k - 1 := by omega
          have k4 : (k : Int) - 1 < (es.length : Int) := by omega
          have g1 : decide ((0 : Int) < (k : Int)) = true := by simp; omega
          have g2 : decide (x1 ≤ y1) = false := by simp; omega
          have g3 : decide (x2 < 0) = false := by simp; omega
          by_cases h4 : x1 < 4096
          · have g4 : decide (x1 < 4096) = true := by simpa using h4
            have v3 := v3 h4
            have g5 : decide (1000000000000000 < x2) = false := by simp; omega
            go_wp2_with fail
            go_quiet (fail)
            go_wp2_with fail
            go_roundw
            case rel => exact ⟨k + 1, by omega, by go_num, Lib.hid (below_dn HW.out _)⟩
            case measure => simp [intOf]; omega
          · have g4 : decide (x1 < 4096) = false := by simp; omega
            go_wp2_with fail
            go_quiet (fail)
            go_wp2_with fail
            go_roundw
            case rel => exact ⟨k + 1, by omega, by go_num, Lib.hid (below_dn HW.out _)⟩
            case measure => simp [intOf]; omega
      · have hd : decide ((k : Int) < (es.length : Int)) = false := by simp; omega
        go_wp2_with (go_at_call 11; (with_reducible refine (tot_any A3 c3 es _ ((L3.out.below HW.out).more HW.out.size) (by omega) (fun p hp => (HV.out p hp).2.2.1) (by rw [HE.out]; omega)).mono ?_); rintro e w4 ⟨rfl, rfl⟩; rw [HE.out])
        go_ret
        exact ⟨rfl, below_then W3.out HW.out⟩
end Go.Proofs.Ytkfpopilkagedaa
