/- StampRises: the walk. -/
import Derived.Test.YtkjlhhdenebbiaaStampB
import Derived.Test.YtkjlhhdenebbiaaOpen10
import Derived.Test.YtkjlhhdenebbiaaStampI
set_option linter.unusedSimpArgs false
set_option linter.unusedVariables false
namespace Go.Proofs.Ytkjlhhdenebbiaa
open Go.RowKit
set_option maxRecDepth 100000 in
set_option maxHeartbeats 2000000 in
theorem stampRises_walk (w : World) (A : Option Addr) (c : Nat) (xs : List VCall10) (hr : SlOk w 5 A c (xs.flatMap VCall10.cells)) (hc : xs.length ≤ c) (hm : c ≤ maxLen) (hx : ∀ u_ ∈ xs, VCall10.ok w u_) :
    Calls Try.prog 5 #[.slice A xs.length c] w fun e w' => e = .returned (.bool true) ∧ Below w.heap.size w w' := by
  have hr := Lib.hid (hr.reads (n := xs.length) (flatMap_len _ _ 5 (fun _ => rfl)) (by decide))
  have hml : xs.length ≤ 9223372036854775807 := by unfold maxLen at hm; omega
  have HX := Lib.hid hx
  clear hm hx
  go_enter Try.func5, Try.ntmps5
  go_wp2_with (go_at_call 7; refine (new_any _).mono ?_; rintro e w1 ⟨rfl, rfl⟩)
  refine (awake10_any _).mono ?_
  rintro e w2 ⟨rfl, hb2⟩
  have K2 := Lib.hid ((Keeps.refl (fun _ => False) w).alloc (.cells #[.int .i64 0] 46) |>.then hb2)
  have S2 := Lib.hid (Blk.keeps (Blk.new w 46 #[.int .i64 0]) (.of_below (S := fun _ => False) hb2) id)
  clear hb2
  go_wp2_with fail
  go_loopw [4, 5] (fun l i wr => ∃ (k : Nat) (last : Int), k ≤ xs.length ∧ 0 ≤ last ∧ i = .int .i64 k ∧ l = .int .i64 last ∧ Blk wr w.heap.size 46 #[.int .i64 last] ∧ Keeps (fun _ => False) w wr) (fun _ i _ => xs.length - (intOf i).toNat)
  case atStart => exact ⟨0, 0, Nat.zero_le _, by omega, rfl, rfl, S2.out, K2.out⟩
  case round =>
    clear S2 K2
    obtain ⟨k, last, hk, hl0, rfl, rfl, hs, hkp⟩ := hrel
    have S := Lib.hid hs; have K := Lib.hid hkp; clear hs hkp
    by_cases hlt : k < xs.length
    · by_cases h40 : k < 40
      · obtain ⟨wo, rfl⟩ : ∃ wo, wo = wr := ⟨_, rfl⟩
        obtain ⟨ad, hA, hadb, hcell⟩ := (hr.out.keeps K.out (Nat.le_refl _) (fun _ _ h => h)).2 (by omega)
        subst hA
        have q := fun j (hj : j < 5) => (hcell (k * 5 + j) _ ((flatMap_at xs VCall10.cells 5 (fun _ => rfl) k j hlt hj).trans (List.getElem?_eq_getElem (by exact hj))))
        have q0 := q 0 (by omega); have q1 := q 1 (by omega); have q2 := q 2 (by omega); have q3 := q 3 (by omega); have q4 := q 4 (by omega)
        simp only [VCall10.cells, List.getElem_cons_zero, List.getElem_cons_succ, Nat.add_zero] at q0 q1 q2 q3 q4
        have hok := HX.out xs[k] (List.getElem_mem _)
        generalize xs[k] = x at *
        obtain ⟨kd, t, lo, hi, ya, yc, ys⟩ := x
        obtain ⟨_, wt, _, _, hsl, hyl, hym, hyx⟩ := hok
        simp only at q0 q1 q2 q3 q4 hsl hyl hym hyx wt
        replace q1 := cell_in _ 1 (by omega) q1; replace q2 := cell_in _ 2 (by omega) q2; replace q3 := cell_in _ 3 (by omega) q3; replace q4 := cell_in _ 4 (by omega) q4
        clear q hcell
        have HL := Lib.hid (hsl.reads (n := ys.length) (by simp) (by decide))
        obtain ⟨m, zs, hzm, hm50, HZ, hmz⟩ : ∃ (m : Nat) (zs : List Int), zs.length = m ∧ m ≤ 50 ∧ Hid (Reads w w.heap.size 1 ya m (zs.map (Value.int .i64))) ∧ ((50 < ys.length ∧ m = 50) ∨ (ys.length ≤ 50 ∧ m = ys.length)) := by
          by_cases h : 50 < ys.length
          · exact ⟨50, ys.take 50, by rw [List.length_take]; omega, by omega, by have := HL.out.take_ (k := 50) (by omega); rwa [← List.map_take] at this, .inl ⟨h, rfl⟩⟩
          · exact ⟨ys.length, ys, rfl, by omega, HL.out, .inr ⟨by omega, rfl⟩⟩
        have HYC : Hid (ys.length ≤ yc ∧ yc ≤ maxLen) := ⟨hyl, hym⟩
        have hwt := i64_wf wt
        have HM := Lib.hid hzm
        clear hsl HL hzm hyx wt hym
        have hymx : ys.length ≤ 9223372036854775807 := by have := HYC.out; unfold maxLen at this; omega
        by_cases hkd : kd = 0
        · have b0 : (kd != 0) = false := by simpa using hkd
          clear hkd
          obtain ⟨n, er, l, hn⟩ := next_cases last lo hi zs
          have HN := Lib.hid hn
          obtain ⟨T, hT⟩ : ∃ T, tops (max last hi) zs = T := ⟨_, rfl⟩
          unfold NextIs at hn
          rw [hT] at hn
          have hTl : last ≤ T ∧ hi ≤ T := by have := tops_ge (max last hi) zs; omega
          have HTm := Lib.hid (tops_mem (max last hi) zs)
          rw [hT] at HTm
          have HT := Lib.hid hT; clear hT
          obtain ⟨hTl1, hTl2⟩ := hTl
          rcases hmz with ⟨h50, rfl⟩ | ⟨h50, rfl⟩
          all_goals
            go_wp2_with fail
            clear q0 q1 q2 q3 q4 b0
            refine (next_any_n w.heap.size lo hi ya yc _ HM.out (S.out.alloc _) (((HZ.out.keeps (K.out.alloc _) (Nat.le_refl _) (fun _ _ h => h)).more (K.out.alloc _).size)) (by omega) HN.out).mono ?_
            rintro e w3 ⟨rfl, hs3, hk3⟩
            have S3 := Lib.hid hs3
            have hgo := S.out.lt
            have B3 := Lib.hid ((Blk.new wo 30 _).keeps hk3 (show ¬ wo.heap.size = w.heap.size by omega))
            have K3 := Lib.hid ((K.out.alloc _).base hk3 (fun i h1 h2 => by omega))
            clear hs3 hk3
            have c3 := B3.out.cell 3
            have c4 := B3.out.cell 4
            simp at c3 c4
            rcases hn with ⟨h3, rfl, rfl, rfl⟩ | ⟨h3, h4, rfl, rfl, rfl⟩ | ⟨⟨h5, h6, h7⟩, h4, rfl, rfl, rfl⟩
          all_goals
            try (go_wp2_with fail; go_roundw; (case rel => exact ⟨k + 1, last, by omega, hl0, by go_num, rfl, S3.out, K3.out⟩); (case measure => simp [intOf]; omega); done)
          all_goals
            go_wp2_with fail
            go_loop [9] (fun i => ∃ j : Nat, j ≤ zs.length ∧ i = .int .i64 j) (fun i => zs.length - (intOf i).toNat)
            case atStart => exact ⟨0, Nat.zero_le _, rfl⟩
            case round =>
              obtain ⟨j, hj, rfl⟩ := hrel
              have hml2 : zs.length ≤ 50 := by have := HM.out; omega
              have hlen := HM.out
              by_cases hlt2 : j < zs.length
              · obtain ⟨ad2, u, rfl, hadb2, hx2, hcell2⟩ := (HZ.out.keeps K3.out (Nat.le_refl _) (fun _ _ h => h)).at_ (k := j) (by have := HM.out; omega)
                obtain rfl : Value.int .i64 zs[j] = u := by simpa [hlt2] using hx2
                clear hx2
                have hz := HTm.out zs[j] (List.getElem_mem _)
                have hdz : decide (T + 1 ≤ zs[j]) = false := by simp; omega
                try have hdl : decide ((j : Int) < 50) = true := by simp; omega
                try have hdl2 : j < ys.length := by omega
                have HLN := Lib.hid hlen; clear hlen
                go_wp2_with fail
                go_round
                case rel => exact ⟨j + 1, by omega, by go_num⟩
                case measure => simp [intOf]; omega
              · try have hdl : decide ((j : Int) < 50) = false := by simp; omega
                try have hdl2 : decide (j < ys.length) = false := by simp; omega
                have HLN := Lib.hid hlen; clear hlen
                go_wp2_with fail
                go_roundw
                case rel => exact ⟨k + 1, T + 1, by omega, by omega, by go_num, rfl, S3.out, K3.out⟩
                case measure => simp [intOf]; omega
        · have b0 : (kd != 0) = true := by simpa using hkd
          clear hkd
          obtain ⟨kr, l, HK, hk2⟩ : ∃ kr l : Int, Hid (KeepIs last t kr l) ∧ ((kr = 0 ∧ last < t ∧ l = t) ∨ (kr = 0 ∧ t ≤ last ∧ last = l) ∨ (kr = 100 ∧ last = l)) := by
            by_cases h : 1 ≤ t ∧ t ≤ 1125899906842624
            · by_cases h2 : last < t
              · exact ⟨0, t, .inl ⟨h.1, h.2, rfl, by omega⟩, .inl ⟨rfl, h2, rfl⟩⟩
              · exact ⟨0, last, .inl ⟨h.1, h.2, rfl, by omega⟩, .inr (.inl ⟨rfl, by omega, rfl⟩)⟩
            · exact ⟨100, last, .inr ⟨by omega, rfl, rfl⟩, .inr (.inr ⟨rfl, rfl⟩)⟩
          rcases hmz with ⟨h50, rfl⟩ | ⟨h50, rfl⟩
          all_goals
            go_wp2_with fail
            clear q0 q1 q2 q3 q4 b0
            refine (keep_any w.heap.size t _ (S.out.alloc _) HK.out).mono ?_
            rintro e w3 ⟨rfl, hs3, hk3⟩
            have S3 := Lib.hid hs3
            have hgo := S.out.lt
            have B3 := Lib.hid ((Blk.new wo 30 _).keeps hk3 (show ¬ wo.heap.size = w.heap.size by omega))
            have K3 := Lib.hid ((K.out.alloc _).base hk3 (fun i h1 h2 => by omega))
            clear hs3 hk3
            have c1 := B3.out.cell 1
            simp at c1
            rcases hk2 with ⟨rfl, h2, rfl⟩ | ⟨rfl, h2, rfl⟩ | ⟨rfl, rfl⟩
          all_goals
            try have hdl : decide (last < t) = false := by simp; omega
            go_wp2_with fail
            go_roundw
            case measure => simp [intOf]; omega
            case rel => first | exact ⟨k + 1, last, by omega, hl0, by go_num, rfl, S3.out, K3.out⟩ | exact ⟨k + 1, _, by omega, by omega, by go_num, rfl, S3.out, K3.out⟩
      · have hd : decide ((k : Int) < 40) = false := by simp; omega
        go_wp2_with (go_at_call 13; go_must (refine (last_any w.heap.size last _ S.out).mono ?_); rintro e w5 ⟨rfl, rfl⟩)
        go_ret
        exact ⟨by simp, K.out.below⟩
    · have hd : decide (k < xs.length) = false := by simp; omega
      go_wp2_with (go_at_call 13; go_must (refine (last_any w.heap.size last _ S.out).mono ?_); rintro e w5 ⟨rfl, rfl⟩)
      go_ret
      exact ⟨by simp, K.out.below⟩
end Go.Proofs.Ytkjlhhdenebbiaa
