/- The law's own: total, made. -/
import Derived.Test.YtkfpopilkagedaaLgX
import Derived.Test.YtkfpopilkagedaaLgW
import Derived.Test.YtkfpopilkagedaaLgC
import Derived.Test.YtkfpopilkagedaaOpen14
set_option linter.unusedSimpArgs false
set_option linter.unusedVariables false
namespace Go.Proofs.Ytkfpopilkagedaa
open Go.RowKit Mo
set_option maxRecDepth 100000 in
set_option maxHeartbeats 2000000 in
theorem tot_any (A : Option Addr) (c : Nat) (xs : List (Int × Int)) (w : World) (ha : Reads w w.heap.size 2 A xs.length (xs.flatMap eC)) (hx : xs.length ≤ 100000) (hv : ∀ p ∈ xs, 0 ≤ p.2) (hs : sumA (xs.map Prod.snd) ≤ 9000000000000000000) :
    Calls Try.prog 11 #[.slice A xs.length c] w fun e w' => e = .returned (.int .i64 (sumA (xs.map Prod.snd))) ∧ w = w' := by
  have HA := Lib.hid ha
  have HT := Lib.hid (fun k => sum_take_le (xs.map Prod.snd) (fun x h => by obtain ⟨p, hp, rfl⟩ := List.mem_map.1 h; exact hv p hp) k)
  obtain ⟨S, hS⟩ : ∃ S, sumA (xs.map Prod.snd) = S := ⟨_, rfl⟩
  rw [hS] at hs ⊢
  have HS := Lib.hid hS
  clear ha hv hS
  go_enter Try.func11, Try.ntmps11
  go_wp2_with fail
  go_loop [3, 4] (fun o s => ∃ (k : Nat) (T : Int), k ≤ xs.length ∧ s = .int .i64 k ∧ o = .int .i64 T ∧ 0 ≤ T ∧ T ≤ S ∧ Hid (sumA ((xs.map Prod.snd).take k) = T)) (fun _ s => xs.length - (intOf s).toNat)
  case atStart => exact ⟨0, 0, Nat.zero_le _, rfl, rfl, Int.le_refl _, by have := HT.out 0; rw [HS.out] at this; omega, Lib.hid (by simp [sumA])⟩
  case round =>
    obtain ⟨k, T, hk, rfl, rfl, t0, t1, HK⟩ := hrel
    by_cases hlt : k < xs.length
    · have hd : decide ((k : Int) < (xs.length : Int)) = true := by simp; omega
      obtain ⟨ad, hA, hadb, hcell⟩ := HA.out.2 (by omega)
      subst hA
      obtain ⟨q0, q1⟩ := ents_at (B := 0) (n := 0) hcell k hlt
      replace q1 := cell_in _ 1 (by omega) q1
      have hT := sumA_take (xs.map Prod.snd) k (by simpa using hlt)
      rw [HK.out, List.getElem_map] at hT
      have hb := (HT.out (k + 1)).2
      rw [HS.out] at hb
      have hb0 := (HT.out (k + 1)).1
      clear hcell
      generalize xs[k] = x at *
      obtain ⟨x1, x2⟩ := x
      simp only at q0 q1 hT
      rw [hT] at hb hb0
      have HN := Lib.hid hT
      clear hT
      go_wp2_with fail
      go_round
      case rel => exact ⟨k + 1, T + x2, by omega, by go_num, rfl, hb0, hb, HN⟩
      case measure => simp [intOf]; omega
    · have hd : decide ((k : Int) < (xs.length : Int)) = false := by simp; omega
      have e : T = S := by
        have hk9 : k = xs.length := by omega
        have h := HK.out
        rw [hk9, List.take_of_length_le (by simp), HS.out] at h
        exact h.symm
      have E := Lib.hid e
      clear e
      go_wp2_with fail
      go_ret
      exact ⟨by rw [E.out]; rfl, rfl⟩
theorem ops_at {W : World} {ad : Addr} {xs : List VOp14} (h : ∀ j u, (xs.flatMap VOp14.cells)[j]? = some u → W.cell? (ad.add j) = some u) (k : Nat) (hk : k < xs.length) :
    W.cell? (ad.add (k * 4)) = some (.int .i64 xs[k].kd) ∧ W.cell? ⟨(ad.add (k * 4)).block, (ad.add (k * 4)).off + 1, none⟩ = some (.int .i64 xs[k].fr) ∧ W.cell? ⟨(ad.add (k * 4)).block, (ad.add (k * 4)).off + 2, none⟩ = some (.int .i64 xs[k].too) ∧ W.cell? ⟨(ad.add (k * 4)).block, (ad.add (k * 4)).off + 3, none⟩ = some (.int .i64 xs[k].am) := by
  have q := fun j (hj : j < 4) => (h (k * 4 + j) _ ((flatMap_at xs VOp14.cells 4 (fun _ => rfl) k j hk hj).trans (List.getElem?_eq_getElem (by exact hj))))
  have q0 := q 0 (by omega); have q1 := q 1 (by omega); have q2 := q 2 (by omega); have q3 := q 3 (by omega)
  simp only [VOp14.cells, List.getElem_cons_zero, List.getElem_cons_succ, Nat.add_zero] at q0 q1 q2 q3
  exact ⟨q0, cell_in _ 1 (by omega) q1, cell_in _ 2 (by omega) q2, cell_in _ 3 (by omega) q3⟩
/-- a book that was made by at most 40 calls -/
def Made (w : World) (r : Nat) (e : Ending) (w' : World) : Prop := ∃ b m f N, e = .returned (.tuple #[.pointer (some ⟨b, 0, none⟩), .int .i64 N]) ∧ w.heap.size ≤ b ∧ w.heap.size ≤ m ∧ FOk f 40 ∧ tot f = N ∧ 0 ≤ N ∧ N ≤ 40000000000000000 ∧ Bk w' b r m 80 f ∧ Below w.heap.size w w'
theorem made_bad (r : Nat) (A : Option Addr) (n c : Nat) (w : World) (hr : r < 18446744073709551616) (h : rateOk r = false) : Calls Try.prog 8 #[.float .f64 r, .slice A n c] w fun e w' => e = .returned (.tuple #[.pointer none, .int .i64 0]) ∧ w = w' := by
  have HK := Lib.hid h; clear h
  go_enter Try.func8, Try.ntmps8
  go_wp2_with (go_at_call 12; with_reducible refine (new_bad r _ hr HK.out).mono ?_; rintro e w1 ⟨rfl, rfl⟩)
  go_ret2
  exact ⟨rfl, rfl⟩
set_option maxRecDepth 100000 in
set_option maxHeartbeats 4000000 in
theorem made_ok (r : Nat) (A : Option Addr) (c : Nat) (xs : List VOp14) (w : World) (ha : Reads w w.heap.size 4 A xs.length (xs.flatMap VOp14.cells)) (hx : ∀ u ∈ xs, VOp14.ok w u) (hm : xs.length ≤ 9223372036854775807) (hr : r < 18446744073709551616) (h : rateOk r = true) :
    Calls Try.prog 8 #[.float .f64 r, .slice A xs.length c] w (Made w r) := by
  have HK := Lib.hid h
  have HA := Lib.hid ha; have HX := Lib.hid hx
  clear h ha hx
  go_enter Try.func8, Try.ntmps8
  go_wp2_with (go_at_call 12; with_reducible refine (new_ok r _ hr HK.out).mono ?_; rintro e w1 ⟨rfl, rfl⟩)
  go_loopw [8, 9] (fun sn si wr => ∃ (k : Nat) (f : Int → Option (Int × Int)) (N : Int), k ≤ xs.length ∧ k ≤ 40 ∧ si = .int .i64 k ∧ sn = .int .i64 N ∧ 0 ≤ N ∧ N ≤ k * 1000000000000000 ∧ Hid (FOk f k) ∧ Hid (tot f = N) ∧ Hid (Bk wr (w.heap.size + 1) r w.heap.size (2 * k) f) ∧ Hid (Below w.heap.size w wr)) (fun _ si _ => xs.length - (intOf si).toNat)
  case atStart => exact ⟨0, _, 0, Nat.zero_le _, by omega, rfl, rfl, by omega, by omega, Lib.hid (FOk.nil _), Lib.hid tot_nil, Lib.hid (bk_new r w), Lib.hid (by repeat (first | exact Below.refl _ _ | refine below_alloc_ ?_ _ | refine Below.drew ?_))⟩
  case round =>
    obtain ⟨k, f, N, hk, hk4, rfl, rfl, n0, n1, HF, HT, HB, HW⟩ := hrel
    by_cases hlt : k < xs.length
    · have hd : decide ((k : Int) < (xs.length : Int)) = true := by simp; omega
      by_cases h40 : k < 40
      · have hd4 : decide ((k : Int) < 40) = true := by simp; omega
        obtain ⟨ad, hA, hadb, hcell⟩ := (HA.out.below HW.out).2 (by omega)
        subst hA
        obtain ⟨q0, q1, q2, q3⟩ := ops_at hcell k hlt
        obtain ⟨V, E, f', hO⟩ := do_of f r xs[k].kd xs[k].fr xs[k].too xs[k].am
        obtain ⟨v0, v1, v2, v3⟩ := HX.out xs[k] (List.getElem_mem hlt)
        have HO := Lib.hid hO
        clear hcell hO
        have HOK := Lib.hid (HO.out.ok HK.out HF.out (by omega))
        have HTT := Lib.hid (HO.out.tot)
        have HAM := Lib.hid (show E = 0 → xs[k].kd = 0 → 0 ≤ xs[k].am ∧ xs[k].am ≤ 1000000000000000 from fun e h => by subst e; exact HO.out.amt h)
        generalize xs[k] = x at *
        obtain ⟨kd, fr, too, am⟩ := x
        simp only at q0 q1 q2 q3 v0 v1 v2 v3 HO HOK HTT HAM
        obtain ⟨am0, am1⟩ := i64_wf v3
        have hq : k + 1 ≤ 40 := by omega
        rcases (show (E ≠ 0) ∨ (E = 0 ∧ kd ≠ 0) ∨ (E = 0 ∧ kd = 0) by omega) with he | ⟨he, hkd⟩ | ⟨he, hkd⟩
        · have b0 : (E == 0) = false := by simpa using he
          have ht := HTT.out
          rw [if_neg (fun h => he h.1), HT.out, Int.add_zero] at ht
          have HN := Lib.hid ht
          clear he ht
          have hpb : (ad.add (k * 4)).block < w.heap.size := by rw [block_of_add]; exact hadb
          go_wp2_with (go_at_call 19; with_reducible refine (does_any (w.heap.size + 1) r w.heap.size (2 * k) f _ _ _ _ V _ k f' _ HB.out HF.out (by omega) v1 v2 v3 HK.out hr (by simp only [maxLen]; omega) HO.out).mono ?_; rintro e w2 ⟨rfl, hb2, hk2⟩; have HB2 := Lib.hid (Bk.mono hb2 (show 2 * k + 2 ≤ 2 * (k + 1) by omega)); have HW2 := Lib.hid (below_kp HW.out hk2 (Nat.le_refl _)); have z0 := keep_cell q0 hk2 (Nat.ne_of_lt hpb); have z3 := keep_cell q3 hk2 (Nat.ne_of_lt hpb); clear hb2 hk2)
          go_wp2_with fail
          go_roundw
          case rel => exact ⟨k + 1, f', N, by omega, by omega, by go_num, rfl, n0, by omega, Lib.hid (HOK.out.mono (by omega)), HN, HB2, HW2⟩
          case measure => simp [intOf]; omega
        · subst he
          have b0 : (kd == 0) = false := by simpa using hkd
          have ht := HTT.out
          rw [if_neg (fun h => hkd h.2), HT.out, Int.add_zero] at ht
          have HN := Lib.hid ht
          clear hkd ht
          have hpb : (ad.add (k * 4)).block < w.heap.size := by rw [block_of_add]; exact hadb
          go_wp2_with (go_at_call 19; with_reducible refine (does_any (w.heap.size + 1) r w.heap.size (2 * k) f _ _ _ _ V _ k f' _ HB.out HF.out (by omega) v1 v2 v3 HK.out hr (by simp only [maxLen]; omega) HO.out).mono ?_; rintro e w2 ⟨rfl, hb2, hk2⟩; have HB2 := Lib.hid (Bk.mono hb2 (show 2 * k + 2 ≤ 2 * (k + 1) by omega)); have HW2 := Lib.hid (below_kp HW.out hk2 (Nat.le_refl _)); have z0 := keep_cell q0 hk2 (Nat.ne_of_lt hpb); have z3 := keep_cell q3 hk2 (Nat.ne_of_lt hpb); clear hb2 hk2)
          go_wp2_with fail
          go_roundw
          case rel => exact ⟨k + 1, f', N, by omega, by omega, by go_num, rfl, n0, by omega, Lib.hid (HOK.out.mono (by omega)), HN, HB2, HW2⟩
          case measure => simp [intOf]; omega
        · subst he; subst hkd
          have ht := HTT.out
          rw [if_pos ⟨rfl, rfl⟩, HT.out] at ht
          have HN := Lib.hid ht
          obtain ⟨a0, a1⟩ := HAM.out rfl rfl
          clear ht
          have hpb : (ad.add (k * 4)).block < w.heap.size := by rw [block_of_add]; exact hadb
          go_wp2_with (go_at_call 19; with_reducible refine (does_any (w.heap.size + 1) r w.heap.size (2 * k) f _ _ _ _ V _ k f' _ HB.out HF.out (by omega) v1 v2 v3 HK.out hr (by simp only [maxLen]; omega) HO.out).mono ?_; rintro e w2 ⟨rfl, hb2, hk2⟩; have HB2 := Lib.hid (Bk.mono hb2 (show 2 * k + 2 ≤ 2 * (k + 1) by omega)); have HW2 := Lib.hid (below_kp HW.out hk2 (Nat.le_refl _)); have z0 := keep_cell q0 hk2 (Nat.ne_of_lt hpb); have z3 := keep_cell q3 hk2 (Nat.ne_of_lt hpb); clear hb2 hk2)
          go_wp2_with fail
          go_roundw
          case rel => exact ⟨k + 1, f', N + am, by omega, by omega, by go_num, rfl, by omega, by omega, Lib.hid (HOK.out.mono (by omega)), HN, HB2, HW2⟩
          case measure => simp [intOf]; omega
      · have hd4 : decide ((k : Int) < 40) = false := by simp; omega
        go_wp2_with fail
        go_ret2
        exact ⟨w.heap.size + 1, w.heap.size, f, N, rfl, Nat.le_succ _, Nat.le_refl _, HF.out.mono (by omega), HT.out, n0, by omega, HB.out.mono (by omega), HW.out⟩
    · have hd : decide ((k : Int) < (xs.length : Int)) = false := by simp; omega
      have hd' : decide (k < xs.length) = false := by simp; omega
      go_wp2_with fail
      go_ret2
      exact ⟨w.heap.size + 1, w.heap.size, f, N, rfl, Nat.le_succ _, Nat.le_refl _, HF.out.mono (by omega), HT.out, n0, by omega, HB.out.mono (by omega), HW.out⟩
end Go.Proofs.Ytkfpopilkagedaa
