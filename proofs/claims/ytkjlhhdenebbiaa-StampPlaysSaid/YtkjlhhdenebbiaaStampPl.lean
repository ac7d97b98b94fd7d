/- StampPlays: the walk. -/
import Derived.Test.YtkjlhhdenebbiaaStampG
import Derived.Test.YtkjlhhdenebbiaaStampB
import Derived.Test.YtkjlhhdenebbiaaWordB
import Derived.Test.YtkjlhhdenebbiaaOpen10
import Derived.Test.YtkjlhhdenebbiaaStampI
import Derived.Deep.RegionHeld3
set_option linter.unusedSimpArgs false
set_option linter.unusedVariables false
namespace Go.Proofs.Ytkjlhhdenebbiaa
open Go.RowKit
attribute [local go_sem ↓] Go.wp_at_zero Go.wp_at_succ
theorem below_ks {w a b : World} (h : Below w.heap.size w a) (k : Keeps (· = w.heap.size) a b) : Below w.heap.size w b :=
  ⟨k.os.trans h.os, k.tape.trans h.tape, k.output.trans h.output, Nat.le_trans h.size k.size, fun i hi => (k.block i (Nat.lt_of_lt_of_le hi h.size) (by omega)).trans (h.block i hi)⟩
theorem mlOf_len (L : List Int) (n er : Int) : (mlOf L n er).length ≤ L.length + 1 := by unfold mlOf; split <;> simp
theorem mlKeep_len (L : List Int) (n er : Int) : (mlKeep L n er).length ≤ L.length + 1 := by unfold mlKeep; split <;> simp
theorem nextIs_ge {last lo hi n er l : Int} {xs : List Int} (h : NextIs last lo hi xs n er l) (h0 : 0 ≤ last) : 0 ≤ l := by
  have := tops_ge (max last hi) xs
  rcases h with ⟨_, _, _, h⟩ | ⟨_, _, _, _, h⟩ | ⟨_, _, _, _, h⟩ <;> omega
theorem keepIs_ge {last t kr l : Int} (h : KeepIs last t kr l) (h0 : 0 ≤ last) : 0 ≤ l := by
  rcases h with ⟨_, _, _, h⟩ | ⟨_, _, h⟩ <;> omega
set_option maxRecDepth 100000 in
set_option maxHeartbeats 4000000 in
theorem stampPlays_walk (w : World) (A : Option Addr) (c : Nat) (xs : List VCall10) (hr : SlOk w 5 A c (xs.flatMap VCall10.cells)) (hc : xs.length ≤ c) (hm : c ≤ maxLen) (hx : ∀ u_ ∈ xs, VCall10.ok w u_) :
    Calls Try.prog 3 #[.slice A xs.length c] w fun e w' => e = .returned (.bool true) ∧ Below w.heap.size w w' := by
  have hr := Lib.hid (hr.reads (n := xs.length) (flatMap_len _ _ 5 (fun _ => rfl)) (by decide))
  have hml : xs.length ≤ 9223372036854775807 := by unfold maxLen at hm; omega
  have HX := Lib.hid hx
  obtain ⟨i0, hi0, hz0, hz1, hz2⟩ := info_parts info_i64
  clear hm hx
  go_enter Try.func3, Try.ntmps3
  go_wp2_with (go_at_call 7; refine (new_any _).mono ?_; rintro e w1 ⟨rfl, rfl⟩)
  refine (awake10_any _).mono ?_
  rintro e w2 ⟨rfl, hb2⟩
  have S2 := Lib.hid (Blk.keeps (Blk.new w 46 #[.int .i64 0]) (.of_below (S := fun _ => False) hb2) id)
  have H2 : Hid (Below w.heap.size w w2) := Lib.hid (below_then (w := w) (by repeat (first | exact Below.refl _ _ | refine below_alloc_ ?_ _ | refine Below.drew ?_)) hb2)
  clear hb2
  go_wp2_with fail
  go_loopw [4, 5] (fun sm i wr => ∃ (k : Nat) (last : Int) (L : List Int) (B : Option Addr) (cap : Nat), k ≤ xs.length ∧ k ≤ 40 ∧ i = .int .i64 k ∧ sm = .slice B L.length cap ∧ L.length ≤ k ∧ 0 ≤ last ∧ Hid (tops 0 L = last) ∧ Hid (Blk wr w.heap.size 46 #[.int .i64 last]) ∧ Hid (Reads wr wr.heap.size 1 B L.length (L.map (Value.int .i64))) ∧ Hid (∀ a, B = some a → w.heap.size < a.block) ∧ Hid (Below w.heap.size w wr)) (fun _ i _ => xs.length - (intOf i).toNat)
  case atStart => exact ⟨0, 0, [], none, 0, Nat.zero_le _, by omega, rfl, rfl, Nat.zero_le _, by omega, Lib.hid rfl, S2, Lib.hid (reads_nil _ _), Lib.hid (fun _ h => by cases h), H2⟩
  case round =>
    clear S2 H2
    obtain ⟨k, last, L, B, cap, hk, hk4, rfl, rfl, hL, hl0, TL, S, TK, BF, HB⟩ := hrel
    obtain ⟨wo, rfl⟩ : ∃ wo, wo = wr := ⟨_, rfl⟩
    by_cases hlt : k < xs.length
    · by_cases h40 : k < 40
      · obtain ⟨ad, hA, hadb, hcell⟩ := (hr.out.kp (S := fun _ => False) (.of_below HB.out) (fun _ _ h => h)).2 (by omega)
        subst hA
        have q := fun j (hj : j < 5) => (hcell (k * 5 + j) _ ((flatMap_at xs VCall10.cells 5 (fun _ => rfl) k j hlt hj).trans (List.getElem?_eq_getElem (by exact hj))))
        have q0 := q 0 (by omega); have q1 := q 1 (by omega); have q2 := q 2 (by omega); have q3 := q 3 (by omega); have q4 := q 4 (by omega)
        simp only [VCall10.cells, List.getElem_cons_zero, List.getElem_cons_succ, Nat.add_zero] at q0 q1 q2 q3 q4
        have hok := HX.out xs[k] (List.getElem_mem _)
        generalize xs[k] = x at *
        obtain ⟨kd, t, lo, hi, ya, yc, ys⟩ := x
        obtain ⟨_, wt, _, _, hsl, hyl, hym, hyx⟩ := hok
        simp only at q0 q1 q2 q3 q4 hsl hyl hym hyx wt
        replace q1 := cell_in _ 1 (by omega) q1; replace q2 := cell_in _ 2 (by omega) q2; replace q3 := cell_in _ 3 (by omega) q3; replace q4 := cell_in _ 4 (by omega) q4
        clear q hcell
        have HSL := Lib.hid (hsl.reads (n := ys.length) (by simp) (by decide))
        obtain ⟨m, zs, hzm, hm50, HZ, hmz⟩ : ∃ (m : Nat) (zs : List Int), zs.length = m ∧ m ≤ 50 ∧ Hid (Reads w w.heap.size 1 ya m (zs.map (Value.int .i64))) ∧ ((50 < ys.length ∧ m = 50) ∨ (ys.length ≤ 50 ∧ m = ys.length)) := by
          by_cases h : 50 < ys.length
          · exact ⟨50, ys.take 50, by rw [List.length_take]; omega, by omega, by have := HSL.out.take_ (k := 50) (by omega); rwa [← List.map_take] at this, .inl ⟨h, rfl⟩⟩
          · exact ⟨ys.length, ys, rfl, by omega, HSL.out, .inr ⟨by omega, rfl⟩⟩
        have HYC : Hid (ys.length ≤ yc ∧ yc ≤ maxLen) := ⟨hyl, hym⟩
        have hwt := i64_wf wt
        have HM := Lib.hid hzm
        clear hsl HSL hzm hyx wt hym
        have hymx : ys.length ≤ 9223372036854775807 := by have := HYC.out; unfold maxLen at this; omega
        have gl := S.out.lt
        by_cases hkd : kd = 0
        · subst hkd
          obtain ⟨n, er, l, hn⟩ := next_cases last lo hi zs
          have hl0' := nextIs_ge hn hl0
          have HN := Lib.hid hn
          clear hn
          rcases hmz with ⟨h50, rfl⟩ | ⟨h50, rfl⟩
          · have X0 := Lib.hid (Blk.new wo 30 #[.int .i64 0, .int .i64 t, .int .i64 lo, .int .i64 hi, .slice ya 50 yc])
            have ZR := Lib.hid (show Reads wo wo.heap.size 1 ya 50 (zs.map (Value.int .i64)) from (HZ.out.kp (S := fun _ => False) (.of_below HB.out) (fun _ _ h => h)))
            go_wp2_with fail
            go_region_held3 (fun w' => w'.cell? ⟨wo.heap.size, 2, none⟩ = some (.int .i64 lo) ∧ w'.cell? ⟨wo.heap.size, 3, none⟩ = some (.int .i64 hi) ∧ w'.cell? ⟨wo.heap.size, 4, none⟩ = some (.slice ya 50 yc)) (first | exact ⟨x2, x3, x4⟩ | go_keep)
              (first
                | ((refine step_append_any (((wo.alloc (.cells #[.int .i64 0, .int .i64 t, .int .i64 lo, .int .i64 hi, .slice ya 50 yc] 30)).alloc (.cells #[] 2)).drew) (by rfl) (.tmp 50) (.tmp 52) 26 (by rfl) (wo.heap.size + 1) 2 i0 _ 1 8 Try.underlying26 hi0 hz0 hz1 hz2 rfl (by decide) (.slice (some ⟨wo.heap.size + 1, 0, none⟩) 0 0) 0 [] (by rfl) (by repeat (first | with_reducible exact own_empty (by simp) (by simp) | with_reducible refine own_al ?_ _ | with_reducible refine own_dr ?_)) _ ya 50 yc (zs.map (Value.int .i64)) (by rfl) (by repeat (first | with_reducible exact ZR.out | with_reducible refine Reads.al ?_ _ | with_reducible refine Reads.dr ?_)) (one_ints zs) (by unfold maxLen; omega) (by omega) (by simp <;> omega) ?_);
                   intro v1 w1 ho1 hg1 hat1;
                   (simp only [Nat.zero_add, List.nil_append] at ho1);
                   have sh1 := own_shape ho1; obtain ⟨A1, c1, rfl, hrd, hblk⟩ := sh1;
                   have RD1 := Lib.hid hrd;
                   have X1 := Lib.hid (Blk.grown (g := wo.heap.size) (t := 30) (cs := #[.int .i64 0, .int .i64 t, .int .i64 lo, .int .i64 hi, .slice ya 50 yc]) (by repeat (first | with_reducible exact X0.out | with_reducible refine Blk.alloc ?_ _ | with_reducible refine Blk.drew ?_)) hg1 (by simp [Value.ownBlock] <;> omega));
                   have S1 := Lib.hid (Blk.grown (g := w.heap.size) (t := 46) (cs := #[.int .i64 last]) (by repeat (first | with_reducible exact S.out | with_reducible refine Blk.alloc ?_ _ | with_reducible refine Blk.drew ?_)) hg1 (by simp [Value.ownBlock] <;> omega));
                   have H1 : Hid (Below wo.heap.size wo w1) := Lib.hid (Below.grown (by repeat (first | with_reducible exact Below.refl _ _ | with_reducible refine below_alloc_ ?_ _ | with_reducible refine Below.drew ?_)) hg1 (by simp <;> omega) (fun k e => by simp [Value.ownBlock] at e; omega));
                   clear ho1 hg1 hat1 hrd hblk;
                   obtain ⟨x0, x1, x2, x3, x4⟩ := X1.out.c5;
                   have xl := X1.out.lt)
                | ((go_at_call 9; refine (next_any_n w.heap.size lo hi A1 c1 _ HM.out S1.out RD1.out (by omega) HN.out).mono ?_); rintro e w3 ⟨rfl, hs3, hk3⟩;
                   have S3 := Lib.hid hs3;
                   have X3 := Lib.hid (X1.out.keeps hk3 (by exact Nat.ne_of_gt gl));
                   have K3 := Lib.hid hk3;
                   clear hs3 hk3 x0 x1 x2 x3 x4 xl;
                   obtain ⟨x0, x1, x2, x3, x4⟩ := X3.out.c5;
                   have xl := X3.out.lt))
            have H3 : Hid (Below w.heap.size w w3) := Lib.hid (below_ks (below_then HB.out H1.out) K3.out)
            have TK3 : Hid (Reads w3 w3.heap.size 1 B L.length (L.map (Value.int .i64))) := Lib.hid (Reads.kp (Reads.kp (S := fun _ => False) TK.out (.of_below H1.out) (fun _ _ h => h)) K3.out (fun a ha h => absurd h (Nat.ne_of_gt (BF.out a ha))))
            have ZR3 : Hid (Reads w3 w3.heap.size 1 ya 50 (zs.map (Value.int .i64))) := Lib.hid (HZ.out.kp (S := fun _ => False) (.of_below H3.out) (fun _ _ h => h))
            have RN := Lib.hid (rnext_any B cap lo hi ya yc w3 rfl TK3.out (by omega) HM.out ZR3.out (by omega) TL.out HN.out)
            have sl3 := S3.out.lt
            go_wp2_with fail
            refine RN.out.1.mono ?_
            rintro e w4 ⟨B4, cap4, rfl, hr4, hb4, ha4⟩
            have S4 := Lib.hid (Blk.below S3.out hb4 S3.out.lt)
            have TK4 := Lib.hid hr4
            have BF4 : Hid (∀ a, B4 = some a → w.heap.size < a.block) := Lib.hid (fun a ha => by rcases ha4 a ha with h | h; exact BF.out a h; omega)
            have H4 : Hid (Below w.heap.size w w4) := Lib.hid (below_then H3.out hb4)
            have HL4 := mlOf_len L n er
            obtain ⟨L4, hL4⟩ : ∃ L4, mlOf L n er = L4 := ⟨_, rfl⟩
            have TL4 := Lib.hid RN.out.2
            rw [hL4] at TK4 HL4 TL4
            rw [hL4]
            clear hr4 hb4 ha4 x0 x1 x2 x3 x4 xl hL4
            go_wp2_with (first | (go_at_call 13; refine (last_any w.heap.size l _ S4.out).mono ?_; rintro e w5 ⟨rfl, rfl⟩) | (go_at_call 14; refine (rlast_any l B4 cap4 _ rfl (by omega) TK4.out TL4.out).mono ?_; rintro e w5 ⟨rfl, rfl⟩))
            go_roundw
            case rel => exact ⟨k + 1, l, L4, B4, cap4, by omega, by omega, by go_num, rfl, by omega, hl0', TL4, S4, TK4, BF4, H4⟩
            case measure => simp [intOf]; omega
          · have X0 := Lib.hid (Blk.new wo 30 #[.int .i64 0, .int .i64 t, .int .i64 lo, .int .i64 hi, .slice ya ys.length yc])
            have ZR := Lib.hid (show Reads wo wo.heap.size 1 ya ys.length (zs.map (Value.int .i64)) from (HZ.out.kp (S := fun _ => False) (.of_below HB.out) (fun _ _ h => h)))
            go_wp2_with fail
            go_region_held3 (fun w' => w'.cell? ⟨wo.heap.size, 2, none⟩ = some (.int .i64 lo) ∧ w'.cell? ⟨wo.heap.size, 3, none⟩ = some (.int .i64 hi) ∧ w'.cell? ⟨wo.heap.size, 4, none⟩ = some (.slice ya ys.length yc)) (first | exact ⟨x2, x3, x4⟩ | go_keep)
              (first
                | ((refine step_append_any (((wo.alloc (.cells #[.int .i64 0, .int .i64 t, .int .i64 lo, .int .i64 hi, .slice ya ys.length yc] 30)).alloc (.cells #[] 2)).drew) (by rfl) (.tmp 50) (.tmp 52) 26 (by rfl) (wo.heap.size + 1) 2 i0 _ 1 8 Try.underlying26 hi0 hz0 hz1 hz2 rfl (by decide) (.slice (some ⟨wo.heap.size + 1, 0, none⟩) 0 0) 0 [] (by rfl) (by repeat (first | with_reducible exact own_empty (by simp) (by simp) | with_reducible refine own_al ?_ _ | with_reducible refine own_dr ?_)) _ ya ys.length yc (zs.map (Value.int .i64)) (by rfl) (by repeat (first | with_reducible exact ZR.out | with_reducible refine Reads.al ?_ _ | with_reducible refine Reads.dr ?_)) (one_ints zs) (by unfold maxLen; omega) (by omega) (by simp <;> omega) ?_);
                   intro v1 w1 ho1 hg1 hat1;
                   (simp only [Nat.zero_add, List.nil_append] at ho1);
                   have sh1 := own_shape ho1; obtain ⟨A1, c1, rfl, hrd, hblk⟩ := sh1;
                   have RD1 := Lib.hid hrd;
                   have X1 := Lib.hid (Blk.grown (g := wo.heap.size) (t := 30) (cs := #[.int .i64 0, .int .i64 t, .int .i64 lo, .int .i64 hi, .slice ya ys.length yc]) (by repeat (first | with_reducible exact X0.out | with_reducible refine Blk.alloc ?_ _ | with_reducible refine Blk.drew ?_)) hg1 (by simp [Value.ownBlock] <;> omega));
                   have S1 := Lib.hid (Blk.grown (g := w.heap.size) (t := 46) (cs := #[.int .i64 last]) (by repeat (first | with_reducible exact S.out | with_reducible refine Blk.alloc ?_ _ | with_reducible refine Blk.drew ?_)) hg1 (by simp [Value.ownBlock] <;> omega));
                   have H1 : Hid (Below wo.heap.size wo w1) := Lib.hid (Below.grown (by repeat (first | with_reducible exact Below.refl _ _ | with_reducible refine below_alloc_ ?_ _ | with_reducible refine Below.drew ?_)) hg1 (by simp <;> omega) (fun k e => by simp [Value.ownBlock] at e; omega));
                   clear ho1 hg1 hat1 hrd hblk;
                   obtain ⟨x0, x1, x2, x3, x4⟩ := X1.out.c5;
                   have xl := X1.out.lt)
                | ((go_at_call 9; refine (next_any_n w.heap.size lo hi A1 c1 _ HM.out S1.out RD1.out (by omega) HN.out).mono ?_); rintro e w3 ⟨rfl, hs3, hk3⟩;
                   have S3 := Lib.hid hs3;
                   have X3 := Lib.hid (X1.out.keeps hk3 (by exact Nat.ne_of_gt gl));
                   have K3 := Lib.hid hk3;
                   clear hs3 hk3 x0 x1 x2 x3 x4 xl;
                   obtain ⟨x0, x1, x2, x3, x4⟩ := X3.out.c5;
                   have xl := X3.out.lt))
            have H3 : Hid (Below w.heap.size w w3) := Lib.hid (below_ks (below_then HB.out H1.out) K3.out)
            have TK3 : Hid (Reads w3 w3.heap.size 1 B L.length (L.map (Value.int .i64))) := Lib.hid (Reads.kp (Reads.kp (S := fun _ => False) TK.out (.of_below H1.out) (fun _ _ h => h)) K3.out (fun a ha h => absurd h (Nat.ne_of_gt (BF.out a ha))))
            have ZR3 : Hid (Reads w3 w3.heap.size 1 ya ys.length (zs.map (Value.int .i64))) := Lib.hid (HZ.out.kp (S := fun _ => False) (.of_below H3.out) (fun _ _ h => h))
            have RN := Lib.hid (rnext_any B cap lo hi ya yc w3 rfl TK3.out (by omega) HM.out ZR3.out (by omega) TL.out HN.out)
            have sl3 := S3.out.lt
            go_wp2_with fail
            refine RN.out.1.mono ?_
            rintro e w4 ⟨B4, cap4, rfl, hr4, hb4, ha4⟩
            have S4 := Lib.hid (Blk.below S3.out hb4 S3.out.lt)
            have TK4 := Lib.hid hr4
            have BF4 : Hid (∀ a, B4 = some a → w.heap.size < a.block) := Lib.hid (fun a ha => by rcases ha4 a ha with h | h; exact BF.out a h; omega)
            have H4 : Hid (Below w.heap.size w w4) := Lib.hid (below_then H3.out hb4)
            have HL4 := mlOf_len L n er
            obtain ⟨L4, hL4⟩ : ∃ L4, mlOf L n er = L4 := ⟨_, rfl⟩
            have TL4 := Lib.hid RN.out.2
            rw [hL4] at TK4 HL4 TL4
            rw [hL4]
            clear hr4 hb4 ha4 x0 x1 x2 x3 x4 xl hL4
            go_wp2_with (first | (go_at_call 13; refine (last_any w.heap.size l _ S4.out).mono ?_; rintro e w5 ⟨rfl, rfl⟩) | (go_at_call 14; refine (rlast_any l B4 cap4 _ rfl (by omega) TK4.out TL4.out).mono ?_; rintro e w5 ⟨rfl, rfl⟩))
            go_roundw
            case rel => exact ⟨k + 1, l, L4, B4, cap4, by omega, by omega, by go_num, rfl, by omega, hl0', TL4, S4, TK4, BF4, H4⟩
            case measure => simp [intOf]; omega
        · have b0 : (kd == 0) = false := by simpa using hkd
          clear hkd
          obtain ⟨kr, l, hk2⟩ : ∃ kr l : Int, KeepIs last t kr l := by
            by_cases h : 1 ≤ t ∧ t ≤ 1125899906842624
            · exact ⟨0, _, .inl ⟨h.1, h.2, rfl, rfl⟩⟩
            · exact ⟨100, last, .inr ⟨by omega, rfl, rfl⟩⟩
          have hl0' := keepIs_ge hk2 hl0
          have HK := Lib.hid hk2
          clear hk2
          rcases hmz with ⟨h50, rfl⟩ | ⟨h50, rfl⟩
          · have X0 := Lib.hid (Blk.new wo 30 #[.int .i64 kd, .int .i64 t, .int .i64 lo, .int .i64 hi, .slice ya 50 yc])
            have RK := Lib.hid (rkeep_any B cap t (wo.alloc (.cells #[.int .i64 kd, .int .i64 t, .int .i64 lo, .int .i64 hi, .slice ya 50 yc] 30)) rfl (Reads.al TK.out _) (by omega) TL.out HK.out)
            go_wp2_with fail
            refine RK.out.1.mono ?_
            rintro e w4 ⟨B4, cap4, rfl, hr4, hb4, ha4⟩
            have S4 := Lib.hid (Blk.below (S.out.alloc _) hb4 (S.out.alloc _).lt)
            have X4 := Lib.hid (Blk.below X0.out hb4 X0.out.lt)
            have TK4 := Lib.hid hr4
            have BF4 : Hid (∀ a, B4 = some a → w.heap.size < a.block) := Lib.hid (fun a ha => by rcases ha4 a ha with h | h; exact BF.out a h; simp at h; omega)
            have H4 : Hid (Below w.heap.size w w4) := Lib.hid (below_then (below_alloc_ HB.out _) hb4)
            have HL4 := mlKeep_len L t kr
            obtain ⟨L4, hL4⟩ : ∃ L4, mlKeep L t kr = L4 := ⟨_, rfl⟩
            have TL4 := Lib.hid RK.out.2
            rw [hL4] at TK4 HL4 TL4
            rw [hL4]
            clear hr4 hb4 ha4 hL4 q0 q1 q2 q3 q4
            obtain ⟨x0, x1, x2, x3, x4⟩ := X4.out.c5
            have xl := X4.out.lt; have sl4 := S4.out.lt
            go_wp2_with fail
            refine (keep_any w.heap.size t _ S4.out HK.out).mono ?_
            rintro e w5 ⟨rfl, hs5, hk5⟩
            have S5 := Lib.hid hs5
            have TK5 : Hid (Reads w5 w5.heap.size 1 B4 L4.length (L4.map (Value.int .i64))) := Lib.hid (Reads.kp TK4.out hk5 (fun a ha h => absurd h (Nat.ne_of_gt (BF4.out a ha))))
            have H5 : Hid (Below w.heap.size w w5) := Lib.hid (below_ks H4.out hk5)
            clear hs5 hk5 x0 x1 x2 x3 x4 xl
            go_wp2_with (first | (go_at_call 13; refine (last_any w.heap.size l _ S5.out).mono ?_; rintro e w6 ⟨rfl, rfl⟩) | (go_at_call 14; refine (rlast_any l B4 cap4 _ rfl (by omega) TK5.out TL4.out).mono ?_; rintro e w6 ⟨rfl, rfl⟩))
            go_roundw
            case rel => exact ⟨k + 1, l, L4, B4, cap4, by omega, by omega, by go_num, rfl, by omega, hl0', TL4, S5, TK5, BF4, H5⟩
            case measure => simp [intOf]; omega
          · have X0 := Lib.hid (Blk.new wo 30 #[.int .i64 kd, .int .i64 t, .int .i64 lo, .int .i64 hi, .slice ya ys.length yc])
            have RK := Lib.hid (rkeep_any B cap t (wo.alloc (.cells #[.int .i64 kd, .int .i64 t, .int .i64 lo, .int .i64 hi, .slice ya ys.length yc] 30)) rfl (Reads.al TK.out _) (by omega) TL.out HK.out)
            go_wp2_with fail
            refine RK.out.1.mono ?_
            rintro e w4 ⟨B4, cap4, rfl, hr4, hb4, ha4⟩
            have S4 := Lib.hid (Blk.below (S.out.alloc _) hb4 (S.out.alloc _).lt)
            have X4 := Lib.hid (Blk.below X0.out hb4 X0.out.lt)
            have TK4 := Lib.hid hr4
            have BF4 : Hid (∀ a, B4 = some a → w.heap.size < a.block) := Lib.hid (fun a ha => by rcases ha4 a ha with h | h; exact BF.out a h; simp at h; omega)
            have H4 : Hid (Below w.heap.size w w4) := Lib.hid (below_then (below_alloc_ HB.out _) hb4)
            have HL4 := mlKeep_len L t kr
            obtain ⟨L4, hL4⟩ : ∃ L4, mlKeep L t kr = L4 := ⟨_, rfl⟩
            have TL4 := Lib.hid RK.out.2
            rw [hL4] at TK4 HL4 TL4
            rw [hL4]
            clear hr4 hb4 ha4 hL4 q0 q1 q2 q3 q4
            obtain ⟨x0, x1, x2, x3, x4⟩ := X4.out.c5
            have xl := X4.out.lt; have sl4 := S4.out.lt
            go_wp2_with fail
            refine (keep_any w.heap.size t _ S4.out HK.out).mono ?_
            rintro e w5 ⟨rfl, hs5, hk5⟩
            have S5 := Lib.hid hs5
            have TK5 : Hid (Reads w5 w5.heap.size 1 B4 L4.length (L4.map (Value.int .i64))) := Lib.hid (Reads.kp TK4.out hk5 (fun a ha h => absurd h (Nat.ne_of_gt (BF4.out a ha))))
            have H5 : Hid (Below w.heap.size w w5) := Lib.hid (below_ks H4.out hk5)
            clear hs5 hk5 x0 x1 x2 x3 x4 xl
            go_wp2_with (first | (go_at_call 13; refine (last_any w.heap.size l _ S5.out).mono ?_; rintro e w6 ⟨rfl, rfl⟩) | (go_at_call 14; refine (rlast_any l B4 cap4 _ rfl (by omega) TK5.out TL4.out).mono ?_; rintro e w6 ⟨rfl, rfl⟩))
            go_roundw
            case rel => exact ⟨k + 1, l, L4, B4, cap4, by omega, by omega, by go_num, rfl, by omega, hl0', TL4, S5, TK5, BF4, H5⟩
            case measure => simp [intOf]; omega
      · have hd : decide ((k : Int) < 40) = false := by simp; omega
        go_wp2_with fail
        go_ret
        exact ⟨rfl, HB.out⟩
    · have hd : decide (k < xs.length) = false := by simp; omega
      go_wp2_with fail
      go_ret
      exact ⟨rfl, HB.out⟩
end Go.Proofs.Ytkjlhhdenebbiaa
