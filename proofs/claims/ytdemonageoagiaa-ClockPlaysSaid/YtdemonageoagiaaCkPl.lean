/- ClockPlays: the walk. -/
import Derived.Test.YtdemonageoagiaaCkQ7
import Derived.Test.YtdemonageoagiaaCkH
import Derived.Test.YtdemonageoagiaaOpen06
import Derived.LoopTactic
import Derived.Deep.DrawnRows
set_option linter.unusedSimpArgs false
set_option linter.unusedVariables false
namespace Go.Proofs.Ytdemonageoagiaa
open Go.RowKit Mo
attribute [local go_sem] run_store_float
attribute [local go_sem ↓] Go.wp_at_zero Go.wp_at_succ
theorem keeps_two (w : World) (g : Nat) (u v : Value) : Keeps (· = g) w ((w.setCell ⟨g, 0, none⟩ u).setCell ⟨g, 1, none⟩ v) :=
  Keeps.set_ (S := (· = g)) (Keeps.set_ (S := (· = g)) (Keeps.refl _ _) (Or.inl rfl) _) (Or.inl rfl) _
theorem ckSet_rt (c : Ck) (h t e : Int) : (ckSet c h t e).rt = c.rt := by unfold ckSet; split <;> rfl
theorem ckNow_rt (c : Ck) (h : Int) : (ckNow c h).rt = c.rt := by unfold ckNow; split <;> rfl
theorem tkSet_len (k : Ck) (L : List Tk) (h t e : Int) : (tkSet k L h t e).length ≤ L.length + 1 := by unfold tkSet; split <;> simp
theorem tkNow_len (k : Ck) (L : List Tk) (h : Int) : (tkNow k L h).length ≤ L.length + 1 := by unfold tkNow; split <;> simp
theorem tellsSet {k : Ck} {L : List Tk} (T : Tells k L) (h t e : Int) : Tells (ckSet k h t e) (tkSet k L h t e) := by
  unfold tkSet
  by_cases hE : ckSetE k h t e = 0
  · rw [if_pos hE]; exact tells_set T h t e hE
  · rw [if_neg hE, show ckSet k h t e = k by unfold ckSet; rw [if_neg hE]]; exact T
theorem tellsNow {k : Ck} {L : List Tk} (T : Tells k L) (h : Int) : Tells (ckNow k h) (tkNow k L h) := by
  unfold tkNow
  by_cases hE : ckNowE k h = 0
  · rw [if_pos hE]; exact tells_now T h hE
  · rw [if_neg hE, show ckNow k h = k by unfold ckNow; rw [if_neg hE]]; exact T
set_option maxRecDepth 100000 in
set_option maxHeartbeats 2000000 in
theorem clockPlays_walk (w : World) (r : Nat) (wr : (Lit.float .f64 r).wf = true) (A : Option Addr) (c : Nat) (xs : List VCall06) (hr : SlOk w 4 A c (xs.flatMap VCall06.cells)) (hc : xs.length ≤ c) (hm : c ≤ maxLen) (hx : ∀ u_ ∈ xs, VCall06.ok w u_) :
    Calls Try.prog 3 #[.float .f64 r, .slice A xs.length c] w fun e w' => e = .returned (.bool true) ∧ Below w.heap.size w w' := by
  have hr9 := f64_wf wr
  have hml : xs.length ≤ 9223372036854775807 := by unfold maxLen at hm; omega
  have hr := Lib.hid (hr.reads (n := xs.length) (flatMap_len _ _ 4 (fun _ => rfl)) (by decide))
  have HX := Lib.hid hx
  have HB : Hid (Below w.heap.size w w) := Lib.hid (Below.refl _ _)
  clear hm hx wr
  cases hrt : rate6 r
  · have HR := Lib.hid hrt; clear hrt
    go_enter Try.func3, Try.ntmps3
    go_wp2_with (first | (go_at_call 11; refine (awake06_any _).mono ?_; rintro e w5 ⟨rfl, hb⟩; replace HB := Lib.hid (below_then (w := w) (by repeat (first | exact Hid.out (by assumption) | exact Below.refl _ _ | refine below_alloc_ ?_ _ | refine below_drewN_ ?_ _ | refine Below.drew ?_ | refine below_set_ ?_ (by first | exact Nat.le_refl _ | (simp; done) | (simp; omega)) _)) hb); clear hb) | (go_at_call 10; refine (cnew_bad r _ hr9 HR.out).mono ?_; rintro e w1 ⟨rfl, rfl⟩) | (go_at_call 12; refine (rated6_any r _ hr9).mono ?_; rintro e w1 ⟨rfl, rfl⟩; rw [HR.out]))
    go_ret
    exact ⟨rfl, by repeat (first | exact Hid.out (by assumption) | exact Below.refl _ _ | refine below_alloc_ ?_ _ | refine below_drewN_ ?_ _ | refine Below.drew ?_ | refine below_set_ ?_ (by first | exact Nat.le_refl _ | (simp; done) | (simp; omega)) _)⟩
  have HR := Lib.hid hrt; clear hrt
  go_enter Try.func3, Try.ntmps3
  go_wp2_with (first | (go_at_call 10; refine (cnew_ok r _ hr9 HR.out).mono ?_; rintro e w1 ⟨rfl, rfl⟩))
  refine (awake06_any _).mono ?_
  rintro e w5 ⟨rfl, hb⟩
  have C5 := Lib.hid (Blk.below (g := w.heap.size) (t := 77) (cs := (ckNew r).cells) (by repeat (first | (refine Blk.new' ?_; simp; done) | (refine Blk.new' ?_; rfl) | refine Blk.alloc ?_ _ | refine Blk.drewN ?_ _ | refine Blk.drew ?_)) hb (by simp))
  replace HB := Lib.hid (below_then (w := w) (by repeat (first | exact Hid.out (by assumption) | exact Below.refl _ _ | refine below_alloc_ ?_ _ | refine below_drewN_ ?_ _ | refine Below.drew ?_ | refine below_set_ ?_ (by first | exact Nat.le_refl _ | (simp; done) | (simp; omega)) _)) hb); clear hb
  have hg5 := C5.out.lt
  go_wp2_with (first | (go_at_call 12; refine (rated6_any r _ hr9).mono ?_; rintro e w1 ⟨rfl, rfl⟩; rw [HR.out]))
  go_loopw [8] (fun i wr => ∃ (k : Nat) (c : Ck) (L : List Tk) (B : Option Addr) (cap : Nat), k ≤ xs.length ∧ k ≤ 40 ∧ i = .int .i64 k ∧ L.length ≤ k ∧ Hid (c.rt = r) ∧ Hid (Tells c L) ∧ Hid (Blk wr w.heap.size 77 c.cells) ∧ Hid (Blk wr w5.heap.size 32 #[.float .f64 r, .slice B L.length cap]) ∧ Hid (TkAt wr B L) ∧ Hid (∀ a, B = some a → w5.heap.size < a.block) ∧ Hid (Below w.heap.size w wr)) (fun i _ => xs.length - (intOf i).toNat)
  case atStart => exact ⟨0, ckNew r, [], none, 0, Nat.zero_le _, by omega, rfl, Nat.zero_le _, Lib.hid rfl, Lib.hid (tells_new r HR.out), Lib.hid (C5.out.alloc _), Lib.hid (Blk.new w5 _ _), Lib.hid ⟨rfl, fun h => absurd h (by decide)⟩, Lib.hid (fun _ h => by cases h), Lib.hid (below_alloc_ HB.out _)⟩
  case round =>
    clear C5 HB
    obtain ⟨k, c, L, B, cap, hk, hk4, rfl, hL, RT, T, C, M, TK, BF, HB⟩ := hrel
    obtain ⟨wo, rfl⟩ : ∃ wo, wo = wr := ⟨_, rfl⟩
    have ml := M.out.lt
    have n51 := Nat.ne_of_lt hg5
    have n52 := Nat.ne_of_gt ml
    by_cases hlt : k < xs.length
    · by_cases h40 : k < 40
      · obtain ⟨ad, hA, hadb, hcell⟩ := (hr.out.kp (S := fun _ => False) (.of_below HB.out) (fun _ _ h => h)).2 (by omega)
        subst hA
        have q := fun j (hj : j < 4) => (hcell (k * 4 + j) _ ((flatMap_at xs VCall06.cells 4 (fun _ => rfl) k j hlt hj).trans (List.getElem?_eq_getElem (by exact hj))))
        have q0 := q 0 (by omega); have q1 := q 1 (by omega); have q2 := q 2 (by omega); have q3 := q 3 (by omega)
        simp only [VCall06.cells, List.getElem_cons_zero, List.getElem_cons_succ, Nat.add_zero] at q0 q1 q2 q3
        have hok := HX.out xs[k] (List.getElem_mem _)
        generalize xs[k] = x at *
        obtain ⟨kd, hh, tt, wd⟩ := x
        obtain ⟨v0, v1, v2, v3⟩ := hok
        simp only at q0 q1 q2 q3 v0 v1 v2 v3
        replace q1 := cell_in _ 1 (by omega) q1; replace q2 := cell_in _ 2 (by omega) q2; replace q3 := cell_in _ 3 (by omega) q3
        clear q hcell
        by_cases hkd : 1 < kd ∨ kd < 0
        · rcases (show (decide (1 < kd) = true) ∨ (decide (1 < kd) = false ∧ decide (kd < 0) = true) by simp; omega) with b0 | ⟨b0, b1⟩
          all_goals
            clear hkd
            obtain ⟨m0, m1⟩ := M.out.c2
            have HT := Lib.hid (tellsSet T.out hh tt wd)
            have HL := tkSet_len c L hh tt wd
            have hrn := rset_tells T.out r B cap hh tt wd (wo.alloc (.cells #[.int .i64 kd, .int .i64 hh, .int .i64 tt, .int .i64 wd] 34)) (Reads.al TK.out _) (by omega)
            obtain ⟨L', hL'⟩ : ∃ L', tkSet c L hh tt wd = L' := ⟨_, rfl⟩
            rw [hL'] at HT HL hrn
            have RN := Lib.hid hrn
            clear hL' hrn
            go_wp2_with fail
            refine RN.out.mono ?_
            rintro e w6 ⟨B', cap', rfl, htk, hb6, hbf⟩
            have TK6 := Lib.hid htk
            have BF6 : Hid (∀ a, B' = some a → w5.heap.size < a.block) := Lib.hid (fun a ha => by rcases hbf a ha with h | h; exact BF.out a h; simp at h; omega)
            have C6 := Lib.hid (Blk.below (C.out.alloc _) hb6 (C.out.alloc _).lt)
            have M6 := Lib.hid (Blk.below (M.out.alloc _) hb6 (M.out.alloc _).lt)
            have X6 := Lib.hid (Blk.below (Blk.new wo 34 #[.int .i64 kd, .int .i64 hh, .int .i64 tt, .int .i64 wd]) hb6 (by simp))
            have H6 : Hid (Below w.heap.size w w6) := Lib.hid (below_then (w := w) (by repeat (first | exact Hid.out (by assumption) | exact Below.refl _ _ | refine below_alloc_ ?_ _ | refine below_drewN_ ?_ _ | refine Below.drew ?_ | refine below_set_ ?_ (by first | exact Nat.le_refl _ | (simp; done) | (simp; omega)) _)) hb6)
            have cl := C.out.lt
            clear htk hb6 hbf m0 m1 q0 q1 q2 q3
            obtain ⟨x0, x1, x2, x3⟩ := X6.out.c4
            have xl := X6.out.lt
            go_wp2_with fail
            refine (cset_is w.heap.size hh tt wd _ (C6.out.alloc _) rfl rfl).mono ?_
            rintro e w7 ⟨rfl, hb2, hk2⟩
            have C7 := Lib.hid hb2
            have M7 := Lib.hid ((M6.out.alloc _).keeps hk2 (by exact Nat.ne_of_gt hg5))
            have N7 := Lib.hid ((Blk.new w6 32 #[.float .f64 r, .slice B' L'.length cap']).keeps hk2 (by exact Nat.ne_of_gt C6.out.lt))
            have TK7 : Hid (TkAt w7 B' L') := Lib.hid (Reads.kp (Reads.al TK6.out _) hk2 (fun a ha h => absurd h (Nat.ne_of_gt (by have := BF6.out a ha; omega))))
            have H7 : Hid (Below w.heap.size w w7) := Lib.hid (below_ks (w := w) (below_alloc_ H6.out _) hk2)
            clear hb2 hk2 x0 x1 x2 x3 xl
            obtain ⟨m0, m1⟩ := M7.out.c2
            obtain ⟨n0, n1⟩ := N7.out.c2
            have f0 := M7.out.frozen 0; have f1 := M7.out.frozen 1
            have ml7 := M7.out.lt; have nl7 := N7.out.lt
            go_wp2_with fail
            go_roundw
            case rel => exact ⟨k + 1, ckSet c hh tt wd, L', B', cap', by omega, by omega, by go_num, by omega, Lib.hid (by rw [ckSet_rt]; exact RT.out), HT, Lib.hid (Blk.far (Blk.far C7.out n51 _) n51 _), Lib.hid (blk_upd (blk_upd M7.out rfl) rfl), Lib.hid (Reads.kp (S := (· = w5.heap.size)) TK7.out (keeps_two _ _ _ _) (fun a ha h => absurd h (Nat.ne_of_gt (by have := BF6.out a ha; omega)))), BF6, Lib.hid (below_set_ (below_set_ H7.out (Nat.le_of_lt hg5) _) (Nat.le_of_lt hg5) _)⟩
            case measure => simp [intOf]; omega
        · have hk01 : kd = 0 ∨ kd = 1 := by omega
          clear hkd
          obtain ⟨m0, m1⟩ := M.out.c2
          have cl := C.out.lt
          have HT := Lib.hid (tellsNow T.out hh)
          have HL := tkNow_len c L hh
          have KO := Lib.hid T.out.ok
          have hrn := rnow_tells T.out B cap hh (wo.alloc (.cells #[.int .i64 kd, .int .i64 hh, .int .i64 tt, .int .i64 wd] 34)) (Reads.al TK.out _) (by omega)
          have hrt := ckNow_rt c hh
          rw [RT.out] at hrn hrt
          obtain ⟨L', hL'⟩ : ∃ L', tkNow c L hh = L' := ⟨_, rfl⟩
          obtain ⟨lo, hlo⟩ : ∃ lo, ckLo c hh = lo := ⟨_, rfl⟩
          obtain ⟨hi, hhi⟩ : ∃ hi, ckHi c hh = hi := ⟨_, rfl⟩
          obtain ⟨E, hE⟩ : ∃ E, ckNowE c hh = E := ⟨_, rfl⟩
          obtain ⟨d, hd⟩ : ∃ d, ckNow c hh = d := ⟨_, rfl⟩
          rw [hL', hlo, hhi, hE] at hrn
          rw [hL', hd] at HT
          rw [hL'] at HL
          rw [hd] at hrt
          have RN := Lib.hid hrn; have E0 := Lib.hid hE; have E1 := Lib.hid hlo; have E2 := Lib.hid hhi; have E3 := Lib.hid hd; have E4 := Lib.hid hrt
          clear hrn hL' hE hlo hhi hd hrt
          have XB := Lib.hid (Blk.new wo 34 #[.int .i64 kd, .int .i64 hh, .int .i64 tt, .int .i64 wd])
          rcases hk01 with rfl | rfl
          · go_wp2_with fail
            refine RN.out.mono ?_
            rintro e w6 ⟨B', cap', rfl, htk, hb6, hbf⟩
            have TK6 := Lib.hid htk
            have BF6 : Hid (∀ a, B' = some a → w5.heap.size < a.block) := Lib.hid (fun a ha => by rcases hbf a ha with h | h; exact BF.out a h; simp at h; omega)
            have C6 := Lib.hid (Blk.below (C.out.alloc _) hb6 (C.out.alloc _).lt)
            have M6 := Lib.hid (Blk.below (M.out.alloc _) hb6 (M.out.alloc _).lt)
            have X6 := Lib.hid (Blk.below XB.out hb6 XB.out.lt)
            have H6 : Hid (Below w.heap.size w w6) := Lib.hid (below_then (w := w) (by repeat (first | exact Hid.out (by assumption) | exact Below.refl _ _ | refine below_alloc_ ?_ _ | refine below_drewN_ ?_ _ | refine Below.drew ?_ | refine below_set_ ?_ (by first | exact Nat.le_refl _ | (simp; done) | (simp; omega)) _)) hb6)
            clear htk hb6 hbf m0 m1 q0 q1 q2 q3
            obtain ⟨x0, x1, x2, x3⟩ := X6.out.c4
            obtain ⟨m0, m1⟩ := M6.out.c2
            have f0 := M6.out.frozen 0; have f1 := M6.out.frozen 1
            have xl := X6.out.lt; have ml6 := M6.out.lt; have cl6 := C6.out.lt
            go_wp2_with fail
            refine (cnow_is w.heap.size hh _ KO.out (Blk.alloc (Blk.alloc (Blk.far (Blk.far C6.out n51 _) n51 _) _) _) E0.out E1.out E2.out E3.out).mono ?_
            rintro e w7 ⟨rfl, hb2, hk2⟩
            have C7 := Lib.hid hb2
            have M7 := Lib.hid (Blk.keeps (Blk.alloc (Blk.alloc (blk_upd (blk_upd M6.out rfl) rfl) _) _) hk2 (by exact Nat.ne_of_gt hg5))
            have S7 := Lib.hid (Blk.keeps (g := w6.heap.size + 1) (t := 39) (cs := #[.int .i64 lo, .int .i64 hi]) (Blk.new' (by simp)) hk2 (by exact Nat.ne_of_gt (Nat.lt_succ_of_lt cl6)))
            have X7 := Lib.hid (Blk.keeps (Blk.alloc (Blk.alloc (Blk.far (Blk.far X6.out n52 _) n52 _) _) _) hk2 (by exact Nat.ne_of_gt cl))
            have TK7 : Hid (TkAt w7 B' L') := Lib.hid (Reads.kp (Reads.al (Reads.al (Reads.kp (S := (· = w5.heap.size)) TK6.out (keeps_two _ _ _ _) (fun a ha h => absurd h (Nat.ne_of_gt (by have := BF6.out a ha; omega)))) _) _) hk2 (fun a ha h => absurd h (Nat.ne_of_gt (by have := BF6.out a ha; omega))))
            have H7 : Hid (Below w.heap.size w w7) := Lib.hid (below_ks (w := w) (below_alloc_ (below_alloc_ (below_set_ (below_set_ H6.out (Nat.le_of_lt hg5) _) (Nat.le_of_lt hg5) _) _) _) hk2)
            clear hb2 hk2 x0 x1 x2 x3 xl m0 m1
            obtain ⟨s0, s1⟩ := S7.out.c2
            obtain ⟨x0, x1, x2, x3⟩ := X7.out.c4
            have sl := S7.out.lt; have xl := X7.out.lt
            go_wp2_with fail
            go_roundw
            case rel => exact ⟨k + 1, d, L', B', cap', by omega, by omega, by go_num, by omega, E4, HT, Lib.hid (C7.out.alloc _), Lib.hid (M7.out.alloc _), Lib.hid (Reads.al TK7.out _), BF6, Lib.hid (below_alloc_ H7.out _)⟩
            case measure => simp [intOf]; omega
          · obtain ⟨p, hp⟩ : ∃ p, decide (tt < lo) = p := ⟨_, rfl⟩
            by_cases hE : E = 0
            · subst hE
              have PP := Lib.hid (show (decide ((0 : Int) = 0) && decide (tt < lo)) = p by rw [hp]; simp)
              go_wp2_with fail
              refine RN.out.mono ?_
              rintro e w6 ⟨B', cap', rfl, htk, hb6, hbf⟩
              have TK6 := Lib.hid htk
              have BF6 : Hid (∀ a, B' = some a → w5.heap.size < a.block) := Lib.hid (fun a ha => by rcases hbf a ha with h | h; exact BF.out a h; simp at h; omega)
              have C6 := Lib.hid (Blk.below (C.out.alloc _) hb6 (C.out.alloc _).lt)
              have M6 := Lib.hid (Blk.below (M.out.alloc _) hb6 (M.out.alloc _).lt)
              have X6 := Lib.hid (Blk.below XB.out hb6 XB.out.lt)
              have H6 : Hid (Below w.heap.size w w6) := Lib.hid (below_then (w := w) (by repeat (first | exact Hid.out (by assumption) | exact Below.refl _ _ | refine below_alloc_ ?_ _ | refine below_drewN_ ?_ _ | refine Below.drew ?_ | refine below_set_ ?_ (by first | exact Nat.le_refl _ | (simp; done) | (simp; omega)) _)) hb6)
              clear htk hb6 hbf m0 m1 q0 q1 q2 q3
              obtain ⟨x0, x1, x2, x3⟩ := X6.out.c4
              obtain ⟨m0, m1⟩ := M6.out.c2
              have f0 := M6.out.frozen 0; have f1 := M6.out.frozen 1
              have xl := X6.out.lt; have ml6 := M6.out.lt; have cl6 := C6.out.lt
              go_wp2_with fail
              refine (cpast_is w.heap.size tt hh _ KO.out (Blk.alloc (Blk.alloc (Blk.far (Blk.far C6.out n51 _) n51 _) _) _) E0.out E1.out E2.out E3.out PP.out).mono ?_
              rintro e w7 ⟨rfl, hb2, hk2⟩
              have C7 := Lib.hid hb2
              have M7 := Lib.hid (Blk.keeps (Blk.alloc (Blk.alloc (blk_upd (blk_upd M6.out rfl) rfl) _) _) hk2 (by exact Nat.ne_of_gt hg5))
              have S7 := Lib.hid (Blk.keeps (g := w6.heap.size + 1) (t := 39) (cs := #[.int .i64 lo, .int .i64 hi]) (Blk.new' (by simp)) hk2 (by exact Nat.ne_of_gt (Nat.lt_succ_of_lt cl6)))
              have X7 := Lib.hid (Blk.keeps (Blk.alloc (Blk.alloc (Blk.far (Blk.far X6.out n52 _) n52 _) _) _) hk2 (by exact Nat.ne_of_gt cl))
              have TK7 : Hid (TkAt w7 B' L') := Lib.hid (Reads.kp (Reads.al (Reads.al (Reads.kp (S := (· = w5.heap.size)) TK6.out (keeps_two _ _ _ _) (fun a ha h => absurd h (Nat.ne_of_gt (by have := BF6.out a ha; omega)))) _) _) hk2 (fun a ha h => absurd h (Nat.ne_of_gt (by have := BF6.out a ha; omega))))
              have H7 : Hid (Below w.heap.size w w7) := Lib.hid (below_ks (w := w) (below_alloc_ (below_alloc_ (below_set_ (below_set_ H6.out (Nat.le_of_lt hg5) _) (Nat.le_of_lt hg5) _) _) _) hk2)
              clear hb2 hk2 x0 x1 x2 x3 xl m0 m1
              obtain ⟨s0, s1⟩ := S7.out.c2
              obtain ⟨x0, x1, x2, x3⟩ := X7.out.c4
              have sl := S7.out.lt; have xl := X7.out.lt
              go_wp2_with fail
              go_roundw
              case rel => exact ⟨k + 1, d, L', B', cap', by omega, by omega, by go_num, by omega, E4, HT, C7, M7, TK7, BF6, H7⟩
              case measure => simp [intOf]; omega
            · have hE' : (E == 0) = false := by simpa using hE
              have PP := Lib.hid (show (decide (E = 0) && decide (tt < lo)) = false by rw [decide_eq_false hE]; rfl)
              clear hE hp
              go_wp2_with fail
              refine RN.out.mono ?_
              rintro e w6 ⟨B', cap', rfl, htk, hb6, hbf⟩
              have TK6 := Lib.hid htk
              have BF6 : Hid (∀ a, B' = some a → w5.heap.size < a.block) := Lib.hid (fun a ha => by rcases hbf a ha with h | h; exact BF.out a h; simp at h; omega)
              have C6 := Lib.hid (Blk.below (C.out.alloc _) hb6 (C.out.alloc _).lt)
              have M6 := Lib.hid (Blk.below (M.out.alloc _) hb6 (M.out.alloc _).lt)
              have X6 := Lib.hid (Blk.below XB.out hb6 XB.out.lt)
              have H6 : Hid (Below w.heap.size w w6) := Lib.hid (below_then (w := w) (by repeat (first | exact Hid.out (by assumption) | exact Below.refl _ _ | refine below_alloc_ ?_ _ | refine below_drewN_ ?_ _ | refine Below.drew ?_ | refine below_set_ ?_ (by first | exact Nat.le_refl _ | (simp; done) | (simp; omega)) _)) hb6)
              clear htk hb6 hbf m0 m1 q0 q1 q2 q3
              obtain ⟨x0, x1, x2, x3⟩ := X6.out.c4
              obtain ⟨m0, m1⟩ := M6.out.c2
              have f0 := M6.out.frozen 0; have f1 := M6.out.frozen 1
              have xl := X6.out.lt; have ml6 := M6.out.lt; have cl6 := C6.out.lt
              go_wp2_with fail
              refine (cpast_is w.heap.size tt hh _ KO.out (Blk.alloc (Blk.alloc (Blk.far (Blk.far C6.out n51 _) n51 _) _) _) E0.out E1.out E2.out E3.out PP.out).mono ?_
              rintro e w7 ⟨rfl, hb2, hk2⟩
              have C7 := Lib.hid hb2
              have M7 := Lib.hid (Blk.keeps (Blk.alloc (Blk.alloc (blk_upd (blk_upd M6.out rfl) rfl) _) _) hk2 (by exact Nat.ne_of_gt hg5))
              have S7 := Lib.hid (Blk.keeps (g := w6.heap.size + 1) (t := 39) (cs := #[.int .i64 lo, .int .i64 hi]) (Blk.new' (by simp)) hk2 (by exact Nat.ne_of_gt (Nat.lt_succ_of_lt cl6)))
              have X7 := Lib.hid (Blk.keeps (Blk.alloc (Blk.alloc (Blk.far (Blk.far X6.out n52 _) n52 _) _) _) hk2 (by exact Nat.ne_of_gt cl))
              have TK7 : Hid (TkAt w7 B' L') := Lib.hid (Reads.kp (Reads.al (Reads.al (Reads.kp (S := (· = w5.heap.size)) TK6.out (keeps_two _ _ _ _) (fun a ha h => absurd h (Nat.ne_of_gt (by have := BF6.out a ha; omega)))) _) _) hk2 (fun a ha h => absurd h (Nat.ne_of_gt (by have := BF6.out a ha; omega))))
              have H7 : Hid (Below w.heap.size w w7) := Lib.hid (below_ks (w := w) (below_alloc_ (below_alloc_ (below_set_ (below_set_ H6.out (Nat.le_of_lt hg5) _) (Nat.le_of_lt hg5) _) _) _) hk2)
              clear hb2 hk2 x0 x1 x2 x3 xl m0 m1
              obtain ⟨s0, s1⟩ := S7.out.c2
              obtain ⟨x0, x1, x2, x3⟩ := X7.out.c4
              have sl := S7.out.lt; have xl := X7.out.lt
              go_wp2_with fail
              go_roundw
              case rel => exact ⟨k + 1, d, L', B', cap', by omega, by omega, by go_num, by omega, E4, HT, C7, M7, TK7, BF6, H7⟩
              case measure => simp [intOf]; omega
      · have hd : decide ((k : Int) < 40) = false := by simp; omega
        go_wp2_with fail
        go_ret
        exact ⟨rfl, HB.out⟩
    · have hd : decide (k < xs.length) = false := by simp; omega
      go_wp2_with fail
      go_ret
      exact ⟨rfl, HB.out⟩
end Go.Proofs.Ytdemonageoagiaa
