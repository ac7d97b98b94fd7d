/- The clock: the contracts of Now and Past. -/
import Derived.Test.YtajojpfenlafbaaCkA
import Derived.Deep.RegionHeld3
import Derived.Deep.RegionWith
import Derived.Deep.DeepCutAuto
import Derived.Deep.QuietTactic
import Derived.BigQuiet
import Derived.IntWalk
set_option linter.unusedSimpArgs false
set_option linter.unusedVariables false
namespace Go.Proofs.Ytajojpfenlafbaa
open Go.RowKit Mo
set_option maxHeartbeats 1000000 in
theorem cnow_bad (g : Nat) (c : Ck) (hh : Int) (w : World) (k : c.ok) (hs : Blk w g 105 c.cells) (hE : ckNowE c hh ≠ 0) :
    Calls Try.prog 34 #[.pointer (some ⟨g, 0, none⟩), .int .i64 hh] w fun e' w' =>
      e' = .returned (.tuple #[.agg #[.int .i64 0, .int .i64 0], .int .i64 (ckNowE c hh)]) ∧ Below w.heap.size w w' := by
  obtain ⟨bh, bt, be, st, rt, la, fl⟩ := c
  unfold Ck.cells at hs
  simp only at hs
  obtain ⟨⟨q0, q1, q2, q3, q4, q5, q6⟩, hg⟩ := hs.c7
  clear hs
  obtain ⟨k0, k1, k2, k3, k4, k5, k6, k7, k8, k9⟩ := k
  simp only at k0 k1 k2 k3 k4 k5 k6 k7 k8 k9
  obtain ⟨E, hE'⟩ : ∃ E, ckNowE ⟨bh, bt, be, st, rt, la, fl⟩ hh = E := ⟨_, rfl⟩
  rw [hE'] at hE ⊢
  unfold ckNowE at hE'
  simp only at hE'
  obtain ⟨x, hx⟩ : ∃ x, inT hh = x := ⟨_, rfl⟩
  have HX := Lib.hid hx
  rw [hx] at hE'
  cases x
  · obtain rfl : E = 61 := by rw [← hE']; simp
    clear hE hE' hx
    go_enter Try.func34, Try.ntmps34
    go_wp2_with (go_at_call 41; refine (cin_any _ _).mono ?_; rintro e w1 ⟨rfl, rfl⟩; rw [HX.out])
    refine bodyPost_ret (v := .tuple #[.agg #[.int .i64 0, .int .i64 0], .int .i64 61]) (by simp [results, Try.results34, go_sem]) rfl ⟨?_, ?_⟩
    · rfl
    · repeat (first | exact Hid.out (by assumption) | exact Below.refl _ _ | refine below_alloc_ ?_ _ | refine below_drewN_ ?_ _ | refine Below.drew ?_ | refine below_set_ ?_ (by first | exact Nat.le_refl _ | (simp; done) | (simp; omega)) _)
  · simp only [if_true] at hE'
    obtain ⟨h0, h1⟩ := inT_iff.1 hx
    clear hx
    cases st
    · obtain rfl : E = 63 := by rw [← hE']; simp
      clear hE hE'
      go_enter Try.func34, Try.ntmps34
      go_wp2_with (go_at_call 41; refine (cin_any _ _).mono ?_; rintro e w1 ⟨rfl, rfl⟩; rw [HX.out])
      refine bodyPost_ret (v := .tuple #[.agg #[.int .i64 0, .int .i64 0], .int .i64 63]) (by simp [results, Try.results34, go_sem]) rfl ⟨?_, ?_⟩
      · rfl
      · repeat (first | exact Hid.out (by assumption) | exact Below.refl _ _ | refine below_alloc_ ?_ _ | refine below_drewN_ ?_ _ | refine Below.drew ?_ | refine below_set_ ?_ (by first | exact Nat.le_refl _ | (simp; done) | (simp; omega)) _)
    · simp only [if_true] at hE'
      by_cases hl : hh < la
      · obtain rfl : E = 62 := by rw [← hE', if_pos hl]
        clear hE hE'
        go_enter Try.func34, Try.ntmps34
        go_wp2_with (go_at_call 41; refine (cin_any _ _).mono ?_; rintro e w1 ⟨rfl, rfl⟩; rw [HX.out])
        refine bodyPost_ret (v := .tuple #[.agg #[.int .i64 0, .int .i64 0], .int .i64 62]) (by simp [results, Try.results34, go_sem]) rfl ⟨?_, ?_⟩
        · rfl
        · repeat (first | exact Hid.out (by assumption) | exact Below.refl _ _ | refine below_alloc_ ?_ _ | refine below_drewN_ ?_ _ | refine Below.drew ?_ | refine below_set_ ?_ (by first | exact Nat.le_refl _ | (simp; done) | (simp; omega)) _)
      · rw [if_neg hl] at hE'
        by_cases hm : 1125899906842624 < bt + (hh - bh)
        · obtain rfl : E = 64 := by rw [← hE', if_pos hm]
          have hl2 : la ≤ hh := by omega
          have z0 : (0 : Int) ≤ hh - bh := by omega
          have z2 : hh - bh ≤ 1125899906842624 := by omega
          clear hE hE' hl
          have y1 : IntKind.i64.wrap (hh - bh) = hh - bh := IntWalk.i64_in _ (by omega)
          have y2 : IntKind.i64.wrap (bt + (hh - bh)) = bt + (hh - bh) := IntWalk.i64_in _ (by omega)
          go_enter Try.func34, Try.ntmps34
          go_wp2_with (go_at_call 41; refine (cin_any _ _).mono ?_; rintro e w1 ⟨rfl, rfl⟩; rw [HX.out])
          go_quiet (fail)
          go_wp2_with (fail)
          refine bodyPost_ret (v := .tuple #[.agg #[.int .i64 0, .int .i64 0], .int .i64 64]) (by simp [results, Try.results34, go_sem]) rfl ⟨?_, ?_⟩
          · rfl
          · exact below_set_ (below_set_ (below_drewN_ (below_alloc_ (Below.refl _ _) _) _) (Nat.le_refl _) _) (Nat.le_refl _) _
        · rw [if_neg hm] at hE'
          exact absurd hE'.symm hE
set_option maxRecDepth 100000 in
set_option maxHeartbeats 1000000 in
theorem cnow_ok (g : Nat) (c : Ck) (hh : Int) (w : World) (k : c.ok) (hs : Blk w g 105 c.cells) (hE : ckNowE c hh = 0) :
    Calls Try.prog 34 #[.pointer (some ⟨g, 0, none⟩), .int .i64 hh] w fun e' w' =>
      e' = .returned (.tuple #[.agg #[.int .i64 (ckLo c hh), .int .i64 (ckHi c hh)], .int .i64 0]) ∧ Blk w' g 105 (ckNow c hh).cells ∧ Keeps (· = g) w w' := by
  have hlo : ckLo c hh = max (max (max (c.bt + (hh - c.bh) - c.be) 0 - ckD c hh) 0) c.fl := by unfold ckLo; rw [if_pos hE]
  have hhi : ckHi c hh = max (min (min (c.bt + (hh - c.bh) + c.be) 1125899906842624 + ckD c hh) 1125899906842624) (ckLo c hh) := by unfold ckHi; rw [if_pos hE]
  have hck : ckNow c hh = ⟨c.bh, c.bt, c.be, c.st, c.rt, hh, ckLo c hh⟩ := by unfold ckNow; rw [if_pos hE]
  rw [hck]
  clear hck
  obtain ⟨bh, bt, be, st, rt, la, fl⟩ := c
  have HS := Lib.hid hs
  unfold Ck.cells at hs
  simp only at hs
  obtain ⟨⟨q0, q1, q2, q3, q4, q5, q6⟩, hg⟩ := hs.c7
  have f5 := hs.frozen 5; have f6 := hs.frozen 6
  clear hs
  obtain ⟨k0, k1, k2, k3, k4, k5, k6, k7, k8, k9⟩ := k
  unfold ckD at hlo hhi
  simp only at k0 k1 k2 k3 k4 k5 k6 k7 k8 k9 hlo hhi
  unfold ckNowE at hE
  simp only at hE
  obtain ⟨x, hx⟩ : ∃ x, inT hh = x := ⟨_, rfl⟩
  have HX := Lib.hid hx
  rw [hx] at hE
  cases x
  · simp at hE
  simp only [if_true] at hE
  obtain ⟨h0, h1⟩ := inT_iff.1 hx
  clear hx
  cases st
  · simp at hE
  simp only [if_true] at hE
  by_cases hl : hh < la
  · rw [if_pos hl] at hE; simp at hE
  rw [if_neg hl] at hE
  by_cases hm : 1125899906842624 < bt + (hh - bh)
  · rw [if_pos hm] at hE; simp at hE
  clear hE
  have k9' := rate6_ok k9
  have hdl := drift_le (hh - bh) rt k9'
  generalize hd : (driftBy (hh - bh) rt : Int) = D at *
  obtain ⟨L, hL⟩ : ∃ L, ckLo ⟨bh, bt, be, true, rt, la, fl⟩ hh = L := ⟨_, rfl⟩
  obtain ⟨H, hH⟩ : ∃ H, ckHi ⟨bh, bt, be, true, rt, la, fl⟩ hh = H := ⟨_, rfl⟩
  rw [hL] at hlo hhi ⊢
  rw [hH] at hhi ⊢
  clear hL hH
  obtain ⟨A, hA⟩ : ∃ A, max (bt + (hh - bh) - be) 0 = A := ⟨_, rfl⟩
  obtain ⟨B, hB⟩ : ∃ B, min (bt + (hh - bh) + be) 1125899906842624 = B := ⟨_, rfl⟩
  obtain ⟨A1, hA1⟩ : ∃ A1, max (A - D) 0 = A1 := ⟨_, rfl⟩
  obtain ⟨B1, hB1⟩ : ∃ B1, min (B + D) 1125899906842624 = B1 := ⟨_, rfl⟩
  have HW : Hid (WidIs (bt + (hh - bh)) (bt + (hh - bh)) be A B 0) := Lib.hid (.inr (.inr (.inr ⟨isS_iff.2 (by omega), by omega, by omega, hA.symm, hB.symm, rfl⟩)))
  have HD : Hid (DriftIs A B (hh - bh) rt A1 B1 0) := Lib.hid (.inr (.inr (.inr (.inr ⟨isS_iff.2 (by omega), by omega, by omega, k9', by rw [hd]; exact hA1.symm, by rw [hd]; exact hB1.symm, rfl⟩))))
  rw [hA, hA1] at hlo
  rw [hB, hB1] at hhi
  have HL := Lib.hid hlo; have HH := Lib.hid hhi
  have b1 : 0 ≤ A1 := by omega
  have b2 : A1 ≤ B1 := by omega
  have b3 : B1 ≤ 1125899906842624 := by omega
  have hrt : rt < 18446744073709551616 := by unfold rate6 at k9; simp at k9; omega
  clear hlo hhi hA hB hA1 hB1 hd hdl k9 k9'
  have zz0 : (0 : Int) ≤ hh - bh := by omega
  have zz1 : bt + (hh - bh) ≤ 1125899906842624 := by omega
  have z2 : hh - bh ≤ 1125899906842624 := by omega
  have hl2 : la ≤ hh := by omega
  clear hl
  have y1 : IntKind.i64.wrap (hh - bh) = hh - bh := IntWalk.i64_in _ (by omega)
  have y2 : IntKind.i64.wrap (bt + (hh - bh)) = bt + (hh - bh) := IntWalk.i64_in _ (by omega)
  go_enter Try.func34, Try.ntmps34
  go_wp2_with (first | (go_at_call 41; refine (cin_any _ _).mono ?_; rintro e w1 ⟨rfl, rfl⟩; rw [HX.out]) | (go_at_call 42; refine (around_any _ _ _ _ _ _ HW.out).mono ?_; rintro e w1 ⟨rfl, rfl⟩))
  go_quiet (fail)
  go_wp2_with (fail)
  go_upto_region 9 with fail
  go_cut [6] (fun s6 wx => ∃ b : Nat, s6 = .pointer (some ⟨b, 0, none⟩) ∧ w.heap.size < b ∧ Blk wx b 33 #[.int .i64 A, .int .i64 B] ∧ Blk wx w.heap.size 33 #[.int .i64 0, .int .i64 0] ∧ Below w.heap.size w wx)
  case first =>
    go_region_held3 (fun w' => w'.cell? ⟨g, 0, none⟩ = some (.int .i64 bh) ∧ w'.cell? ⟨g, 1, none⟩ = some (.int .i64 bt) ∧ w'.cell? ⟨g, 2, none⟩ = some (.int .i64 be)) (refine ⟨cellB ?_ hg q0, cellB ?_ hg q1, cellB ?_ hg q2⟩ <;> (repeat (first | exact Hid.out (by assumption) | exact Below.refl _ _ | refine below_alloc_ ?_ _ | refine below_drewN_ ?_ _ | refine Below.drew ?_ | refine below_set_ ?_ (by first | exact Nat.le_refl _ | (simp; done) | (simp; omega)) _))) ((go_at_call 42; refine (around_any _ _ _ _ _ _ HW.out).mono ?_; rintro e w1 ⟨rfl, rfl⟩))
    all_goals
      go_wp2_with fail
      go_meet
      refine ⟨_, rfl, ?_, ?_, ?_, ?_⟩
      · (first | omega | (simp; done) | (simp; omega))
      · repeat (first | (refine Blk.new' ?_; simp; done) | (refine Blk.new' ?_; rfl) | refine Blk.alloc ?_ _ | refine Blk.drewN ?_ _ | refine Blk.drew ?_)
      · repeat (first | (refine Blk.new' ?_; simp; done) | (refine Blk.new' ?_; rfl) | refine Blk.alloc ?_ _ | refine Blk.drewN ?_ _ | refine Blk.drew ?_)
      · repeat (first | exact Hid.out (by assumption) | exact Below.refl _ _ | refine below_alloc_ ?_ _ | refine below_drewN_ ?_ _ | refine Below.drew ?_ | refine below_set_ ?_ (by first | exact Nat.le_refl _ | (simp; done) | (simp; omega)) _)
  case rest =>
    obtain ⟨b, rfl, hgt, hbs, hrs, hbw⟩ := hcut
    have hge : w.heap.size ≤ b := by omega
    have HR := Lib.hid hrs; clear hrs
    have HB := Lib.hid hbw; clear hbw
    go_wp2_with fail
    have p0 := cellB HB.out hg q0; have p4 := cellB HB.out hg q4
    obtain ⟨s0, s1⟩ := hbs.c2
    have hbl := hbs.lt
    have z0 := hbs.frozen 0; have z1 := hbs.frozen 1
    have HSB := Lib.hid hbs
    clear hbs
    go_upto_region 10 with fail
    go_cut [6] (fun s6 wx => s6 = .pointer (some ⟨b, 0, none⟩) ∧ Blk wx b 33 #[.int .i64 A1, .int .i64 B1] ∧ Blk wx w.heap.size 33 #[.int .i64 0, .int .i64 0] ∧ Below w.heap.size w wx)
    case first =>
      go_region_with (go_at_call 43; refine (drift_below _ _ _ _ _ _ _ _ HD.out hrt).mono ?_; rintro e w1 ⟨rfl, hb⟩; have t0 := below_frozen (w1 := wc.drew) z0 s0 hb; have t1 := below_frozen (w1 := wc.drew) z1 s1 hb; have t2 := below_cell (w1 := wc.drew) s0 hb; have t3 := below_cell (w1 := wc.drew) s1 hb)
      all_goals
        go_wp2_with fail
        go_meet
        refine ⟨rfl, ?_, ?_, ?_⟩
        · exact blk_s1 (blk_s0 (Blk.below (w := wc.drew) HSB.out hb hbl))
        · exact Blk.far (Blk.far (Blk.below (w := wc.drew) HR.out hb HR.out.lt) (Nat.ne_of_lt hgt) _) (Nat.ne_of_lt hgt) _
        · exact below_set_ (below_set_ (below_then (Below.drew HB.out) hb) hge _) hge _
    case rest =>
      clear p0 p4 s0 s1 hbl z0 z1 HSB HB HD HW HR
      obtain ⟨rfl, hbs, hrs, hbw⟩ := hcut
      have HR := Lib.hid hrs; clear hrs
      obtain ⟨s0, s1⟩ := hbs.c2
      have HB := Lib.hid hbw
      have p6 := cellB hbw hg q6
      have hbl := hbs.lt
      have z0 := hbs.frozen 0; have z1 := hbs.frozen 1
      have HSB := Lib.hid hbs
      clear hbs hbw
      go_wp2_with fail
      go_upto_region 11 with fail
      go_cut [6] (fun s6 wx => s6 = .pointer (some ⟨b, 0, none⟩) ∧ Blk wx b 33 #[.int .i64 L, .int .i64 B1] ∧ Blk wx w.heap.size 33 #[.int .i64 0, .int .i64 0] ∧ Below w.heap.size w wx)
      case first =>
        go_region
        all_goals
          go_wp2_with fail
          go_meet
          refine ⟨rfl, ?_, ?_, ?_⟩
          · rw [HL.out]; exact Blk.drew (blk_s0 HSB.out)
          · exact Blk.drew (Blk.far HR.out (Nat.ne_of_lt hgt) _)
          · exact Below.drew (below_set_ HB.out hge _)
      case rest =>
        clear p6 s0 s1 hbl z0 z1 HSB HB HL HR
        obtain ⟨rfl, hbs, hrs, hbw⟩ := hcut
        obtain ⟨r0, r1⟩ := hrs.c2
        have hrl := hrs.lt
        have y0 := hrs.frozen 0; have y1 := hrs.frozen 1
        have HR := Lib.hid hrs; clear hrs
        obtain ⟨s0, s1⟩ := hbs.c2
        have HB := Lib.hid hbw
        have hbl := hbs.lt
        have z0 := hbs.frozen 0; have z1 := hbs.frozen 1
        have HSB := Lib.hid hbs
        clear hbs hbw
        have HG : Hid (Blk wc g 105 (Ck.cells ⟨bh, bt, be, true, rt, la, fl⟩)) := Lib.hid (HS.out.keeps (S := fun _ => False) (.of_below HB.out) id)
        have hgb : g ≠ b := by omega
        have hbg : b ≠ g := by omega
        have p5 := cellB HB.out hg q5; have p6 := cellB HB.out hg q6
        have g5 : wc.frozen? ⟨g, 5, none⟩ = false := below_frozen f5 q5 HB.out
        have g6 : wc.frozen? ⟨g, 6, none⟩ = false := below_frozen f6 q6 HB.out
        have hgw : g < wc.heap.size := by have := HB.out.size; omega
        go_wp2_with fail
        go_region
        all_goals
          go_wp2_with fail
          refine bodyPost_ret (v := .tuple #[.agg #[.int .i64 L, .int .i64 (max B1 L)], .int .i64 0]) (via_blk (g := w.heap.size) (T := 33) (cs := #[.int .i64 L, .int .i64 (max B1 L)]) ?_ (fun W' hB => by obtain ⟨c0, c1⟩ := hB.c2; simp [results, Try.results34, go_sem, c0, c1])) rfl ⟨?_, ?_, ?_⟩
          · exact Blk.drew (blk_s1 (blk_s0 (Blk.far (Blk.far (Blk.far HR.out (Nat.ne_of_lt hgt) _) (Nat.ne_of_gt hg) _) (Nat.ne_of_gt hg) _)))
          · rw [HH.out]
          · refine Blk.drew (Blk.far (Blk.far (blk_upd (blk_upd (Blk.far HG.out hgb _) rfl) rfl) (Nat.ne_of_lt hg) _) (Nat.ne_of_lt hg) _)
          · exact Keeps.drew (Keeps.set_ (Keeps.set_ (Keeps.set_ (S := (· = g)) (Keeps.set_ (S := (· = g)) (Keeps.set_ (S := (· = g)) (.of_below HB.out) (.inr hge) _) (.inl rfl) _) (.inl rfl) _) (.inr (Nat.le_refl _)) _) (.inr (Nat.le_refl _)) _)
theorem cnow_any (g : Nat) (c : Ck) (hh : Int) (w : World) (k : c.ok) (hs : Blk w g 105 c.cells) :
    Calls Try.prog 34 #[.pointer (some ⟨g, 0, none⟩), .int .i64 hh] w fun e' w' =>
      e' = .returned (.tuple #[.agg #[.int .i64 (ckLo c hh), .int .i64 (ckHi c hh)], .int .i64 (ckNowE c hh)]) ∧ Blk w' g 105 (ckNow c hh).cells ∧ Keeps (· = g) w w' := by
  by_cases hE : ckNowE c hh = 0
  · rw [hE]; exact cnow_ok g c hh w k hs hE
  · refine (cnow_bad g c hh w k hs hE).mono ?_
    rintro e w' ⟨rfl, hb⟩
    have e1 : ckLo c hh = 0 := by unfold ckLo; rw [if_neg hE]
    have e2 : ckHi c hh = 0 := by unfold ckHi; rw [if_neg hE]
    have e3 : ckNow c hh = c := by unfold ckNow; rw [if_neg hE]
    rw [e1, e2, e3]
    exact ⟨rfl, hs.below hb hs.lt, .of_below hb⟩
/-- the same, with its answers named -/
theorem cnow_is {c c' : Ck} {E lo hi : Int} (g : Nat) (hh : Int) (w : World) (k : c.ok) (hs : Blk w g 105 c.cells) (e1 : ckNowE c hh = E) (e2 : ckLo c hh = lo) (e3 : ckHi c hh = hi) (e4 : ckNow c hh = c') :
    Calls Try.prog 34 #[.pointer (some ⟨g, 0, none⟩), .int .i64 hh] w fun e' w' =>
      e' = .returned (.tuple #[.agg #[.int .i64 lo, .int .i64 hi], .int .i64 E]) ∧ Blk w' g 105 c'.cells ∧ Keeps (· = g) w w' := by
  subst e1 e2 e3 e4
  exact cnow_any g c hh w k hs
theorem cset_is {c c' : Ck} {E : Int} (g : Nat) (hh t e : Int) (w : World) (hs : Blk w g 105 c.cells) (e1 : ckSetE c hh t e = E) (e2 : ckSet c hh t e = c') :
    Calls Try.prog 32 #[.pointer (some ⟨g, 0, none⟩), .int .i64 hh, .int .i64 t, .int .i64 e] w fun e' w' =>
      e' = .returned (.int .i64 E) ∧ Blk w' g 105 c'.cells ∧ Keeps (· = g) w w' := by
  subst e1 e2
  exact cset_any g c hh t e w hs
end Go.Proofs.Ytajojpfenlafbaa
