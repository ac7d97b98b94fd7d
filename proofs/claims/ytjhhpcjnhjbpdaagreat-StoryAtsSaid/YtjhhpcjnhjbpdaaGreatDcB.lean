/- The document on transfers and calls: contracts. -/
import Derived.Test.YtjhhpcjnhjbpdaaGreatDcA
import Derived.Test.YtjhhpcjnhjbpdaaGreatQF
set_option linter.unusedSimpArgs false
set_option linter.unusedVariables false
namespace Go.Proofs.YtjhhpcjnhjbpdaaGreat
open Go.RowKit Mo
set_option maxRecDepth 100000 in
theorem rtime_any (n : Int) (w : World) : Calls Tryz.prog 26 #[.int .i64 n] w fun e w' => e = .returned (.bool (inT n)) ∧ w = w' := by
  have hh : (decide (0 ≤ n) = false ∧ inT n = false) ∨ (decide (0 ≤ n) = true ∧ decide (n ≤ 1125899906842624) = false ∧ inT n = false) ∨ (decide (0 ≤ n) = true ∧ decide (n ≤ 1125899906842624) = true ∧ inT n = true) := by
    unfold inT
    cases decide (0 ≤ n) <;> cases decide (n ≤ 1125899906842624) <;> simp
  rcases hh with ⟨h1, h2⟩ | ⟨h1, h3, h2⟩ | ⟨h1, h3, h2⟩
  all_goals
    rw [h2]
    clear h2
    go_enter Tryz.func26, Tryz.ntmps26
    go_wp2_with fail
    go_ret
    exact ⟨rfl, rfl⟩
theorem rtime_v {n : Int} {b : Bool} (w : World) (h : inT n = b) : Calls Tryz.prog 26 #[.int .i64 n] w fun e w' => e = .returned (.bool b) ∧ w = w' := by rw [← h]; exact rtime_any n w
theorem bne_f {E : Int} (h : (E == 0) = true) : (E != 0) = false := by rw [bne, h]; rfl
theorem bne_t {E : Int} (h : (E == 0) = false) : (E != 0) = true := by rw [bne, h]; rfl
/-- a transfer is one -/
def trOk (id xf xt xn : Int) : Bool := decide (1 ≤ id ∧ id ≤ 1000000 ∧ 0 ≤ xf ∧ xf ≤ 4095 ∧ 0 ≤ xt ∧ xt ≤ 4095 ∧ xf ≠ xt ∧ 1 ≤ xn ∧ xn ≤ 1000000000000000)
def NewIs (b : Bool) (w : World) (e : Ending) (w' : World) : Prop := ∃ E : Int, e = .returned (.int .i64 E) ∧ (E == 0) = b ∧ Below w.heap.size w w'
set_option maxRecDepth 100000 in
set_option maxHeartbeats 2000000 in
theorem pnew_any (id xf xt xn : Int) (w : World) : Calls Tryz.prog 42 #[.agg #[.int .i64 id, .int .i64 xf, .int .i64 xt, .int .i64 xn]] w (NewIs (trOk id xf xt xn) w) := by
  have ha : (decide (0 ≤ xf) = false ∧ ¬ (0 ≤ xf ∧ xf ≤ 4095 ∧ 0 ≤ xt ∧ xt ≤ 4095)) ∨ (decide (0 ≤ xf) = true ∧ decide (xf ≤ 4095) = false ∧ ¬ (0 ≤ xf ∧ xf ≤ 4095 ∧ 0 ≤ xt ∧ xt ≤ 4095)) ∨ (decide (0 ≤ xf) = true ∧ decide (xf ≤ 4095) = true ∧ decide (0 ≤ xt) = false ∧ ¬ (0 ≤ xf ∧ xf ≤ 4095 ∧ 0 ≤ xt ∧ xt ≤ 4095)) ∨ (decide (0 ≤ xf) = true ∧ decide (xf ≤ 4095) = true ∧ decide (0 ≤ xt) = true ∧ decide (xt ≤ 4095) = false ∧ ¬ (0 ≤ xf ∧ xf ≤ 4095 ∧ 0 ≤ xt ∧ xt ≤ 4095)) ∨ (decide (0 ≤ xf) = true ∧ decide (xf ≤ 4095) = true ∧ decide (0 ≤ xt) = true ∧ decide (xt ≤ 4095) = true ∧ (0 ≤ xf ∧ xf ≤ 4095 ∧ 0 ≤ xt ∧ xt ≤ 4095)) := by
    simp only [decide_eq_true_eq, decide_eq_false_iff_not]; omega
  have hi : (decide (id < 1) = true ∧ ¬ (1 ≤ id ∧ id ≤ 1000000)) ∨ (decide (id < 1) = false ∧ decide (1000000 < id) = true ∧ ¬ (1 ≤ id ∧ id ≤ 1000000)) ∨ (decide (id < 1) = false ∧ decide (1000000 < id) = false ∧ (1 ≤ id ∧ id ≤ 1000000)) := by
    simp only [decide_eq_true_eq, decide_eq_false_iff_not]; omega
  have hn : ((xf == xt) = true ∧ xf = xt) ∨ ((xf == xt) = false ∧ decide (xn < 1) = true ∧ ¬ (1 ≤ xn ∧ xn ≤ 1000000000000000)) ∨ ((xf == xt) = false ∧ decide (xn < 1) = false ∧ decide (1000000000000000 < xn) = true ∧ ¬ (1 ≤ xn ∧ xn ≤ 1000000000000000)) ∨ ((xf == xt) = false ∧ decide (xn < 1) = false ∧ decide (1000000000000000 < xn) = false ∧ xf ≠ xt ∧ 1 ≤ xn ∧ xn ≤ 1000000000000000) := by
    simp only [decide_eq_true_eq, decide_eq_false_iff_not, beq_iff_eq, beq_eq_false_iff_ne, ne_eq]; omega
  rcases hi with ⟨i1, hi⟩ | ⟨i1, i2, hi⟩ | ⟨i1, i2, hi⟩
  · have hT : trOk id xf xt xn = false := decide_eq_false (by omega)
    rw [hT]
    clear hT hi hn
    rcases ha with ⟨a1, ha⟩ | ⟨a1, a2, ha⟩ | ⟨a1, a2, a3, ha⟩ | ⟨a1, a2, a3, a4, ha⟩ | ⟨a1, a2, a3, a4, ha⟩
    all_goals
      clear ha
      go_enter Tryz.func42, Tryz.ntmps42
      go_wp2_with fail
      go_ret
      exact ⟨_, rfl, rfl, by repeat (first | exact Below.refl _ _ | refine below_alloc_ ?_ _ | refine Below.drew ?_)⟩
  · have hT : trOk id xf xt xn = false := decide_eq_false (by omega)
    rw [hT]
    clear hT hi hn
    rcases ha with ⟨a1, ha⟩ | ⟨a1, a2, ha⟩ | ⟨a1, a2, a3, ha⟩ | ⟨a1, a2, a3, a4, ha⟩ | ⟨a1, a2, a3, a4, ha⟩
    all_goals
      clear ha
      go_enter Tryz.func42, Tryz.ntmps42
      go_wp2_with fail
      go_ret
      exact ⟨_, rfl, rfl, by repeat (first | exact Below.refl _ _ | refine below_alloc_ ?_ _ | refine Below.drew ?_)⟩
  · rcases ha with ⟨a1, ha⟩ | ⟨a1, a2, ha⟩ | ⟨a1, a2, a3, ha⟩ | ⟨a1, a2, a3, a4, ha⟩ | ⟨a1, a2, a3, a4, ha⟩
    case inr.inr.inr.inr =>
      rcases hn with ⟨n1, hn⟩ | ⟨n1, n2, hn⟩ | ⟨n1, n2, n3, hn⟩ | ⟨n1, n2, n3, hn, hn2, hn3⟩
      case inr.inr.inr =>
        have hT : trOk id xf xt xn = true := decide_eq_true (by omega)
        rw [hT]
        clear hT hi hn hn2 hn3 ha
        go_enter Tryz.func42, Tryz.ntmps42
        go_wp2_with fail
        go_ret
        exact ⟨_, rfl, rfl, by repeat (first | exact Below.refl _ _ | refine below_alloc_ ?_ _ | refine Below.drew ?_)⟩
      all_goals
        have hT : trOk id xf xt xn = false := decide_eq_false (by omega)
        rw [hT]
        clear hT hi hn ha
        go_enter Tryz.func42, Tryz.ntmps42
        go_wp2_with fail
        go_ret
        exact ⟨_, rfl, rfl, by repeat (first | exact Below.refl _ _ | refine below_alloc_ ?_ _ | refine Below.drew ?_)⟩
    all_goals
      have hT : trOk id xf xt xn = false := decide_eq_false (by omega)
      rw [hT]
      clear hT hi hn ha
      go_enter Tryz.func42, Tryz.ntmps42
      go_wp2_with fail
      go_ret
      exact ⟨_, rfl, rfl, by repeat (first | exact Below.refl _ _ | refine below_alloc_ ?_ _ | refine Below.drew ?_)⟩
theorem callOk_iff (x : VCall20) : callOk x = true ↔ trOk x.x_id x.x_xf x.x_xt x.x_xn = true ∧ inT x.fr = true ∧ inT x.too = true ∧ x.fr ≤ x.too ∧ ((x.fate = 2 ∧ 1 ≤ x.tt ∧ inT x.tt = true) ∨ (x.fate = 3 ∧ x.tt = 0)) := by
  unfold callOk trOk
  simp only [Bool.and_eq_true, decide_eq_true_eq, Bool.not_eq_true', beq_eq_false_iff_ne, ne_eq, isAc_iff, isA_iff]
  have key : ((if x.fate = 2 then decide (1 ≤ x.tt) && inT x.tt else if x.fate = 3 then x.tt == 0 else false) = true) ↔ ((x.fate = 2 ∧ 1 ≤ x.tt ∧ inT x.tt = true) ∨ (x.fate = 3 ∧ x.tt = 0)) := by
    by_cases h2 : x.fate = 2
    · rw [if_pos h2, Bool.and_eq_true, decide_eq_true_eq]
      exact ⟨fun h => .inl ⟨h2, h⟩, fun h => h.elim (fun h => h.2) (fun h => by omega)⟩
    · rw [if_neg h2]
      by_cases h3 : x.fate = 3
      · rw [if_pos h3, beq_iff_eq]
        exact ⟨fun h => .inr ⟨h3, h⟩, fun h => h.elim (fun h => absurd h.1 h2) (fun h => h.2)⟩
      · rw [if_neg h3]
        exact ⟨fun h => (by cases h), fun h => h.elim (fun h => absurd h.1 h2) (fun h => absurd h.1 h3)⟩
  rw [key]
  constructor
  · rintro ⟨a1, a2, ⟨a3, a4⟩, ⟨a5, a6⟩, a7, a8, ⟨a9, a10⟩, b1, b2, b3, b4⟩
    exact ⟨by omega, b1, b2, b3, b4⟩
  · rintro ⟨a, b1, b2, b3, b4⟩
    exact ⟨by omega, by omega, by omega, by omega, by omega, by omega, by omega, b1, b2, b3, b4⟩
theorem callOk_eq {x : VCall20} {b : Bool} (h : (trOk x.x_id x.x_xf x.x_xt x.x_xn = true ∧ inT x.fr = true ∧ inT x.too = true ∧ x.fr ≤ x.too ∧ ((x.fate = 2 ∧ 1 ≤ x.tt ∧ inT x.tt = true) ∨ (x.fate = 3 ∧ x.tt = 0))) ↔ b = true) : callOk x = b := by
  rw [Bool.eq_iff_iff, callOk_iff, h]
set_option maxRecDepth 100000 in
set_option maxHeartbeats 2000000 in
theorem rcall_any (id xf xt xn fr too fate tt : Int) (w : World) : Calls Tryz.prog 20 #[.agg #[.int .i64 id, .int .i64 xf, .int .i64 xt, .int .i64 xn, .int .i64 fr, .int .i64 too, .int .i64 fate, .int .i64 tt]] w fun e w' => e = .returned (.bool (callOk ⟨id, xf, xt, xn, fr, too, fate, tt⟩)) ∧ Below w.heap.size w w' := by
  have S0 := Lib.hid (Blk.new w 36 #[.int .i64 id, .int .i64 xf, .int .i64 xt, .int .i64 xn, .int .i64 fr, .int .i64 too, .int .i64 fate, .int .i64 tt])
  have W0 : Hid (Below w.heap.size w (w.alloc (.cells #[.int .i64 id, .int .i64 xf, .int .i64 xt, .int .i64 xn, .int .i64 fr, .int .i64 too, .int .i64 fate, .int .i64 tt] 36))) := Lib.hid (by repeat (first | exact Below.refl _ _ | refine below_alloc_ ?_ _ | refine Below.drew ?_))
  cases hT : trOk id xf xt xn
  · have hc : callOk ⟨id, xf, xt, xn, fr, too, fate, tt⟩ = false := callOk_eq (by simp [hT])
    rw [hc]
    have HT := Lib.hid hT
    clear hT hc
    go_enter Tryz.func20, Tryz.ntmps20
    go_wp2_with (go_at_call 42; (with_reducible refine (pnew_any _ _ _ _ _).mono ?_); rintro e w1 ⟨E, rfl, hE, hb⟩; have W1 := Lib.hid (below_then W0.out hb); have e1 : (E == 0) = false := hE.trans HT.out; have e2 : (E != 0) = true := bne_t e1; clear hb hE)
    go_ret
    exact ⟨rfl, W1.out⟩
  · have HT := Lib.hid hT
    have hh : (inT fr = false ∧ callOk ⟨id, xf, xt, xn, fr, too, fate, tt⟩ = false) ∨ (inT fr = true ∧ inT too = false ∧ callOk ⟨id, xf, xt, xn, fr, too, fate, tt⟩ = false) ∨ (inT fr = true ∧ inT too = true ∧ decide (too < fr) = true ∧ callOk ⟨id, xf, xt, xn, fr, too, fate, tt⟩ = false) ∨ (inT fr = true ∧ inT too = true ∧ decide (too < fr) = false) := by
      cases h1 : inT fr
      · exact .inl ⟨rfl, callOk_eq (by simp [h1])⟩
      · cases h2 : inT too
        · exact .inr (.inl ⟨rfl, rfl, callOk_eq (by simp [h2])⟩)
        · by_cases h3 : too < fr
          · exact .inr (.inr (.inl ⟨rfl, rfl, decide_eq_true h3, callOk_eq (by simp; omega)⟩))
          · exact .inr (.inr (.inr ⟨rfl, rfl, decide_eq_false h3⟩))
    rcases hh with ⟨h1, hc⟩ | ⟨h1, h2, hc⟩ | ⟨h1, h2, h3, hc⟩ | ⟨h1, h2, h3⟩
    · rw [hc]
      have F1 := Lib.hid h1
      clear hc hT h1
      go_enter Tryz.func20, Tryz.ntmps20
      go_wp2_with (first
        | (go_at_call 42; (with_reducible refine (pnew_any _ _ _ _ _).mono ?_); rintro e w1 ⟨E, rfl, hE, hb⟩; have W1 := Lib.hid (below_then W0.out hb); have S1 := Lib.hid (blk_pass S0.out (Below.refl _ _) hb); have e1 : (E == 0) = true := hE.trans HT.out; have e2 : (E != 0) = false := bne_f e1; clear hb hE; obtain ⟨x0, x1, x2, x3, x4, x5, x6, x7⟩ := S1.out.c8)
        | (go_at_call 26; (with_reducible refine (rtime_v (n := fr) _ F1.out).mono ?_); rintro e w2 ⟨rfl, rfl⟩))
      go_ret
      exact ⟨rfl, W1.out⟩
    · rw [hc]
      have F1 := Lib.hid h1; have F2 := Lib.hid h2
      clear hc hT h1 h2
      go_enter Tryz.func20, Tryz.ntmps20
      go_wp2_with (first
        | (go_at_call 42; (with_reducible refine (pnew_any _ _ _ _ _).mono ?_); rintro e w1 ⟨E, rfl, hE, hb⟩; have W1 := Lib.hid (below_then W0.out hb); have S1 := Lib.hid (blk_pass S0.out (Below.refl _ _) hb); have e1 : (E == 0) = true := hE.trans HT.out; have e2 : (E != 0) = false := bne_f e1; clear hb hE; obtain ⟨x0, x1, x2, x3, x4, x5, x6, x7⟩ := S1.out.c8)
        | (go_at_call 26; (with_reducible refine (rtime_v (n := fr) _ F1.out).mono ?_); rintro e w2 ⟨rfl, rfl⟩)
        | (go_at_call 26; (with_reducible refine (rtime_v (n := too) _ F2.out).mono ?_); rintro e w2 ⟨rfl, rfl⟩))
      go_ret
      exact ⟨rfl, W1.out⟩
    · rw [hc]
      have F1 := Lib.hid h1; have F2 := Lib.hid h2
      clear hc hT h1 h2
      go_enter Tryz.func20, Tryz.ntmps20
      go_wp2_with (first
        | (go_at_call 42; (with_reducible refine (pnew_any _ _ _ _ _).mono ?_); rintro e w1 ⟨E, rfl, hE, hb⟩; have W1 := Lib.hid (below_then W0.out hb); have S1 := Lib.hid (blk_pass S0.out (Below.refl _ _) hb); have e1 : (E == 0) = true := hE.trans HT.out; have e2 : (E != 0) = false := bne_f e1; clear hb hE; obtain ⟨x0, x1, x2, x3, x4, x5, x6, x7⟩ := S1.out.c8)
        | (go_at_call 26; (with_reducible refine (rtime_v (n := fr) _ F1.out).mono ?_); rintro e w2 ⟨rfl, rfl⟩)
        | (go_at_call 26; (with_reducible refine (rtime_v (n := too) _ F2.out).mono ?_); rintro e w2 ⟨rfl, rfl⟩))
      go_ret
      exact ⟨rfl, W1.out⟩
    · have h4 : fr ≤ too := by simpa using h3
      have hh : ((fate == 2) = true ∧ decide (0 < tt) = false ∧ callOk ⟨id, xf, xt, xn, fr, too, fate, tt⟩ = false) ∨ (∃ b, (fate == 2) = true ∧ decide (0 < tt) = true ∧ inT tt = b ∧ callOk ⟨id, xf, xt, xn, fr, too, fate, tt⟩ = b) ∨ ((fate == 2) = false ∧ (fate == 3) = false ∧ callOk ⟨id, xf, xt, xn, fr, too, fate, tt⟩ = false) ∨ (∃ b, (fate == 2) = false ∧ (fate == 3) = true ∧ (tt == 0) = b ∧ callOk ⟨id, xf, xt, xn, fr, too, fate, tt⟩ = b) := by
        by_cases f2 : fate = 2
        · by_cases t0 : 0 < tt
          · refine .inr (.inl ⟨inT tt, by simpa using f2, decide_eq_true t0, rfl, callOk_eq ?_⟩)
            constructor
            · rintro ⟨_, _, _, _, h | h⟩
              · exact h.2.2
              · have := h.1; dsimp only at this; omega
            · intro h
              exact ⟨hT, h1, h2, h4, .inl ⟨f2, by dsimp only; omega, h⟩⟩
          · refine .inl ⟨by simpa using f2, decide_eq_false t0, callOk_eq ?_⟩
            constructor
            · rintro ⟨_, _, _, _, h | h⟩
              · have := h.2.1; dsimp only at this; omega
              · have := h.1; dsimp only at this; omega
            · intro h; cases h
        · by_cases f3 : fate = 3
          · refine .inr (.inr (.inr ⟨(tt == 0), by simpa using f2, by simpa using f3, rfl, callOk_eq ?_⟩))
            constructor
            · rintro ⟨_, _, _, _, h | h⟩
              · exact absurd h.1 f2
              · have := h.2; dsimp only at this; simpa using this
            · intro h
              exact ⟨hT, h1, h2, h4, .inr ⟨f3, by simpa using h⟩⟩
          · exact .inr (.inr (.inl ⟨by simpa using f2, by simpa using f3, callOk_eq (by simp [f2, f3])⟩))
      have F1 := Lib.hid h1; have F2 := Lib.hid h2
      clear hT h1 h2 h4
      rcases hh with ⟨g1, g2, hc⟩ | ⟨b, g1, g2, g3, hc⟩ | ⟨g1, g2, hc⟩ | ⟨b, g1, g2, g3, hc⟩
      · rw [hc]
        clear hc
        go_enter Tryz.func20, Tryz.ntmps20
        go_wp2_with (first
          | (go_at_call 42; (with_reducible refine (pnew_any _ _ _ _ _).mono ?_); rintro e w1 ⟨E, rfl, hE, hb⟩; have W1 := Lib.hid (below_then W0.out hb); have S1 := Lib.hid (blk_pass S0.out (Below.refl _ _) hb); have e1 : (E == 0) = true := hE.trans HT.out; have e2 : (E != 0) = false := bne_f e1; clear hb hE; obtain ⟨x0, x1, x2, x3, x4, x5, x6, x7⟩ := S1.out.c8)
          | (go_at_call 26; (with_reducible refine (rtime_v (n := fr) _ F1.out).mono ?_); rintro e w2 ⟨rfl, rfl⟩)
          | (go_at_call 26; (with_reducible refine (rtime_v (n := too) _ F2.out).mono ?_); rintro e w2 ⟨rfl, rfl⟩))
        go_ret
        exact ⟨rfl, W1.out⟩
      · rw [hc]
        have F3 := Lib.hid g3
        clear hc g3
        cases b
        all_goals
          go_enter Tryz.func20, Tryz.ntmps20
          go_wp2_with (first
            | (go_at_call 42; (with_reducible refine (pnew_any _ _ _ _ _).mono ?_); rintro e w1 ⟨E, rfl, hE, hb⟩; have W1 := Lib.hid (below_then W0.out hb); have S1 := Lib.hid (blk_pass S0.out (Below.refl _ _) hb); have e1 : (E == 0) = true := hE.trans HT.out; have e2 : (E != 0) = false := bne_f e1; clear hb hE; obtain ⟨x0, x1, x2, x3, x4, x5, x6, x7⟩ := S1.out.c8)
            | (go_at_call 26; (with_reducible refine (rtime_v (n := fr) _ F1.out).mono ?_); rintro e w2 ⟨rfl, rfl⟩)
            | (go_at_call 26; (with_reducible refine (rtime_v (n := too) _ F2.out).mono ?_); rintro e w2 ⟨rfl, rfl⟩)
            | (go_at_call 26; (with_reducible refine (rtime_v (n := tt) _ F3.out).mono ?_); rintro e w2 ⟨rfl, rfl⟩))
          go_ret
          exact ⟨rfl, W1.out⟩
      · rw [hc]
        clear hc
        go_enter Tryz.func20, Tryz.ntmps20
        go_wp2_with (first
          | (go_at_call 42; (with_reducible refine (pnew_any _ _ _ _ _).mono ?_); rintro e w1 ⟨E, rfl, hE, hb⟩; have W1 := Lib.hid (below_then W0.out hb); have S1 := Lib.hid (blk_pass S0.out (Below.refl _ _) hb); have e1 : (E == 0) = true := hE.trans HT.out; have e2 : (E != 0) = false := bne_f e1; clear hb hE; obtain ⟨x0, x1, x2, x3, x4, x5, x6, x7⟩ := S1.out.c8)
          | (go_at_call 26; (with_reducible refine (rtime_v (n := fr) _ F1.out).mono ?_); rintro e w2 ⟨rfl, rfl⟩)
          | (go_at_call 26; (with_reducible refine (rtime_v (n := too) _ F2.out).mono ?_); rintro e w2 ⟨rfl, rfl⟩))
        go_ret
        exact ⟨rfl, W1.out⟩
      · rw [hc]
        clear hc
        cases b
        all_goals
          go_enter Tryz.func20, Tryz.ntmps20
          go_wp2_with (first
            | (go_at_call 42; (with_reducible refine (pnew_any _ _ _ _ _).mono ?_); rintro e w1 ⟨E, rfl, hE, hb⟩; have W1 := Lib.hid (below_then W0.out hb); have S1 := Lib.hid (blk_pass S0.out (Below.refl _ _) hb); have e1 : (E == 0) = true := hE.trans HT.out; have e2 : (E != 0) = false := bne_f e1; clear hb hE; obtain ⟨x0, x1, x2, x3, x4, x5, x6, x7⟩ := S1.out.c8)
            | (go_at_call 26; (with_reducible refine (rtime_v (n := fr) _ F1.out).mono ?_); rintro e w2 ⟨rfl, rfl⟩)
            | (go_at_call 26; (with_reducible refine (rtime_v (n := too) _ F2.out).mono ?_); rintro e w2 ⟨rfl, rfl⟩))
          go_ret
          exact ⟨rfl, W1.out⟩
end Go.Proofs.YtjhhpcjnhjbpdaaGreat
