/- LedgerFlows: the walk. -/
import Derived.Test.YtkfpopilkagedaaLgMo
import Derived.Deep.DeepCutAuto
set_option linter.unusedSimpArgs false
set_option linter.unusedVariables false
namespace Go.Proofs.Ytkfpopilkagedaa
open Go.RowKit Mo
def flo (x y S : Int) : Int → Option (Int × Int) := fput (fput (fun _ => none) x (1000000000000000 - S, 0)) y (S, 0)
theorem ex_r0 : rateOk 0 = true := by decide +kernel
theorem fl_fee {n : Int} (h0 : 0 ≤ n) (h1 : n ≤ 1000000000000000) : prodV n 0 false = 0 := by
  have h := (fee_val n 0 h0 h1 ex_r0).2.1
  have e : mag (rung 0) = 0 := by decide +kernel
  have h2 : ∀ Z : Nat, n.natAbs * mag (rung 0) / Z = 0 := fun Z => by rw [e, Nat.mul_zero, Nat.zero_div]
  rw [h2] at h
  exact h
theorem flo_x {x y S : Int} (h : x ≠ y) : flo x y S x = some (1000000000000000 - S, 0) := by unfold flo fput; rw [if_neg h, if_pos rfl]
theorem flo_y {x y S : Int} : flo x y S y = some (S, 0) := by unfold flo fput; rw [if_pos rfl]
theorem flo_ok {x y S : Int} (hx : isAc x = true) (hy : isAc y = true) (_h : x ≠ y) (s0 : 0 ≤ S) (s1 : S ≤ 1000000000000000) : FOk (flo x y S) 0 := by
  unfold flo
  exact ((FOk.nil 0).put hx (isA_iff.2 (by dsimp only; omega)) (Int.le_refl _) (by dsimp only; omega)).put hy (isA_iff.2 (by dsimp only; omega)) (Int.le_refl _) (by dsimp only; omega)
theorem flo_step {x y S p : Int} (h : x ≠ y) : fput (fput (flo x y S) x (1000000000000000 - S - p - 0, 0 + 0)) y (S + p, 0) = flo x y (S + p) := by
  funext t
  unfold flo fput
  by_cases hy : t = y
  · simp only [if_pos hy]
  · simp only [if_neg hy]
    by_cases hx : t = x
    · simp only [if_pos hx]
      rw [show (1000000000000000 - S - p - 0 : Int) = 1000000000000000 - (S + p) by omega]
      rfl
    · simp only [if_neg hx]
theorem flo_mv0 {x y S p : Int} (hx : isAc x = true) (hy : isAc y = true) (h : x ≠ y) (s0 : 0 ≤ S) (s1 : S ≤ 1000000000000000) (p0 : 1 ≤ p) (p1 : p ≤ 1000000000000000 - S) : MvIs (flo x y S) 0 x y p 0 0 (flo x y (S + p)) :=
  .inr (.inr (.inr (.inr (.inr (.inr (.inr ⟨(1000000000000000 - S, 0), (S, 0), ⟨hx, hy, p0, isA_iff.2 (by omega), h⟩, flo_x h, by dsimp only; omega, flo_y, isA_iff.2 (by dsimp only; omega), rfl, rfl, flo_step h⟩))))))
theorem flo_mv1 {x y S p fee : Int} (hx : isAc x = true) (hy : isAc y = true) (hp : p < 1 ∨ isA p = false) : MvIs (flo x y S) fee x y p 0 143 (flo x y S) :=
  .inr (.inl ⟨hx, hy, hp, rfl, rfl, rfl⟩)
theorem flo_mv2 {x y S p : Int} (hx : isAc x = true) (hy : isAc y = true) (h : x ≠ y) (p0 : 1 ≤ p) (p1 : isA p = true) (p2 : 1000000000000000 - S < p) : MvIs (flo x y S) 0 x y p 0 146 (flo x y S) :=
  .inr (.inr (.inr (.inr (.inl ⟨(1000000000000000 - S, 0), ⟨hx, hy, p0, p1, h⟩, flo_x h, by dsimp only; omega, rfl, rfl, rfl⟩))))
theorem flo_o1 {x : Int} (hx : isAc x = true) : OpIs (fun _ => none) x 1000000000000000 0 (fput (fun _ => none) x (1000000000000000, 0)) := .inr (.inr (.inr ⟨hx, rfl, by decide, rfl, rfl⟩))
theorem flo_o2 {x y : Int} (hy : isAc y = true) (h : x ≠ y) : OpIs (fput (fun _ => none) x (1000000000000000, 0)) y 0 0 (flo x y 0) :=
  .inr (.inr (.inr ⟨hy, by unfold fput; rw [if_neg (fun e => h e.symm)]; rfl, by decide, rfl, rfl⟩))
theorem new_0 (w : World) : Calls Try.prog 12 #[.float .f64 0] w fun e w' => ∃ b m, e = .returned (.tuple #[.pointer (some ⟨b, 0, none⟩), .int .i64 0]) ∧ w.heap.size ≤ b ∧ w.heap.size ≤ m ∧ Bk w' b 0 m 0 (fun _ => none) ∧ Below w.heap.size w w' := by
  refine (new_ok 0 w (by decide) ex_r0).mono ?_
  rintro e w' ⟨rfl, rfl⟩
  exact ⟨_, _, rfl, Nat.le_succ _, Nat.le_refl _, bk_new _ _, by repeat (first | exact Below.refl _ _ | refine below_alloc_ ?_ _ | refine Below.drew ?_)⟩
set_option maxRecDepth 100000 in
set_option maxHeartbeats 8000000 in
theorem ledgerFlows_walk (w : World) (a : Int) (ha : (Lit.int .u8 a).wf = true) (c : Int) (hc : (Lit.int .u8 c).wf = true) (A : Option Addr) (d : Nat) (xs : List Int) (hr : SlOk w 1 A d (xs.map (Value.int .i64))) (_hd : xs.length ≤ d) (hm : d ≤ maxLen) (hx : ∀ u_ ∈ xs, (Lit.int .i64 u_).wf = true) :
    Calls Try.prog 4 #[.int .u8 a, .int .u8 c, .slice A xs.length d] w fun e w' => e = .returned (.bool true) ∧ Below w.heap.size w w' := by
  have hrd := hr.reads (n := xs.length) (by simp) (by decide)
  have hml : xs.length ≤ 9223372036854775807 := by unfold maxLen at hm; omega
  obtain ⟨a0, a1⟩ : 0 ≤ a ∧ a ≤ 255 := by simpa [Lit.wf, IntKind.min, IntKind.max, IntKind.signed, IntKind.bits] using ha
  obtain ⟨c0, c1⟩ : 0 ≤ c ∧ c ≤ 255 := by simpa [Lit.wf, IntKind.min, IntKind.max, IntKind.signed, IntKind.bits] using hc
  have HA := Lib.hid hrd; have HX := Lib.hid hx
  have wa : (Lit.int .i64 a).wf = true := by simp [Lit.wf, IntKind.min, IntKind.max, IntKind.signed, IntKind.bits]; omega
  have wc : (Lit.int .i64 c).wf = true := by simp [Lit.wf, IntKind.min, IntKind.max, IntKind.signed, IntKind.bits]; omega
  have ac1 : isAc a = true := isAc_iff.2 (by omega)
  have ac2 : isAc c = true := isAc_iff.2 (by omega)
  clear hr hm hx hrd ha hc
  by_cases hne : a = c
  · subst hne
    have e1 : (a == a) = true := by simp
    have W0 : Hid (Below w.heap.size w w) := Lib.hid (Below.refl _ _)
    go_enter Try.func4, Try.ntmps4
    go_wp2_with (first
      | (go_at_call 12; (with_reducible refine (new_0 _).mono ?_); rintro e w1 ⟨b, m, rfl, _, _, _, hw⟩; have W1 := Lib.hid (below_then W0.out hw); clear W0; have W0 := W1; clear W1 hw)
      | (go_at_call 9; (with_reducible refine (awake14_any _).mono ?_); rintro e w2 ⟨rfl, hw⟩; have W1 := Lib.hid (below_then W0.out hw); clear W0; have W0 := W1; clear W1 hw))
    go_ret
    exact ⟨rfl, W0.out⟩
  · have e1 : (a == c) = false := by simpa using hne
    have O1 := Lib.hid (flo_o1 ac1); have O2 := Lib.hid (flo_o2 ac2 hne)
    go_enter Try.func4, Try.ntmps4
    go_wp2_with fail
    refine (new_0 _).mono ?_
    rintro e w1 ⟨b, m, rfl, hb, hm, hbk, hw⟩
    have B1 := Lib.hid hbk; have W1 := Lib.hid hw
    have bl := hbk.b.lt; have ml := hbk.m.lt
    clear hbk hw
    go_wp2_with fail
    refine (new_0 _).mono ?_
    rintro e w2 ⟨b', m', rfl, hb', hm', hbk, hw⟩
    have B2 := Lib.hid (B1.out.pass hw); have C2 := Lib.hid hbk; have W2 := Lib.hid (below_then W1.out hw)
    have n1 : b' ≠ m := by omega
    have n2 : m' ≠ m := by omega
    have n3 : b ≠ m' := by omega
    have hm' : w.heap.size ≤ m' := by have := W1.out.size; omega
    clear hbk hw bl ml hb'
    go_wp2_with fail
    refine (awake14_any _).mono ?_
    rintro e w3 ⟨rfl, hw⟩
    have B3 := Lib.hid (B2.out.pass hw); have C3 := Lib.hid (C2.out.pass hw); have W3 := Lib.hid (below_then W2.out hw)
    clear hw
    go_wp2_with fail
    refine (open_any b 0 m 0 _ a 1000000000000000 0 _ _ wa (by decide) (by decide) B3.out O1.out).mono ?_
    rintro e w4 ⟨rfl, hb4, hk4⟩
    have B4 := Lib.hid hb4; have C4 := Lib.hid (C3.out.keeps hk4 n1 n2); have W4 := Lib.hid (below_kp W3.out hk4 hm)
    clear hb4 hk4
    go_wp2_with fail
    refine (open_any b 0 m (0 + 1) _ c 0 0 _ _ wc (by decide) (by decide) B4.out O2.out).mono ?_
    rintro e w5 ⟨rfl, hb5, hk5⟩
    have B5 := Lib.hid hb5; have C5 := Lib.hid (C4.out.keeps hk5 n1 n2); have W5 := Lib.hid (below_kp W4.out hk5 hm)
    clear hb5 hk5
    go_wp2_with fail
    refine (open_any b' 0 m' 0 _ a 1000000000000000 0 _ _ wa (by decide) (by decide) C5.out O1.out).mono ?_
    rintro e w6 ⟨rfl, hb6, hk6⟩
    have C6 := Lib.hid hb6; have B6 := Lib.hid (B5.out.keeps hk6 n3 n2.symm); have W6 := Lib.hid (below_kp W5.out hk6 hm')
    clear hb6 hk6
    go_wp2_with fail
    refine (open_any b' 0 m' (0 + 1) _ c 0 0 _ _ wc (by decide) (by decide) C6.out O2.out).mono ?_
    rintro e w8 ⟨rfl, hb8, hk8⟩
    have C8 := Lib.hid (hb8.mono (show 0 + 1 + 1 ≤ 2 by omega)); have B8 := Lib.hid ((B6.out.keeps hk8 n3 n2.symm).mono (show 0 + 1 + 1 ≤ 2 by omega)); have W8 := Lib.hid (below_kp W6.out hk8 hm')
    clear hb8 hk8
    go_wp2_with fail
    go_loopw [13, 14] (fun s13 s14 wr => ∃ (k : Nat) (S : Int), k ≤ xs.length ∧ k ≤ 40 ∧ s14 = .int .i64 k ∧ s13 = .int .i64 S ∧ 0 ≤ S ∧ S ≤ 1000000000000000 ∧ Hid (Bk wr b 0 m (2 + 2 * k) (flo a c S)) ∧ Hid (Keeps (· = m) w8 wr)) (fun _ s _ => xs.length - (intOf s).toNat)
    case atStart => exact ⟨0, 0, Nat.zero_le _, by omega, rfl, rfl, by omega, by omega, B8, Lib.hid (Keeps.refl _ _)⟩
    case round =>
      obtain ⟨k, S, hk, hk4, rfl, rfl, s0, s1, HB, HK⟩ := hrel
      by_cases hlt : k < xs.length
      · by_cases h40 : k < 40
        · have hd : decide ((k : Int) < (xs.length : Int)) = true := by simp; omega
          have hd4 : decide ((k : Int) < 40) = true := by simp; omega
          have WR := Lib.hid (below_kp W8.out HK.out hm)
          obtain ⟨ad, u, rfl, hadb, hu, hcell⟩ := (HA.out.below WR.out).at_ hlt
          have hw := i64_wf (HX.out xs[k] (List.getElem_mem hlt))
          have wv := HX.out xs[k] (List.getElem_mem hlt)
          obtain rfl : u = .int .i64 xs[k] := by simp [hlt] at hu; rw [← hu]
          clear hu
          generalize xs[k] = p at *
          have hpb : (ad.add k).block ≠ m := by rw [block_of_add]; omega
          rcases (show ((p < 1 ∨ isA p = false)) ∨ (1 ≤ p ∧ isA p = true ∧ 1000000000000000 - S < p) ∨ (1 ≤ p ∧ p ≤ 1000000000000000 - S) from by
            by_cases h1 : p < 1
            · exact .inl (.inl h1)
            · cases h2 : isA p
              · exact .inl (.inr rfl)
              · by_cases h3 : 1000000000000000 - S < p
                · exact .inr (.inl ⟨by omega, rfl, h3⟩)
                · exact .inr (.inr ⟨by omega, by omega⟩)) with h | ⟨h1, h2, h3⟩ | ⟨h1, h2⟩
          · have HO := Lib.hid (flo_mv1 (S := S) (fee := prodV p 0 false) ac1 ac2 h)
            clear h
            go_wp2_with ((go_at_call 14; (with_reducible refine (move_any b 0 m (2 + 2 * k) (flo a c S) a c p _ 0 143 0 (flo a c S) _ HB.out (flo_ok ac1 ac2 hne s0 s1) (by omega) wa wc ex_r0 (by decide) rfl (by simp only [maxLen]; omega) HO.out).mono ?_); rintro e w9 ⟨rfl, hb9, hk9⟩; have HB9 := Lib.hid hb9; have HK9 := Lib.hid (HK.out.trans hk9); clear hb9 hk9))
            go_roundw
            case rel => exact ⟨k + 1, S, by omega, by omega, by go_num, rfl, s0, s1, Lib.hid (HB9.out.mono (by omega)), HK9⟩
            case measure => simp [intOf]; omega
          · have HO := Lib.hid (flo_mv2 ac1 ac2 hne h1 h2 h3)
            have HP := isA_iff.1 h2
            clear h2 h3
            go_wp2_with ((go_at_call 14; (with_reducible refine (move_any b 0 m (2 + 2 * k) (flo a c S) a c p _ 0 146 0 (flo a c S) _ HB.out (flo_ok ac1 ac2 hne s0 s1) (by omega) wa wc ex_r0 (by decide) (fl_fee (by omega) (by omega)) (by simp only [maxLen]; omega) HO.out).mono ?_); rintro e w9 ⟨rfl, hb9, hk9⟩; have HB9 := Lib.hid hb9; have HK9 := Lib.hid (HK.out.trans hk9); clear hb9 hk9))
            go_roundw
            case rel => exact ⟨k + 1, S, by omega, by omega, by go_num, rfl, s0, s1, Lib.hid (HB9.out.mono (by omega)), HK9⟩
            case measure => simp [intOf]; omega
          · have HO := Lib.hid (flo_mv0 ac1 ac2 hne s0 s1 h1 h2)
            go_wp2_with ((go_at_call 14; (with_reducible refine (move_any b 0 m (2 + 2 * k) (flo a c S) a c p _ 0 0 0 (flo a c (S + p)) _ HB.out (flo_ok ac1 ac2 hne s0 s1) (by omega) wa wc ex_r0 (by decide) (fl_fee (by omega) (by omega)) (by simp only [maxLen]; omega) HO.out).mono ?_); rintro e w9 ⟨rfl, hb9, hk9⟩; have HB9 := Lib.hid hb9; have HK9 := Lib.hid (HK.out.trans hk9); have z0 := keep_cell hcell hk9 hpb; clear hb9 hk9))
            go_roundw
            case rel => exact ⟨k + 1, S + p, by omega, by omega, by go_num, rfl, by omega, by omega, Lib.hid (HB9.out.mono (by omega)), HK9⟩
            case measure => simp [intOf]; omega
        · have hd : decide ((k : Int) < (xs.length : Int)) = true := by simp; omega
          have hd' : decide (k < xs.length) = true := by simp; omega
          have hd4 : decide ((k : Int) < 40) = false := by simp; omega
          have BX := HB
          have CX := Lib.hid (C8.out.keeps HK.out n1 n2)
          have WX := Lib.hid (below_kp W8.out HK.out hm)
          clear hlt HB HK
          rcases (show S = 0 ∨ 0 < S by omega) with hS | hS
          · subst hS
            have g0 : decide ((0 : Int) < 0) = false := rfl
            go_wp2_with fail
            refine (list_any b 0 m (2 + 2 * k) (flo a c 0) _ BX.out (by omega) (flo_ok ac1 ac2 hne (Int.le_refl _) (by omega)).sup).mono ?_
            rintro e w12 ⟨A12, c12, rfl, hr12, _, hb12⟩
            have R12 := Lib.hid hr12; have C12 := Lib.hid (CX.out.pass hb12); have W12 := Lib.hid (below_then WX.out hb12)
            clear hr12 hb12
            go_wp2_with fail
            refine (list_any b' 0 m' 2 (flo a c 0) _ C12.out (by omega) (flo_ok ac1 ac2 hne (Int.le_refl _) (by omega)).sup).mono ?_
            rintro e w13 ⟨A13, c13, rfl, hr13, _, hb13⟩
            have R13 := Lib.hid hr13; have R12' := Lib.hid (R12.out.pass hb13); have W13 := Lib.hid (below_then W12.out hb13)
            clear hr13 hb13
            go_wp2_with fail
            refine (lists_same _ R12'.out R13.out (by have := ents_len (flo a c 0); omega)).mono ?_
            rintro e w14 ⟨rfl, hb14⟩
            have W14 := Lib.hid (below_then W13.out hb14)
            clear hb14
            go_wp2_with fail
            go_ret
            exact ⟨rfl, W14.out⟩
          · have g0 : decide ((0 : Int) < S) = true := by simpa using hS
            have HO := Lib.hid (flo_mv0 (S := 0) (p := S) ac1 ac2 hne (Int.le_refl _) (by omega) (by omega) (by omega))
            rw [Int.zero_add] at HO
            clear hS
            go_wp2_with fail
            refine (move_any b' 0 m' 2 (flo a c 0) a c S _ 0 0 0 (flo a c S) _ CX.out (flo_ok ac1 ac2 hne (Int.le_refl _) (by omega)) (by omega) wa wc ex_r0 (by decide) (fl_fee (by omega) (by omega)) (by decide) HO.out).mono ?_
            rintro e w11 ⟨rfl, hb11, hk11⟩
            have C11 := Lib.hid hb11; have B11 := Lib.hid (BX.out.keeps hk11 n3 n2.symm); have W11 := Lib.hid (below_kp WX.out hk11 hm')
            clear hb11 hk11
            go_wp2_with fail
            refine (list_any b 0 m (2 + 2 * k) (flo a c S) _ B11.out (by omega) (flo_ok ac1 ac2 hne s0 s1).sup).mono ?_
            rintro e w12 ⟨A12, c12, rfl, hr12, _, hb12⟩
            have R12 := Lib.hid hr12; have C12 := Lib.hid (C11.out.pass hb12); have W12 := Lib.hid (below_then W11.out hb12)
            clear hr12 hb12
            go_wp2_with fail
            refine (list_any b' 0 m' (2 + 2) (flo a c S) _ C12.out (by omega) (flo_ok ac1 ac2 hne s0 s1).sup).mono ?_
            rintro e w13 ⟨A13, c13, rfl, hr13, _, hb13⟩
            have R13 := Lib.hid hr13; have R12' := Lib.hid (R12.out.pass hb13); have W13 := Lib.hid (below_then W12.out hb13)
            clear hr13 hb13
            go_wp2_with fail
            refine (lists_same _ R12'.out R13.out (by have := ents_len (flo a c S); omega)).mono ?_
            rintro e w14 ⟨rfl, hb14⟩
            have W14 := Lib.hid (below_then W13.out hb14)
            clear hb14
            go_wp2_with fail
            go_ret
            exact ⟨rfl, W14.out⟩
      · have hd : decide ((k : Int) < (xs.length : Int)) = false := by simp; omega
        have hd' : decide (k < xs.length) = false := by simp; omega
        have BX := HB
        have CX := Lib.hid (C8.out.keeps HK.out n1 n2)
        have WX := Lib.hid (below_kp W8.out HK.out hm)
        clear hlt HB HK
        rcases (show S = 0 ∨ 0 < S by omega) with hS | hS
        · subst hS
          have g0 : decide ((0 : Int) < 0) = false := rfl
          go_wp2_with fail
          refine (list_any b 0 m (2 + 2 * k) (flo a c 0) _ BX.out (by omega) (flo_ok ac1 ac2 hne (Int.le_refl _) (by omega)).sup).mono ?_
          rintro e w12 ⟨A12, c12, rfl, hr12, _, hb12⟩
          have R12 := Lib.hid hr12; have C12 := Lib.hid (CX.out.pass hb12); have W12 := Lib.hid (below_then WX.out hb12)
          clear hr12 hb12
          go_wp2_with fail
          refine (list_any b' 0 m' 2 (flo a c 0) _ C12.out (by omega) (flo_ok ac1 ac2 hne (Int.le_refl _) (by omega)).sup).mono ?_
          rintro e w13 ⟨A13, c13, rfl, hr13, _, hb13⟩
          have R13 := Lib.hid hr13; have R12' := Lib.hid (R12.out.pass hb13); have W13 := Lib.hid (below_then W12.out hb13)
          clear hr13 hb13
          go_wp2_with fail
          refine (lists_same _ R12'.out R13.out (by have := ents_len (flo a c 0); omega)).mono ?_
          rintro e w14 ⟨rfl, hb14⟩
          have W14 := Lib.hid (below_then W13.out hb14)
          clear hb14
          go_wp2_with fail
          go_ret
          exact ⟨rfl, W14.out⟩
        · have g0 : decide ((0 : Int) < S) = true := by simpa using hS
          have HO := Lib.hid (flo_mv0 (S := 0) (p := S) ac1 ac2 hne (Int.le_refl _) (by omega) (by omega) (by omega))
          rw [Int.zero_add] at HO
          clear hS
          go_wp2_with fail
          refine (move_any b' 0 m' 2 (flo a c 0) a c S _ 0 0 0 (flo a c S) _ CX.out (flo_ok ac1 ac2 hne (Int.le_refl _) (by omega)) (by omega) wa wc ex_r0 (by decide) (fl_fee (by omega) (by omega)) (by decide) HO.out).mono ?_
          rintro e w11 ⟨rfl, hb11, hk11⟩
          have C11 := Lib.hid hb11; have B11 := Lib.hid (BX.out.keeps hk11 n3 n2.symm); have W11 := Lib.hid (below_kp WX.out hk11 hm')
          clear hb11 hk11
          go_wp2_with fail
          refine (list_any b 0 m (2 + 2 * k) (flo a c S) _ B11.out (by omega) (flo_ok ac1 ac2 hne s0 s1).sup).mono ?_
          rintro e w12 ⟨A12, c12, rfl, hr12, _, hb12⟩
          have R12 := Lib.hid hr12; have C12 := Lib.hid (C11.out.pass hb12); have W12 := Lib.hid (below_then W11.out hb12)
          clear hr12 hb12
          go_wp2_with fail
          refine (list_any b' 0 m' (2 + 2) (flo a c S) _ C12.out (by omega) (flo_ok ac1 ac2 hne s0 s1).sup).mono ?_
          rintro e w13 ⟨A13, c13, rfl, hr13, _, hb13⟩
          have R13 := Lib.hid hr13; have R12' := Lib.hid (R12.out.pass hb13); have W13 := Lib.hid (below_then W12.out hb13)
          clear hr13 hb13
          go_wp2_with fail
          refine (lists_same _ R12'.out R13.out (by have := ents_len (flo a c S); omega)).mono ?_
          rintro e w14 ⟨rfl, hb14⟩
          have W14 := Lib.hid (below_then W13.out hb14)
          clear hb14
          go_wp2_with fail
          go_ret
          exact ⟨rfl, W14.out⟩
end Go.Proofs.Ytkfpopilkagedaa
