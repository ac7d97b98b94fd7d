/- LedgerMoves: the walk. -/
import Derived.Test.YtkfpopilkagedaaLgZ
import Derived.IntWalk
import Derived.Deep.QuietTactic
import Derived.BigQuiet
set_option linter.unusedSimpArgs false
set_option linter.unusedVariables false
namespace Go.Proofs.Ytkfpopilkagedaa
open Go.RowKit Mo
theorem MvIs.cases {f f' : Int → Option (Int × Int)} {fee a c n V E : Int} (h : MvIs f fee a c n V E f') :
    (E ≠ 0 ∧ V = 0 ∧ f = f') ∨ (∃ x1 x2 y1 y2, E = 0 ∧ V = fee ∧ mvOk a c n ∧ f a = some (x1, x2) ∧ f c = some (y1, y2) ∧ n + fee ≤ x1 ∧ f' a = some (x1 - n - fee, x2 + fee) ∧ f' c = some (y1 + n, y2) ∧ ∀ t, t ≠ a → t ≠ c → f' t = f t) := by
  rcases h with ⟨_, h, rfl, h'⟩ | ⟨_, _, _, h, rfl, h'⟩ | ⟨_, _, _, _, _, h, rfl, h'⟩ | ⟨_, _, h, rfl, h'⟩ | ⟨_, _, _, _, h, rfl, h'⟩ | ⟨_, _, _, _, _, h, rfl, h'⟩ | ⟨_, _, _, _, _, _, _, h, rfl, h'⟩ | ⟨x, y, ho, hx, hs, hy, hz, h, rfl, rfl⟩
  · exact .inl ⟨by decide, h, h'⟩
  · exact .inl ⟨by decide, h, h'⟩
  · exact .inl ⟨by decide, h, h'⟩
  · exact .inl ⟨by decide, h, h'⟩
  · exact .inl ⟨by decide, h, h'⟩
  · exact .inl ⟨by decide, h, h'⟩
  · exact .inl ⟨by decide, h, h'⟩
  · have hne := ho.2.2.2.2
    refine .inr ⟨x.1, x.2, y.1, y.2, rfl, h, ho, hx, hy, hs, ?_, ?_, ?_⟩
    · unfold fput
      rw [if_neg hne, if_pos rfl]
    · unfold fput
      rw [if_pos rfl]
    · intro t h1 h2
      unfold fput
      rw [if_neg h2, if_neg h1]
theorem has_v {b r m n : Nat} {f : Int → Option (Int × Int)} {a x y : Int} (w : World) (ha : (Lit.int .i64 a).wf = true) (h : Bk w b r m n f) (e : f a = some (x, y)) : Calls Try.prog 17 #[.pointer (some ⟨b, 0, none⟩), .int .i64 a] w fun e w' => e = .returned (.tuple #[.int .i64 x, .bool true]) ∧ Below w.heap.size w w' := by
  refine (has_any b r m n f a w ha h).mono ?_
  rintro e' w' ⟨rfl, rfl⟩
  rw [e]
  exact ⟨rfl, by repeat (first | exact Below.refl _ _ | refine below_alloc_ ?_ _ | refine Below.drew ?_)⟩
theorem paid_v {b r m n : Nat} {f : Int → Option (Int × Int)} {a x y : Int} (w : World) (ha : (Lit.int .i64 a).wf = true) (h : Bk w b r m n f) (e : f a = some (x, y)) : Calls Try.prog 18 #[.pointer (some ⟨b, 0, none⟩), .int .i64 a] w fun e w' => e = .returned (.int .i64 y) ∧ w = w' := by
  refine (paid_any b r m n f a w ha h).mono ?_
  rintro e' w' ⟨rfl, rfl⟩
  rw [e]
  exact ⟨rfl, rfl⟩
theorem has_g {b r m n : Nat} {f : Int → Option (Int × Int)} {a x : Int} {s : Bool} (w : World) (ha : (Lit.int .i64 a).wf = true) (h : Bk w b r m n f) (e : ((f a).getD (0, 0)).1 = x) (e2 : (f a).isSome = s) : Calls Try.prog 17 #[.pointer (some ⟨b, 0, none⟩), .int .i64 a] w fun e w' => e = .returned (.tuple #[.int .i64 x, .bool s]) ∧ Below w.heap.size w w' := by
  refine (has_any b r m n f a w ha h).mono ?_
  rintro e' w' ⟨rfl, rfl⟩
  rw [e, e2]
  exact ⟨rfl, by repeat (first | exact Below.refl _ _ | refine below_alloc_ ?_ _ | refine Below.drew ?_)⟩
theorem paid_g {b r m n : Nat} {f : Int → Option (Int × Int)} {a y : Int} (w : World) (ha : (Lit.int .i64 a).wf = true) (h : Bk w b r m n f) (e : ((f a).getD (0, 0)).2 = y) : Calls Try.prog 18 #[.pointer (some ⟨b, 0, none⟩), .int .i64 a] w fun e w' => e = .returned (.int .i64 y) ∧ w = w' := by
  refine (paid_any b r m n f a w ha h).mono ?_
  rintro e' w' ⟨rfl, rfl⟩
  rw [e]
  exact ⟨rfl, rfl⟩
theorem Bk.pass {w w' : World} {b r m n : Nat} {f : Int → Option (Int × Int)} (h : Bk w b r m n f) (hb : Below w.heap.size w w') : Bk w' b r m n f := h.keeps (Keeps.of_below (S := fun _ => False) hb) id id
theorem sameL_refl (l : List (Int × Int)) : sameL l l = true := by unfold sameL; simp
/-- two lists, and whether they are the same -/
theorem lists_same {A B : Option Addr} {c d : Nat} {xs : List (Int × Int)} (w : World) (ha : Reads w w.heap.size 2 A xs.length (xs.flatMap eC)) (hb : Reads w w.heap.size 2 B xs.length (xs.flatMap eC)) (hx : xs.length ≤ 100000) :
    Calls Try.prog 15 #[.slice A xs.length c, .slice B xs.length d] w fun e w' => e = .returned (.bool true) ∧ Below w.heap.size w w' := by
  have := same_any A B c d xs xs w ha hb hx hx
  rw [sameL_refl] at this
  exact this
theorem Reads.pass {w w' : World} {size n : Nat} {A : Option Addr} {xs : List Value} (h : Reads w w.heap.size size A n xs) (hb : Below w.heap.size w w') : Reads w' w'.heap.size size A n xs := (h.below hb).more hb.size
theorem Bk.dn {w : World} {b r m n : Nat} {f : Int → Option (Int × Int)} (h : Bk w b r m n f) (k : Nat) : Bk (w.drewN k) b r m n f := by
  obtain ⟨h1, D, h2, h3⟩ := h
  exact ⟨h1.drewN k, D, h2, h3⟩
theorem paid_q {b r m n : Nat} {f : Int → Option (Int × Int)} {a y : Int} (w : World) (ha : (Lit.int .i64 a).wf = true) (h : Bk w b r m n f) (e : ((f a).getD (0, 0)).2 = y) : Calls Try.prog 18 #[.pointer (some ⟨b, 0, none⟩), .int .i64 a] w fun e w' => e = .returned (.int .i64 y) ∧ w' = w :=
  (paid_g w ha h e).mono fun _ _ ⟨h1, h2⟩ => ⟨h1, h2.symm⟩
set_option maxRecDepth 100000 in
set_option maxHeartbeats 4000000 in
theorem ledgerMoves_walk (w : World) (r : Nat) (hwr : (Lit.float .f64 r).wf = true) (A : Option Addr) (c : Nat) (xs : List VOp14) (hr : SlOk w 4 A c (xs.flatMap VOp14.cells)) (hc : xs.length ≤ c) (hm : c ≤ maxLen) (hx : ∀ u_ ∈ xs, VOp14.ok w u_) (kd fr too am : Int) (w0 : (Lit.int .i64 kd).wf = true) (wf1 : (Lit.int .i64 fr).wf = true) (wf2 : (Lit.int .i64 too).wf = true) (wf3 : (Lit.int .i64 am).wf = true) :
    Calls Try.prog 5 #[.float .f64 r, .slice A xs.length c, .agg #[.int .i64 kd, .int .i64 fr, .int .i64 too, .int .i64 am]] w fun e w' => e = .returned (.bool true) ∧ Below w.heap.size w w' := by
  have ha := hr.reads (n := xs.length) (flatMap_len _ _ 4 (fun _ => rfl)) (by decide)
  have hml : xs.length ≤ 9223372036854775807 := by unfold maxLen at hm; omega
  have hb64 : r < 18446744073709551616 := by simpa [Lit.wf] using hwr
  have HA := Lib.hid (Reads.al ha (.cells #[.int .i64 kd, .int .i64 fr, .int .i64 too, .int .i64 am] 44)); have HX := Lib.hid (show ∀ u ∈ xs, VOp14.ok (w.alloc (.cells #[.int .i64 kd, .int .i64 fr, .int .i64 too, .int .i64 am] 44)) u from fun u hu => hx u hu)
  clear hr hm hx ha
  cases hrt : rateOk r
  · have HR := Lib.hid hrt
    clear hrt
    go_enter Try.func5, Try.ntmps5
    go_wp2_with (first
      | (go_at_call 8; (with_reducible refine (made_bad r _ _ _ _ hb64 HR.out).mono ?_); rintro e w1 ⟨rfl, rfl⟩; have HB : Hid (Below w.heap.size w (w.alloc (.cells #[.int .i64 kd, .int .i64 fr, .int .i64 too, .int .i64 am] 44))) := Lib.hid (by repeat (first | exact Below.refl _ _ | refine below_alloc_ ?_ _ | refine Below.drew ?_)))
      | (go_at_call 9; (with_reducible refine (awake14_any _).mono ?_); rintro e w2 ⟨rfl, hb⟩; have HB1 := Lib.hid (below_then HB.out hb); clear HB; have HB := HB1; clear HB1; clear hb))
    go_ret
    exact ⟨rfl, HB.out⟩
  · have HR := Lib.hid hrt
    clear hrt
    have O0 := Lib.hid (Blk.new w 44 #[.int .i64 kd, .int .i64 fr, .int .i64 too, .int .i64 am])
    have W0 : Hid (Below w.heap.size w (w.alloc (.cells #[.int .i64 kd, .int .i64 fr, .int .i64 too, .int .i64 am] 44))) := Lib.hid (by repeat (first | exact Below.refl _ _ | refine below_alloc_ ?_ _ | refine Below.drew ?_))
    have ol := O0.out.lt
    go_enter Try.func5, Try.ntmps5
    go_wp2_with (first
      | (go_at_call 8; (with_reducible refine (made_ok r A c xs _ HA.out HX.out hml hb64 HR.out).mono ?_); rintro e w1 ⟨b, m, f, N, rfl, hb, hm, hf, ht, n0, n1, hbk, hbw⟩; have HF := Lib.hid hf; have B1 := Lib.hid hbk; have W1 := Lib.hid hbw; clear hf ht hbk hbw n0 n1)
      | (go_at_call 9; (with_reducible refine (awake14_any _).mono ?_); rintro e w2 ⟨rfl, hb2⟩; have B2 := Lib.hid (B1.out.pass hb2); have W2 := Lib.hid (below_then W1.out hb2); clear hb2))
    have bl := B2.out.b.lt; have ml := B2.out.m.lt
    refine (copy_any b r m 80 f _ B2.out (by omega)).mono ?_
    rintro e w3 ⟨b', m', rfl, hb', hm', hc3, hb3⟩
    have nb : b' ≠ m := by omega
    have nm : m' ≠ m := by omega
    have B3 := Lib.hid (B2.out.pass hb3); have C3 := Lib.hid hc3; have W3 := Lib.hid (below_then W2.out hb3)
    have O3 := Lib.hid (Blk.below O0.out W3.out O0.out.lt)
    obtain ⟨o0, o1, o2, o3⟩ := O3.out.c4
    clear hc3 hb3 hb' hm' bl ml
    obtain ⟨V, E, f', hO⟩ := mv_of f (prodV am r false) fr too am
    have HO := Lib.hid hO
    have HC := Lib.hid hO.cases
    have HF' := Lib.hid (hO.fee_ok HR.out HF.out (by decide))
    clear hO
    go_wp2_with fail
    refine (move_any b r m 80 f fr too am _ V E 40 f' _ B3.out HF.out (by omega) wf1 wf2 HR.out hb64 rfl (by decide) HO.out).mono ?_
    rintro e w4 ⟨rfl, hb4, hk4⟩
    have nbm := B3.out.ne
    have B4 := Lib.hid hb4; have C4 := Lib.hid (C3.out.keeps hk4 nb nm); have W4 := Lib.hid (below_kp W3.out hk4 hm)
    have O4 := Lib.hid (Blk.below O0.out W4.out O0.out.lt)
    clear hb4 hk4 o0 o1 o2 o3
    rcases HC.out with ⟨he, hV, hf⟩ | ⟨x1, x2, y1, y2, he, hV, ho, hfx, hfy, hs, hgx, hgy, hot⟩
    · subst hV; subst hf
      have b0 : (E == 0) = false := by simpa using he
      have b1 : (E != 0) = true := by simpa using he
      clear he HC HO
      go_wp2_with (first
        | (go_at_call 10; (with_reducible refine (list_any b' r m' 80 f _ C4.out (by omega) HF.out.sup).mono ?_); rintro e w5 ⟨A5, c5, rfl, hr5, _, hb5⟩; have R5 := Lib.hid hr5; have B5 := Lib.hid (B4.out.pass hb5); have W5 := Lib.hid (below_then W4.out hb5); clear hr5 hb5)
        | (go_at_call 10; (with_reducible refine (list_any b r m (80 + 2) f _ B5.out (by omega) HF.out.sup).mono ?_); rintro e w6 ⟨A6, c6, rfl, hr6, _, hb6⟩; have R6 := Lib.hid hr6; have R5' := Lib.hid (R5.out.pass hb6); have W6 := Lib.hid (below_then W5.out hb6); clear hr6 hb6)
        | (go_at_call 15; (with_reducible refine (lists_same _ R5'.out R6.out (by have := ents_len f; omega)).mono ?_); rintro e w7 ⟨rfl, hb7⟩; have W7 := Lib.hid (below_then W6.out hb7); clear hb7))
      go_ret
      exact ⟨rfl, below_then W0.out W7.out⟩
    · subst he
      have hn := ho.2.2.2.1
      have hfb := fee_bd HR.out hn
      have hne := ho.2.2.2.2
      obtain ⟨am0, am1⟩ := isA_iff.1 hn
      rw [← hV] at hs hgx hfb
      obtain ⟨_, g2, g3, g4⟩ := HF.out fr _ hfx
      obtain ⟨_, k2, k3, k4⟩ := HF.out too _ hfy
      obtain ⟨x10, x11⟩ := isA_iff.1 g2
      obtain ⟨y10, y11⟩ := isA_iff.1 k2
      obtain ⟨V0, V1⟩ := hfb
      dsimp only at x10 x11 y10 y11 g3 g4 k3 k4
      have HFX := Lib.hid hfx; have HFY := Lib.hid hfy; have HGX := Lib.hid hgx; have HGY := Lib.hid hgy; have HOT := Lib.hid hot
      have P1 := Lib.hid (show ((f' fr).getD (0, 0)).2 = x2 + V by rw [hgx]; rfl)
      have P2 := Lib.hid (show ((f fr).getD (0, 0)).2 = x2 by rw [hfx]; rfl)
      have P3 := Lib.hid (show ((f' too).getD (0, 0)).2 = y2 by rw [hgy]; rfl)
      have P4 := Lib.hid (show ((f too).getD (0, 0)).2 = y2 by rw [hfy]; rfl)
      clear HC HO hV ho hn hfx hfy hgx hgy hot g2 k2 hne
      obtain ⟨o0, o1, o2, o3⟩ := O4.out.c4
      have ol4 := O4.out.lt
      go_wp2_with (first
        | (go_at_call 17; (with_reducible refine (has_v (b := b') (a := fr) _ wf1 C4.out HFX.out).mono ?_); rintro e w5 ⟨rfl, hb5⟩; have B5 := Lib.hid (B4.out.pass hb5); have C5 := Lib.hid (C4.out.pass hb5); have W5 := Lib.hid (below_then W4.out hb5); have O5 := Lib.hid (Blk.below O0.out W5.out O0.out.lt); clear hb5 o0 o1 o2 o3; obtain ⟨o0, o1, o2, o3⟩ := O5.out.c4)
        | (go_at_call 17; (with_reducible refine (has_v (b := b') (a := too) _ wf2 C5.out HFY.out).mono ?_); rintro e w6 ⟨rfl, hb6⟩; have B6 := Lib.hid (B5.out.pass hb6); have C6 := Lib.hid (C5.out.pass hb6); have W6 := Lib.hid (below_then W5.out hb6); have O6 := Lib.hid (Blk.below O0.out W6.out O0.out.lt); clear hb6 o0 o1 o2 o3; obtain ⟨o0, o1, o2, o3⟩ := O6.out.c4)
        | (go_at_call 17; (with_reducible refine (has_v (b := b) (a := fr) _ wf1 B6.out HGX.out).mono ?_); rintro e w7 ⟨rfl, hb7⟩; have B7 := Lib.hid (B6.out.pass hb7); have C7 := Lib.hid (C6.out.pass hb7); have W7 := Lib.hid (below_then W6.out hb7); have O7 := Lib.hid (Blk.below O0.out W7.out O0.out.lt); clear hb7 o0 o1 o2 o3; obtain ⟨o0, o1, o2, o3⟩ := O7.out.c4)
        | (go_at_call 17; (with_reducible refine (has_v (b := b) (a := too) _ wf2 B7.out HGY.out).mono ?_); rintro e w8 ⟨rfl, hb8⟩; have B8 := Lib.hid (B7.out.pass hb8); have C8 := Lib.hid (C7.out.pass hb8); have W8 := Lib.hid (below_then W7.out hb8); have O8 := Lib.hid (Blk.below O0.out W8.out O0.out.lt); clear hb8 o0 o1 o2 o3; obtain ⟨o0, o1, o2, o3⟩ := O8.out.c4))
      have z1 : IntKind.i64.wrap (x1 - am) = x1 - am := IntWalk.i64_in _ (by omega)
      have z2 : IntKind.i64.wrap (x1 - am - V) = x1 - am - V := IntWalk.i64_in _ (by omega)
      have z3 : IntKind.i64.wrap (y1 + am) = y1 + am := IntWalk.i64_in _ (by omega)
      have z4 : IntKind.i64.wrap (x2 + V) = x2 + V := IntWalk.i64_in _ (by omega)
      have d1 : decide (V < 0) = false := by simp; omega
      have d2 : decide (am < V) = false := by simp; omega
      have d3 : ((x1 - am - V) != (x1 - am - V)) = false := by simp
      have d4 : ((y1 + am) != (y1 + am)) = false := by simp
      have d5 : ((x2 + V) != (x2 + V)) = false := by simp
      have d6 : (y2 != y2) = false := by simp
      go_quiet ((go_at_call 18; first | with_reducible exact Calls.quiet_of_same (paid_q (b := b) (a := fr) _ wf1 (B8.out.dn _) P1.out) | with_reducible exact Calls.quiet_of_same (paid_q (b := b') (a := fr) _ wf1 (C8.out.dn _) P2.out) | with_reducible exact Calls.quiet_of_same (paid_q (b := b) (a := too) _ wf2 (B8.out.dn _) P3.out) | with_reducible exact Calls.quiet_of_same (paid_q (b := b') (a := too) _ wf2 (C8.out.dn _) P4.out)))
      clear z1 z2 z3 z4 d1 d2 d3 d4 d5 d6
      go_wp2_with fail
      clear o0 o1 o2 o3
      go_loopw [20] (fun s wr => ∃ k : Nat, k ≤ xs.length ∧ s = .int .i64 k ∧ Hid (Below w8.heap.size w8 wr)) (fun s _ => xs.length - (intOf s).toNat)
      case atStart => exact ⟨0, Nat.zero_le _, rfl, Lib.hid (below_dn (Below.refl _ _) _)⟩
      case round =>
        obtain ⟨k, hk, rfl, HW⟩ := hrel
        have W9 := Lib.hid (below_then W8.out HW.out)
        by_cases hlt : k < xs.length
        · have hd : decide ((k : Int) < (xs.length : Int)) = true := by simp; omega
          by_cases h40 : k < 40
          · have hd4 : decide ((k : Int) < 40) = true := by simp; omega
            obtain ⟨ad, hA, hadb, hcell⟩ := (HA.out.below W9.out).2 (by omega)
            subst hA
            obtain ⟨q0, q1, q2, q3⟩ := ops_at hcell k hlt
            obtain ⟨v0, v1, v2, v3⟩ := HX.out xs[k] (List.getElem_mem hlt)
            clear hcell
            generalize xs[k] = u at *
            obtain ⟨ukd, ufr, t, uam⟩ := u
            simp only at q0 q1 q2 q3 v0 v1 v2 v3
            have B9 := Lib.hid (B8.out.pass HW.out); have C9 := Lib.hid (C8.out.pass HW.out)
            have O9 := Lib.hid (Blk.below O0.out W9.out O0.out.lt)
            obtain ⟨o0, o1, o2, o3⟩ := O9.out.c4
            have ol9 := O9.out.lt
            rcases (show t = fr ∨ (t ≠ fr ∧ t = too) ∨ (t ≠ fr ∧ t ≠ too) by omega) with h | ⟨h, h2⟩ | ⟨h, h2⟩
            · have e1 : (t == fr) = true := by simpa using h
              clear h
              go_wp2_with fail
              go_roundw
              case rel => exact ⟨k + 1, by omega, by go_num, HW⟩
              case measure => simp [intOf]; omega
            · have e1 : (t == fr) = false := by simpa using h
              have e2 : (t == too) = true := by simpa using h2
              clear h h2
              go_wp2_with fail
              go_roundw
              case rel => exact ⟨k + 1, by omega, by go_num, HW⟩
              case measure => simp [intOf]; omega
            · have e1 : (t == fr) = false := by simpa using h
              have e2 : (t == too) = false := by simpa using h2
              have he := HOT.out t h h2
              obtain ⟨v, hv⟩ : ∃ v, ((f t).getD (0, 0)).1 = v := ⟨_, rfl⟩
              obtain ⟨p, hp⟩ : ∃ p, ((f t).getD (0, 0)).2 = p := ⟨_, rfl⟩
              obtain ⟨s, hs2⟩ : ∃ s, (f t).isSome = s := ⟨_, rfl⟩
              have V1 := Lib.hid hv; have V2 := Lib.hid hp; have V3 := Lib.hid hs2
              have U1 := Lib.hid (show ((f' t).getD (0, 0)).1 = v by rw [he]; exact hv)
              have U2 := Lib.hid (show ((f' t).getD (0, 0)).2 = p by rw [he]; exact hp)
              have U3 := Lib.hid (show (f' t).isSome = s by rw [he]; exact hs2)
              have n1 : (v != v) = false := by simp
              have n2 : (s != s) = false := by simp
              have n3 : (p != p) = false := by simp
              clear h h2 he hv hp hs2
              go_wp2_with (first
                | (go_at_call 17; (with_reducible refine (has_g (b := b') (a := t) _ v2 C9.out V1.out V3.out).mono ?_); rintro e w10 ⟨rfl, hb10⟩; have B10 := Lib.hid (B9.out.pass hb10); have C10 := Lib.hid (C9.out.pass hb10); have H10 := Lib.hid (below_then HW.out hb10); clear hb10 q0 q1 q2 q3 o0 o1 o2 o3)
                | (go_at_call 17; (with_reducible refine (has_g (b := b) (a := t) _ v2 B10.out U1.out U3.out).mono ?_); rintro e w11 ⟨rfl, hb11⟩; have B11 := Lib.hid (B10.out.pass hb11); have C11 := Lib.hid (C10.out.pass hb11); have H11 := Lib.hid (below_then H10.out hb11); clear hb11)
                | (go_at_call 18; (with_reducible refine (paid_g (b := b') (a := t) _ v2 C11.out V2.out).mono ?_); rintro e w12 ⟨rfl, rfl⟩)
                | (go_at_call 18; (with_reducible refine (paid_g (b := b) (a := t) _ v2 B11.out U2.out).mono ?_); rintro e w12 ⟨rfl, rfl⟩))
              go_roundw
              case rel => exact ⟨k + 1, by omega, by go_num, H11⟩
              case measure => simp [intOf]; omega
          · have hd4 : decide ((k : Int) < 40) = false := by simp; omega
            go_wp2_with fail
            go_ret
            exact ⟨rfl, below_then W0.out W9.out⟩
        · have hd : decide ((k : Int) < (xs.length : Int)) = false := by simp; omega
          have hd' : decide (k < xs.length) = false := by simp; omega
          go_wp2_with fail
          go_ret
          exact ⟨rfl, below_then W0.out W9.out⟩
end Go.Proofs.Ytkfpopilkagedaa
