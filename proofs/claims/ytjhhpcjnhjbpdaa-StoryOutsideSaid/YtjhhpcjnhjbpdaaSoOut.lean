/- StoryOutside: the walk. -/
import Derived.Test.YtjhhpcjnhjbpdaaQF
set_option linter.unusedSimpArgs false
set_option linter.unusedVariables false
namespace Go.Proofs.Ytjhhpcjnhjbpdaa
open Go.RowKit Mo
set_option maxRecDepth 100000 in
set_option maxHeartbeats 4000000 in
theorem storyOutside_walk (w : World) (r : Nat) (A : Option Addr) (c : Nat) (ops : List VEntry) (B : Option Addr) (d : Nat) (l : List VCall20) (hwr : (Lit.float .f64 r).wf = true) (ha : SlOk w 2 A c (ops.flatMap VEntry.cells)) (hc : ops.length ≤ c) (hm : c ≤ maxLen) (hx : ∀ u_ ∈ ops, VEntry.ok w u_) (hb : SlOk w 8 B d (l.flatMap VCall20.cells)) (hd : l.length ≤ d) (hm2 : d ≤ maxLen) (hx2 : ∀ u_ ∈ l, VCall20.ok w u_) :
    Calls Try.prog 4 #[.agg #[.float .f64 r, .slice A ops.length c, .slice B l.length d]] w fun e w' => e = .returned (.bool true) ∧ Below w.heap.size w w' := by
  by_cases hfew : ops.length ≤ 20 ∧ l.length ≤ 40
  · obtain ⟨h1, h2⟩ := hfew
    have SI := Lib.hid (StIn.mk' hwr ha hx hb hd hx2 h1 h2)
    obtain ⟨F, R, G, EE, hrun⟩ := stRun_ex r ops l
    have SR := Lib.hid hrun
    clear hwr ha hc hm hx hb hd hm2 hx2 hrun
    have S0 := Lib.hid (Blk.new w 36 #[.float .f64 r, .slice A ops.length c, .slice B l.length d])
    have W0 : Hid (Below w.heap.size w (w.alloc (.cells #[.float .f64 r, .slice A ops.length c, .slice B l.length d] 36))) := Lib.hid (by repeat (first | exact Below.refl _ _ | refine below_alloc_ ?_ _ | refine Below.drew ?_))
    go_enter Try.func4, Try.ntmps4
    go_wp2_with fail
    refine (few_t r A B ops.length c l.length d _ h1 h2).mono ?_
    rintro e w1 ⟨rfl, hb1⟩
    have W1 := Lib.hid (below_then W0.out hb1)
    have S1 := Lib.hid (blk_pass S0.out (Below.refl _ _) hb1)
    obtain ⟨⟨s0, s1, s2⟩, sl⟩ := S1.out.c3
    clear hb1
    go_wp2_with fail
    refine (SI.out.check SR.out W1.out).mono ?_
    rintro e w2 ⟨V, E, rfl, hs, hb2⟩
    have W2 := Lib.hid (below_then W1.out hb2)
    have S2 := Lib.hid (blk_pass S1.out (Below.refl _ _) hb2)
    have CS := Lib.hid hs
    clear hb2 hs s0 s1 s2 sl S0 S1 W0 W1
    by_cases he : E = 0
    · subst he
      have FN := Lib.hid (fine_of_chk CS.out)
      have HV := Lib.hid (chk_of_fine CS.out FN.out).1
      go_wp2_with (go_at_call 7; (with_reducible refine (awake20_any _).mono ?_); rintro e w3 ⟨rfl, hb3⟩; have W3 := Lib.hid (below_then W2.out hb3); have S3 := Lib.hid (blk_pass S2.out (Below.refl _ _) hb3); clear hb3)
      clear S2 W2
      go_loopw [3, 5] (fun s3 s5 wr => ∃ (k : Nat) (m : Int), k ≤ l.length ∧ s5 = .int .i64 k ∧ s3 = .int .i64 m ∧ Hid (m = (R.length : Int) - (cmt l k).length) ∧ Hid (Blk wr w.heap.size 36 #[.float .f64 r, .slice A ops.length c, .slice B l.length d]) ∧ Hid (Below w.heap.size w wr)) (fun _ s _ => l.length - (intOf s).toNat)
      case atStart => exact ⟨0, V, Nat.zero_le _, rfl, rfl, Lib.hid (by rw [HV.out]; simp [cmt]), S3, W3⟩
      case round =>
        clear S3 W3
        obtain ⟨k, m, hk, rfl, rfl, HM, S, W⟩ := hrel
        rename World => wo
        obtain ⟨⟨s0, s1, s2⟩, sl⟩ := S.out.c3
        by_cases hlt : k < l.length
        · have hd : decide ((k : Int) < (l.length : Int)) = true := by simp; omega
          have hd' : decide (k < l.length) = true := by simp; omega
          obtain ⟨ad, hA, hadb, hcell⟩ := SI.out.hb.2 (by omega)
          have HC := Lib.hid hcell; have HAB := Lib.hid hadb
          subst hA
          obtain ⟨x0, x1, x2, x3, x4, x5, x6, x7⟩ := call_at8 W.out hadb hcell k hlt
          have TX := Lib.hid (fun h => wrong_time hlt (FN.out.2.2.1 k hlt) h)
          have C1 := Lib.hid (fun h => cmt_succ1 hlt h); have C0 := Lib.hid (fun h => cmt_succ0 hlt h)
          have CL := cmt_len l k
          have RL := SR.out.o.len
          have ML := SI.out.hl2
          clear hcell hadb
          generalize l[k] = x at *
          obtain ⟨xi, xf, xt, xn, xfr, xto, xfa, xs⟩ := x
          simp only at x0 x1 x2 x3 x4 x5 x6 x7 TX C1 C0
          have SA := Lib.hid (S.out.alloc (.cells #[.int .i64 xi, .int .i64 xf, .int .i64 xt, .int .i64 xn, .int .i64 xfr, .int .i64 xto, .int .i64 xfa, .int .i64 xs] 31))
          have XA := Lib.hid (Blk.new wo 31 #[.int .i64 xi, .int .i64 xf, .int .i64 xt, .int .i64 xn, .int .i64 xfr, .int .i64 xto, .int .i64 xfa, .int .i64 xs])
          have WA := Lib.hid (below_alloc_ W.out (.cells #[.int .i64 xi, .int .i64 xf, .int .i64 xt, .int .i64 xn, .int .i64 xfr, .int .i64 xto, .int .i64 xfa, .int .i64 xs] 31))
          have mb : -40 ≤ m ∧ m ≤ 40 := by have := HM.out; omega
          obtain ⟨mb0, mb1⟩ := mb
          by_cases h2 : xfa = 2
          · have e1 : (xfa == 2) = true := by simpa using h2
            have e2 : (xfa != 2) = false := by simpa using h2
            have TT := Lib.hid (TX.out h2)
            have CC := Lib.hid (C1.out h2)
            clear h2 S W
            go_wp2_with fail
            clear s0 s1 s2 sl x0 x1 x2 x3 x4 x5 x6 x7
            go_loopw [7] (fun s7 wr => ∃ j : Nat, j ≤ l.length ∧ s7 = .int .i64 j ∧ Hid (Blk wr w.heap.size 36 #[.float .f64 r, .slice A ops.length c, .slice (some ad) l.length d]) ∧ Hid (Blk wr wo.heap.size 31 #[.int .i64 xi, .int .i64 xf, .int .i64 xt, .int .i64 xn, .int .i64 xfr, .int .i64 xto, .int .i64 xfa, .int .i64 xs]) ∧ Hid (Below w.heap.size w wr)) (fun s _ => l.length - (intOf s).toNat)
            case atStart => exact ⟨0, Nat.zero_le _, rfl, SA, XA, WA⟩
            case round =>
              clear SA XA WA
              obtain ⟨j, hj, rfl, S, X, W⟩ := hrel
              rename World => wi
              obtain ⟨⟨s0, s1, s2⟩, sl⟩ := S.out.c3
              obtain ⟨x0, x1, x2, x3, x4, x5, x6, x7⟩ := X.out.c8
              have xl := X.out.lt
              by_cases hjl : j < l.length
              · have e0 : decide ((j : Int) < (l.length : Int)) = true := by simp; omega
                have e0' : decide (j < l.length) = true := by simp; omega
                obtain ⟨y0, y1, y2, y3, y4, y5, y6, y7⟩ := call_at8 W.out HAB.out HC.out j hjl
                have TY := Lib.hid (fun h => wrong_time hjl (FN.out.2.2.1 j hjl) h)
                generalize l[j] = y at *
                obtain ⟨yi, yf, yt, yn, yfr, yto, yfa, ys⟩ := y
                simp only at y0 y1 y2 y3 y4 y5 y6 y7 TY
                have SB := Lib.hid (S.out.alloc (.cells #[.int .i64 yi, .int .i64 yf, .int .i64 yt, .int .i64 yn, .int .i64 yfr, .int .i64 yto, .int .i64 yfa, .int .i64 ys] 31))
                have XB := Lib.hid (X.out.alloc (.cells #[.int .i64 yi, .int .i64 yf, .int .i64 yt, .int .i64 yn, .int .i64 yfr, .int .i64 yto, .int .i64 yfa, .int .i64 ys] 31))
                have WB := Lib.hid (below_alloc_ W.out (.cells #[.int .i64 yi, .int .i64 yf, .int .i64 yt, .int .i64 yn, .int .i64 yfr, .int .i64 yto, .int .i64 yfa, .int .i64 ys] 31))
                rcases (show (yfa == 2) = false ∨ ((yfa == 2) = true ∧ decide (xto ≤ yfr) = false) ∨ ((yfa == 2) = true ∧ decide (xto ≤ yfr) = true ∧ decide (ys ≤ xs) = false) by
                  by_cases h1 : yfa = 2
                  · have a := TY.out h1
                    have b := TT.out
                    simp only [h1, beq_self_eq_true, true_and, decide_eq_true_eq, decide_eq_false_iff_not]
                    omega
                  · exact .inl (by simpa using h1)) with e3 | ⟨e3, e4⟩ | ⟨e3, e4, e5⟩
                all_goals
                  go_wp2_with fail
                  go_roundw
                  case rel => exact ⟨j + 1, by omega, by go_num, SB, XB, WB⟩
                  case measure => simp [intOf]; omega
              · have e0 : decide ((j : Int) < (l.length : Int)) = false := by simp; omega
                have e0' : decide (j < l.length) = false := by simp; omega
                go_wp2_with fail
                go_roundw
                case rel => exact ⟨k + 1, m - 1, by omega, by go_num, rfl, Lib.hid (by rw [CC.out, HM.out, List.length_append]; simp; omega), S, W⟩
                case measure => simp [intOf]; omega
          · have e1 : (xfa == 2) = false := by simpa using h2
            have e2 : (xfa != 2) = true := by simpa using h2
            have CC := Lib.hid (C0.out h2)
            clear h2
            go_wp2_with fail
            go_roundw
            case rel => exact ⟨k + 1, m, by omega, by go_num, rfl, Lib.hid (by rw [CC.out]; exact HM.out), SA, WA⟩
            case measure => simp [intOf]; omega
        · have hd : decide ((k : Int) < (l.length : Int)) = false := by simp; omega
          have hd' : decide (k < l.length) = false := by simp; omega
          obtain rfl : k = l.length := by omega
          have hm0 : m = 0 := by rw [HM.out, SR.out.o.lenEq]; omega
          subst hm0
          go_wp2_with fail
          go_ret
          exact ⟨rfl, W.out⟩
    · have e1 : (E == 0) = false := by simpa using he
      have e2 : (E != 0) = true := by simpa using he
      clear he
      go_wp2_with (first
        | (go_at_call 7; (have := W3; clear this); (with_reducible refine (awake20_any _).mono ?_); rintro e w4 ⟨rfl, hb4⟩; have W4 := Lib.hid (below_then W3.out hb4); clear hb4)
        | (go_at_call 7; (with_reducible refine (awake20_any _).mono ?_); rintro e w3 ⟨rfl, hb3⟩; have W3 := Lib.hid (below_then W2.out hb3); clear hb3))
      go_ret
      exact ⟨rfl, W4.out⟩
  · have W0 : Hid (Below w.heap.size w (w.alloc (.cells #[.float .f64 r, .slice A ops.length c, .slice B l.length d] 36))) := Lib.hid (by repeat (first | exact Below.refl _ _ | refine below_alloc_ ?_ _ | refine Below.drew ?_))
    have HF := Lib.hid hfew
    have S0 := Lib.hid (Blk.new w 36 #[.float .f64 r, .slice A ops.length c, .slice B l.length d])
    clear hwr ha hc hm hx hb hd hm2 hx2 hfew
    go_enter Try.func4, Try.ntmps4
    go_wp2_with (first
      | (go_at_call 11; (with_reducible refine (few_f r A B ops.length c l.length d _ HF.out).mono ?_); rintro e w1 ⟨rfl, hb1⟩; have W1 := Lib.hid (below_then W0.out hb1); clear hb1)
      | (go_at_call 7; (with_reducible refine (awake20_any _).mono ?_); rintro e w3 ⟨rfl, hb3⟩; have W3 := Lib.hid (below_then W1.out hb3); clear hb3))
    go_ret
    exact ⟨rfl, W3.out⟩
end Go.Proofs.Ytjhhpcjnhjbpdaa
