/- StoryTurns: the walk. -/
import Derived.Test.YtjhhpcjnhjbpdaaSoTm
import Derived.IntWalk
set_option linter.unusedSimpArgs false
set_option linter.unusedVariables false
namespace Go.Proofs.Ytjhhpcjnhjbpdaa
open Go.RowKit Mo
theorem turns_few (w : World) (r : Nat) (A : Option Addr) (n c : Nat) (B : Option Addr) (m d : Nat) (at_ to_ : Int) (hfew : ¬ (n ≤ 20 ∧ m ≤ 40) ∨ m = 0) :
    Calls Try.prog 6 #[.agg #[.float .f64 r, .slice A n c, .slice B m d], .int .u8 at_, .int .u8 to_] w fun e w' => e = .returned (.bool true) ∧ Below w.heap.size w w' := by
  have W0 : Hid (Below w.heap.size w (w.alloc (.cells #[.float .f64 r, .slice A n c, .slice B m d] 36))) := Lib.hid (by repeat (first | exact Below.refl _ _ | refine below_alloc_ ?_ _ | refine Below.drew ?_))
  have S0 := Lib.hid (Blk.new w 36 #[.float .f64 r, .slice A n c, .slice B m d])
  by_cases hf : n ≤ 20 ∧ m ≤ 40
  · have hm : m = 0 := by omega
    subst hm
    obtain ⟨h1, h2⟩ := hf
    clear hfew
    go_enter Try.func6, Try.ntmps6
    go_wp2_with (first
      | (go_at_call 11; (with_reducible refine (few_t r A B n c 0 d _ h1 h2).mono ?_); rintro e w1 ⟨rfl, hb1⟩; have W1 := Lib.hid (below_then W0.out hb1); have S1 := Lib.hid (blk_pass S0.out (Below.refl _ _) hb1); clear hb1; obtain ⟨⟨s0, s1, s2⟩, sl⟩ := S1.out.c3)
      | (go_at_call 7; (with_reducible refine (awake20_any _).mono ?_); rintro e w3 ⟨rfl, hb3⟩; have W3 := Lib.hid (below_then W1.out hb3); clear hb3))
    go_ret
    exact ⟨rfl, W3.out⟩
  · have HF := Lib.hid hf
    clear hf hfew
    go_enter Try.func6, Try.ntmps6
    go_wp2_with (first
      | (go_at_call 11; (with_reducible refine (few_f r A B n c m d _ HF.out).mono ?_); rintro e w1 ⟨rfl, hb1⟩; have W1 := Lib.hid (below_then W0.out hb1); clear hb1)
      | (go_at_call 7; (with_reducible refine (awake20_any _).mono ?_); rintro e w3 ⟨rfl, hb3⟩; have W3 := Lib.hid (below_then W1.out hb3); clear hb3))
    go_ret
    exact ⟨rfl, W3.out⟩
theorem i64_small {n : Int} (h0 : 0 ≤ n) (h1 : n ≤ 255) : IntKind.i64.wrap n = n := IntWalk.i64_in _ (by omega)
set_option maxRecDepth 100000 in
set_option maxHeartbeats 1000000 in
theorem storyTurns_walk (w : World) (r : Nat) (A : Option Addr) (c : Nat) (ops : List VEntry) (B : Option Addr) (d : Nat) (l : List VCall20) (hwr : (Lit.float .f64 r).wf = true) (ha : SlOk w 2 A c (ops.flatMap VEntry.cells)) (hc : ops.length ≤ c) (hm : c ≤ maxLen) (hx : ∀ u_ ∈ ops, VEntry.ok w u_) (hb : SlOk w 8 B d (l.flatMap VCall20.cells)) (hd : l.length ≤ d) (hm2 : d ≤ maxLen) (hx2 : ∀ u_ ∈ l, VCall20.ok w u_) (at_ : Int) (wat : (Lit.int .u8 at_).wf = true) (to_ : Int) (wto : (Lit.int .u8 to_).wf = true) :
    Calls Try.prog 6 #[.agg #[.float .f64 r, .slice A ops.length c, .slice B l.length d], .int .u8 at_, .int .u8 to_] w fun e w' => e = .returned (.bool true) ∧ Below w.heap.size w w' := by
  by_cases hfew : (ops.length ≤ 20 ∧ l.length ≤ 40) ∧ 0 < l.length
  · obtain ⟨⟨h1, h2⟩, h0⟩ := hfew
    have hd2 : ((l.length : Int) == 0) = false := beq_eq_false_iff_ne.2 (by omega)
    have hd3 : (l.length == 0) = false := beq_eq_false_iff_ne.2 (by omega)
    have hn0 : (l.length : Int) ≠ 0 := by omega
    obtain ⟨t0, t1⟩ : 0 ≤ at_ ∧ at_ ≤ 255 := by simpa [Lit.wf, IntKind.min, IntKind.max, IntKind.signed, IntKind.bits] using wat
    obtain ⟨o0, o1⟩ : 0 ≤ to_ ∧ to_ ≤ 255 := by simpa [Lit.wf, IntKind.min, IntKind.max, IntKind.signed, IntKind.bits] using wto
    obtain ⟨i, hi1, hi⟩ : ∃ i : Nat, at_ % (l.length : Int) = i ∧ i < l.length := by
      have h1 := Int.emod_nonneg at_ hn0
      have h2 := Int.emod_lt_of_pos at_ (show (0 : Int) < l.length by omega)
      exact ⟨(at_ % (l.length : Int)).toNat, by omega, by omega⟩
    obtain ⟨k, hk1, hk⟩ : ∃ k : Nat, to_ % (l.length : Int) = k ∧ k < l.length := by
      have h1 := Int.emod_nonneg to_ hn0
      have h2 := Int.emod_lt_of_pos to_ (show (0 : Int) < l.length by omega)
      exact ⟨(to_ % (l.length : Int)).toNat, by omega, by omega⟩
    have hi2 : at_.tmod l.length = i := by rw [Int.tmod_eq_emod_of_nonneg t0]; exact hi1
    have hk2 : to_.tmod l.length = k := by rw [Int.tmod_eq_emod_of_nonneg o0]; exact hk1
    have SI := Lib.hid (StIn.mk' hwr ha hx hb hd hx2 h1 h2)
    obtain ⟨F, R, G, EE, hrun⟩ := stRun_ex r ops l
    have SR := Lib.hid hrun
    obtain ⟨i0, hi0, hz0, hz1, hz2⟩ := info_parts info_cl
    have hperm := @List.set_set_perm _ l i k hi hk
    have HP := Lib.hid hperm.symm
    have HXI := Lib.hid (show l[i]? = some l[i] from List.getElem?_eq_getElem hi)
    have HXK := Lib.hid (show l[k]? = some l[k] from List.getElem?_eq_getElem hk)
    clear hwr ha hc hm hx hb hd hm2 hx2 hrun wat wto hperm hi1 hk1
    generalize l[i] = x at *
    generalize l[k] = y at *
    obtain ⟨l', hl'⟩ : ∃ l', (l.set i y).set k x = l' := ⟨_, rfl⟩
    have HL' := Lib.hid hl'
    rw [hl'] at HP
    have hin : (i : Int) < l.length := by omega
    have hkn : (k : Int) < l.length := by omega
    have S0 := Lib.hid (Blk.new w 36 #[.float .f64 r, .slice A ops.length c, .slice B l.length d])
    have W0 : Hid (Below w.heap.size w (w.alloc (.cells #[.float .f64 r, .slice A ops.length c, .slice B l.length d] 36))) := Lib.hid (by repeat (first | exact Below.refl _ _ | refine below_alloc_ ?_ _ | refine Below.drew ?_))
    clear hl'
    go_enter Try.func6, Try.ntmps6
    go_wp2_with fail
    refine (few_t r A B ops.length c l.length d _ h1 h2).mono ?_
    rintro e w1 ⟨rfl, hb1⟩
    have W1 := Lib.hid (below_then W0.out hb1)
    have S1 := Lib.hid (blk_pass S0.out (Below.refl _ _) hb1)
    obtain ⟨⟨s0, s1, s2⟩, sl⟩ := S1.out.c3
    have R1 := Lib.hid ((SI.out.hb.below W1.out).more W1.out.size)
    clear hb1 S0 W0
    go_wp2_with (at_builtin
                 refine wpList_append_any _ rfl (.tmp 29) (.tmp 31) 22 rfl w1.heap.size 31 i0 _ 8 64 Try.underlying22 hi0 hz0 hz1 hz2 rfl (by omega) (.slice (some ⟨w1.heap.size, 0, none⟩) 0 0) 0 [] (by rfl) (own_empty8 (by rfl) (Nat.le_refl _)) _ B l.length d (l.flatMap VCall20.cells) (by rfl) (R1.out.al _) (one_cl l) (by simp only [maxLen]; omega) (by omega) (by simp) ?_
                 intro v1 w2 hown hg1 hat1
                 simp only [Nat.zero_add, List.nil_append] at hown
                 obtain ⟨g, cp, rfl, hgb, hH⟩ := HoldC.of_own hown h0
                 have H2 := Lib.hid hH
                 have B2 := Lib.hid ((below_alloc_ (Below.refl _ _) _).grown hg1 (by simp) (by simp [Value.ownBlock]))
                 clear hown hg1 hat1)
    have k1 : IntKind.i64.wrap at_ = at_ := i64_small t0 t1
    have k2 : IntKind.i64.wrap to_ = to_ := i64_small o0 o1
    go_quiet (fail)
    rename Nat => nq
    obtain ⟨w3, hw3⟩ : ∃ w3, w2.drewN nq = w3 := ⟨_, rfl⟩
    rw [hw3]
    have H3 : Hid (HoldC w3 g cp l) := Lib.hid (by rw [← hw3]; exact H2.out.drewN _)
    have W3 : Hid (Below w.heap.size w w3) := Lib.hid (by rw [← hw3]; exact below_dn (below_then W1.out B2.out) _)
    have S3 : Hid (Blk w3 w.heap.size 36 #[.float .f64 r, .slice A ops.length c, .slice B l.length d]) := Lib.hid (by rw [← hw3]; exact (blk_pass S1.out (Below.refl _ _) B2.out).drewN _)
    have hwg : w.heap.size ≤ g := by have := W1.out.size; omega
    clear k1 k2 hw3 H2 B2 S1 s0 s1 s2 R1 W1 hi2 hk2 hH
    obtain ⟨xi, xf, xt, xn, xfr, xto, xfa, xs⟩ := x
    obtain ⟨yi, yf, yt, yn, yfr, yto, yfa, ys⟩ := y
    have gl := H3.out.lt
    have HI0 := Lib.hid (And.intro hi hk)
    clear hi0 hz0 hz1 hz2
    go_upto_region 5 with fail
    go_cut [10] (fun s10 wx => ∃ b : Nat, s10 = .pointer (some ⟨b, 0, none⟩) ∧ b ≠ g ∧ Hid (Blk wx b 31 #[.int .i64 xi, .int .i64 xf, .int .i64 xt, .int .i64 xn, .int .i64 xfr, .int .i64 xto, .int .i64 xfa, .int .i64 xs]) ∧ Hid (HoldC wx g cp l) ∧ Hid (Blk wx w.heap.size 36 #[.float .f64 r, .slice A ops.length c, .slice B l.length d]) ∧ Hid (Below w.heap.size w wx))
    case first =>
      obtain ⟨x0, x1, x2, x3, x4, x5, x6, x7⟩ := H3.out.at HXI.out
      simp only at x0 x1 x2 x3 x4 x5 x6 x7
      go_wp2_with fail
      go_meet
      exact ⟨w3.heap.size, rfl, by omega, Lib.hid (Blk.new w3 _ _), Lib.hid (H3.out.alloc _), Lib.hid (S3.out.alloc _), Lib.hid (below_alloc_ W3.out _)⟩
    case rest =>
      obtain ⟨b, rfl, hbg, X4, H4, S4, W4⟩ := hcut
      clear H3 S3 W3
      rename World => w4
      go_upto_region 6 with fail
      go_cut [] (fun wx => Hid (Blk wx b 31 #[.int .i64 xi, .int .i64 xf, .int .i64 xt, .int .i64 xn, .int .i64 xfr, .int .i64 xto, .int .i64 xfa, .int .i64 xs]) ∧ Hid (HoldC wx g cp (l.set i ⟨yi, yf, yt, yn, yfr, yto, yfa, ys⟩)) ∧ Hid (Blk wx w.heap.size 36 #[.float .f64 r, .slice A ops.length c, .slice B l.length d]) ∧ Hid (Below w.heap.size w wx))
      case first =>
        obtain ⟨y0, y1, y2, y3, y4, y5, y6, y7⟩ := H4.out.at HXK.out
        simp only at y0 y1 y2 y3 y4 y5 y6 y7
        have gl4 := H4.out.lt
        obtain ⟨x0, x1, x2, x3, x4, x5, x6, x7⟩ := H4.out.at HXI.out
        simp only at x0 x1 x2 x3 x4 x5 x6 x7
        have f0 := H4.out.frozen (i * 8); have f1 := H4.out.frozen (i * 8 + 1); have f2 := H4.out.frozen (i * 8 + 2); have f3 := H4.out.frozen (i * 8 + 3); have f4 := H4.out.frozen (i * 8 + 4); have f5 := H4.out.frozen (i * 8 + 5); have f6 := H4.out.frozen (i * 8 + 6); have f7 := H4.out.frozen (i * 8 + 7)
        go_wp2_with fail
        go_meet
        have ng : w.heap.size ≠ g := by omega
        clear x0 x1 x2 x3 x4 x5 x6 x7 y0 y1 y2 y3 y4 y5 y6 y7 f0 f1 f2 f3 f4 f5 f6 f7
        refine ⟨?_, ?_, ?_, ?_⟩
        · exact Lib.hid (blk_far8 X4.out hbg (.int .i64 yi) (.int .i64 yf) (.int .i64 yt) (.int .i64 yn) (.int .i64 yfr) (.int .i64 yto) (.int .i64 yfa) (.int .i64 ys))
        · exact Lib.hid (H4.out.set8 hi yi yf yt yn yfr yto yfa ys)
        · exact Lib.hid (blk_far8 S4.out ng (.int .i64 yi) (.int .i64 yf) (.int .i64 yt) (.int .i64 yn) (.int .i64 yfr) (.int .i64 yto) (.int .i64 yfa) (.int .i64 ys))
        · exact Lib.hid (below_set8 W4.out hwg (.int .i64 yi) (.int .i64 yf) (.int .i64 yt) (.int .i64 yn) (.int .i64 yfr) (.int .i64 yto) (.int .i64 yfa) (.int .i64 ys))
      case rest =>
        obtain ⟨X5, H5, S5, W5⟩ := hcut
        clear X4 H4 S4 W4
        rename World => w5
        go_upto_region 7 with fail
        go_cut [] (fun wx => Hid (HoldC wx g cp l') ∧ Hid (Blk wx w.heap.size 36 #[.float .f64 r, .slice A ops.length c, .slice B l.length d]) ∧ Hid (Below w.heap.size w wx))
        case first =>
          obtain ⟨x0, x1, x2, x3, x4, x5, x6, x7⟩ := X5.out.c8
          have xl := X5.out.lt
          obtain ⟨y0, y1, y2, y3, y4, y5, y6, y7⟩ := H5.out.at (set_get hi HXK.out)
          simp only at y0 y1 y2 y3 y4 y5 y6 y7
          have f0 := H5.out.frozen (k * 8); have f1 := H5.out.frozen (k * 8 + 1); have f2 := H5.out.frozen (k * 8 + 2); have f3 := H5.out.frozen (k * 8 + 3); have f4 := H5.out.frozen (k * 8 + 4); have f5 := H5.out.frozen (k * 8 + 5); have f6 := H5.out.frozen (k * 8 + 6); have f7 := H5.out.frozen (k * 8 + 7)
          have hlk : k < (l.set i ⟨yi, yf, yt, yn, yfr, yto, yfa, ys⟩).length := by rw [List.length_set]; exact hk
          have gl5 := H5.out.lt
          go_wp2_with fail
          go_meet
          have ng : w.heap.size ≠ g := by omega
          clear x0 x1 x2 x3 x4 x5 x6 x7 y0 y1 y2 y3 y4 y5 y6 y7 f0 f1 f2 f3 f4 f5 f6 f7
          have H6 := H5.out.set8 hlk xi xf xt xn xfr xto xfa xs
          rw [HL'.out] at H6
          refine ⟨?_, ?_, ?_⟩
          · exact Lib.hid H6
          · exact Lib.hid (blk_far8 S5.out ng (.int .i64 xi) (.int .i64 xf) (.int .i64 xt) (.int .i64 xn) (.int .i64 xfr) (.int .i64 xto) (.int .i64 xfa) (.int .i64 xs))
          · exact Lib.hid (below_set8 W5.out hwg (.int .i64 xi) (.int .i64 xf) (.int .i64 xt) (.int .i64 xn) (.int .i64 xfr) (.int .i64 xto) (.int .i64 xfa) (.int .i64 xs))
        case rest =>
          obtain ⟨H6, S6, W6⟩ := hcut
          clear X5 H5 S5 W5
          rename World => w6
          have hll := HP.out.length_eq
          obtain ⟨F', R', G', EE', hrun'⟩ := stRun_ex r ops l'
          have SR' := Lib.hid hrun'
          have SI' := Lib.hid (show StIn w6 r A c ops (some ⟨g, 0, none⟩) cp l' from ⟨SI.out.hr, (SI.out.ha.below W6.out).more W6.out.size, SI.out.hx, SI.out.hl, H6.out.reads, fun u hu => SI.out.hx2 u (HP.out.mem_iff.2 hu), by rw [← hll]; exact SI.out.hl2, H6.out.le⟩)
          have HLL := Lib.hid hll.symm
          have hFF : F ops.length = F' ops.length := opRuns_det SR.out.f SR'.out.f _ (Nat.le_refl _)
          obtain ⟨⟨s0, s1, s2⟩, sl6⟩ := S6.out.c3
          by_cases hf : Fine r ops l R EE
          · obtain ⟨hf', hRR, hGG⟩ := fine_perm SR.out SR'.out hFF HP.out hf
            have FF := Lib.hid hf; have FF' := Lib.hid hf'; have HRR := Lib.hid hRR.symm; have HGG := Lib.hid hGG.symm
            have hel := ents_len (G R.length)
            obtain ⟨gg, hgg⟩ : ∃ gg, G R.length = gg := ⟨_, rfl⟩
            have HG1 := Lib.hid hgg
            have HG2 := Lib.hid (hGG.symm.trans hgg)
            obtain ⟨m, hm⟩ : ∃ m, R.length = m := ⟨_, rfl⟩
            have HM1 := Lib.hid hm
            have HM2 := Lib.hid (hRR.symm.trans hm)
            rw [hgg] at hel
            clear hf hf' hRR hGG hFF hrun' hll hgg hm HGG HRR
            have mm : ((m : Int) != (m : Int)) = false := by simp
            go_wp2_with fail
            refine (check_fine SI.out SR.out W6.out rfl HM1.out FF.out).mono ?_
            rintro e w7 ⟨rfl, hb7⟩
            have W7 := Lib.hid hb7
            have S7 := Lib.hid (blk_pass S6.out (Below.refl _ _) hb7)
            clear hb7 s0 s1 s2 sl6
            obtain ⟨⟨s0, s1, s2⟩, sl7⟩ := S7.out.c3
            go_wp2_with fail
            refine (check_fine SI'.out SR'.out W7.out HLL.out HM2.out FF'.out).mono ?_
            rintro e w8 ⟨rfl, hb8⟩
            have W8 := Lib.hid (below_then W7.out hb8)
            have S8 := Lib.hid (blk_pass S7.out (Below.refl _ _) hb8)
            clear hb8 s0 s1 s2 sl7
            go_wp2_with fail
            refine (awake20_any _).mono ?_
            rintro e w9 ⟨rfl, hb9⟩
            have W9 := Lib.hid (below_then W8.out hb9)
            have S9 := Lib.hid (blk_pass S8.out (Below.refl _ _) hb9)
            clear hb9 S7 S8 W7 W8
            obtain ⟨⟨s0, s1, s2⟩, sl9⟩ := S9.out.c3
            go_wp2_with fail
            refine (at_fine SI.out SR.out (below_then W6.out W9.out) rfl HG1.out FF.out).mono ?_
            rintro e w10 ⟨A1, c1, rfl, hr1, hb10⟩
            have W10 := Lib.hid (below_then W9.out hb10)
            have S10 := Lib.hid (blk_pass S9.out (Below.refl _ _) hb10)
            have R10 := Lib.hid hr1
            clear hb10 s0 s1 s2 sl9 hr1
            obtain ⟨⟨s0, s1, s2⟩, sl10⟩ := S10.out.c3
            go_wp2_with fail
            refine (at_fine SI'.out SR'.out W10.out HLL.out HG2.out FF'.out).mono ?_
            rintro e w11 ⟨A2, c2, rfl, hr2, hb11⟩
            have W11 := Lib.hid (below_then W10.out hb11)
            have R11 := Lib.hid (R10.out.pass hb11)
            have R2 := Lib.hid hr2
            clear hb11 s0 s1 s2 sl10 hr2
            go_wp2_with fail
            refine (lists_same _ R11.out R2.out (by omega)).mono ?_
            rintro e w12 ⟨rfl, hb12⟩
            have W12 := Lib.hid (below_then W6.out (below_then W11.out hb12))
            clear hb12
            go_wp2_with fail
            go_ret
            exact ⟨rfl, W12.out⟩
          · have hf' : ¬ Fine r ops l' R' EE' := fun h => hf (fine_perm SR'.out SR.out hFF.symm HP.out.symm h).1
            have FF := Lib.hid hf; have FF' := Lib.hid hf'
            clear hf hf' hFF hrun' hll
            go_wp2_with fail
            refine (check_unfine SI.out SR.out W6.out rfl FF.out).mono ?_
            rintro e w7 ⟨V1, E1, rfl, hE1, hb7⟩
            have W7 := Lib.hid hb7
            have S7 := Lib.hid (blk_pass S6.out (Below.refl _ _) hb7)
            have e1 : (E1 == 0) = false := by simpa using hE1
            clear hb7 s0 s1 s2 sl6 hE1
            obtain ⟨⟨s0, s1, s2⟩, sl7⟩ := S7.out.c3
            go_wp2_with fail
            refine (check_unfine SI'.out SR'.out W7.out HLL.out FF'.out).mono ?_
            rintro e w8 ⟨V2, E2, rfl, hE2, hb8⟩
            have W8 := Lib.hid (below_then W7.out hb8)
            have S8 := Lib.hid (blk_pass S7.out (Below.refl _ _) hb8)
            have e2 : (E2 == 0) = false := by simpa using hE2
            clear hb8 s0 s1 s2 sl7 hE2
            go_wp2_with fail
            refine (awake20_any _).mono ?_
            rintro e w9 ⟨rfl, hb9⟩
            have W9 := Lib.hid (below_then W8.out hb9)
            have S9 := Lib.hid (blk_pass S8.out (Below.refl _ _) hb9)
            clear hb9 S7 S8 W7 W8
            obtain ⟨⟨s0, s1, s2⟩, sl9⟩ := S9.out.c3
            go_wp2_with fail
            refine (at_unfine SI.out SR.out (below_then W6.out W9.out) rfl FF.out _).mono ?_
            rintro e w10 ⟨A1, c1, E3, rfl, hE3, hr1, hb10⟩
            have W10 := Lib.hid (below_then W9.out hb10)
            have S10 := Lib.hid (blk_pass S9.out (Below.refl _ _) hb10)
            have R10 := Lib.hid hr1
            have e3 : (E3 == 0) = false := by simpa using hE3
            clear hb10 s0 s1 s2 sl9 hr1 hE3
            obtain ⟨⟨s0, s1, s2⟩, sl10⟩ := S10.out.c3
            go_wp2_with fail
            refine (at_unfine SI'.out SR'.out W10.out HLL.out FF'.out _).mono ?_
            rintro e w11 ⟨A2, c2, E4, rfl, hE4, hr2, hb11⟩
            have W11 := Lib.hid (below_then W10.out hb11)
            have R11 := Lib.hid (R10.out.pass hb11)
            have R2 := Lib.hid hr2
            have e4 : (E4 == 0) = false := by simpa using hE4
            clear hb11 s0 s1 s2 sl10 hr2 hE4
            go_wp2_with fail
            refine (lists_same (xs := []) _ R11.out R2.out (by simp)).mono ?_
            rintro e w12 ⟨rfl, hb12⟩
            have W12 := Lib.hid (below_then W6.out (below_then W11.out hb12))
            clear hb12
            go_wp2_with fail
            go_ret
            exact ⟨rfl, W12.out⟩
  · refine turns_few w r A ops.length c B l.length d at_ to_ ?_
    omega
end Go.Proofs.Ytjhhpcjnhjbpdaa
