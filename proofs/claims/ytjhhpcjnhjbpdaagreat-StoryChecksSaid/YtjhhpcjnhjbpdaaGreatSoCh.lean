/- StoryChecks: the walk. -/
import Derived.Test.YtjhhpcjnhjbpdaaGreatSoDt
import Derived.Test.YtjhhpcjnhjbpdaaGreatSoTm
import Derived.Test.YtjhhpcjnhjbpdaaGreatDcC
import Derived.IntWalk
set_option linter.unusedSimpArgs false
set_option linter.unusedVariables false
namespace Go.Proofs.YtjhhpcjnhjbpdaaGreat
open Go.RowKit Mo
theorem own_le {w : World} {base : Nat} {e : TypeId} {size n : Nat} {A : Option Addr} {c : Nat} {xs : List Value} (h : w.ownsRow base e size (.slice A n c) n xs) : n ≤ c := by
  rcases h.2 with ⟨h0, _⟩ | ⟨g, cap, cur, hv, _, _, hc, _⟩
  · omega
  · injection hv with _ _ h3; omega
theorem one_en2 (l : List VEntry) : ∀ u ∈ l.flatMap VEntry.cells, u.oneCell' = true := by
  intro u hu
  obtain ⟨x, _, hx⟩ := List.mem_flatMap.1 hu
  simp [VEntry.cells] at hx
  rcases hx with rfl | rfl <;> rfl
theorem own_blk8 {w : World} {e : TypeId} {base b : Nat} (h : Blk w b e #[]) (hb : base ≤ b) : w.ownsRow base e 8 (.slice (some ⟨b, 0, none⟩) 0 0) 0 [] :=
  ⟨rfl, .inr ⟨b, 0, #[], rfl, hb, h, Nat.le_refl _, by simp [maxLen], rfl, rfl⟩⟩
theorem ve_eC (l : List VEntry) : l.flatMap VEntry.cells = (l.map fun x => (x.key, x.v)).flatMap eC := by
  induction l with
  | nil => rfl
  | cons x l ih => simp only [List.flatMap_cons, List.map_cons, ih]; rfl
theorem ents_same {A B : Option Addr} {c d : Nat} {xs : List VEntry} (w : World) (ha : Reads w w.heap.size 2 A xs.length (xs.flatMap VEntry.cells)) (hb : Reads w w.heap.size 2 B xs.length (xs.flatMap VEntry.cells)) (hx : xs.length ≤ 100000) :
    Calls Tryz.prog 9 #[.slice A xs.length c, .slice B xs.length d] w fun e w' => e = .returned (.bool true) ∧ Below w.heap.size w w' := by
  rw [ve_eC] at ha hb
  have := lists_same (xs := xs.map fun x => (x.key, x.v)) (c := c) (d := d) w (by rw [List.length_map]; exact ha) (by rw [List.length_map]; exact hb) (by rw [List.length_map]; exact hx)
  rw [List.length_map] at this
  exact this
set_option maxRecDepth 100000 in
set_option maxHeartbeats 4000000 in
theorem storyChecks_walk (w : World) (r : Nat) (A : Option Addr) (c : Nat) (ops : List VEntry) (B : Option Addr) (d : Nat) (l : List VCall20) (hwr : (Lit.float .f64 r).wf = true) (ha : SlOk w 2 A c (ops.flatMap VEntry.cells)) (hc : ops.length ≤ c) (hm : c ≤ maxLen) (hx : ∀ u_ ∈ ops, VEntry.ok w u_) (hb : SlOk w 8 B d (l.flatMap VCall20.cells)) (hd : l.length ≤ d) (hm2 : d ≤ maxLen) (hx2 : ∀ u_ ∈ l, VCall20.ok w u_) :
    Calls Tryz.prog 3 #[.agg #[.float .f64 r, .slice A ops.length c, .slice B l.length d]] w fun e w' => e = .returned (.bool true) ∧ Below w.heap.size w w' := by
  by_cases hfew : ops.length ≤ 20 ∧ l.length ≤ 40
  · obtain ⟨h1, h2⟩ := hfew
    have SI := Lib.hid (StIn.mk' hwr ha hx hb hd hx2 h1 h2)
    obtain ⟨F, R, G, EE, hrun⟩ := stRun_ex r ops l
    have SR := Lib.hid hrun
    obtain ⟨i0, hi0, hz0, hz1, hz2⟩ := info_parts info_en
    obtain ⟨j0, hj0, hy0, hy1, hy2⟩ := info_parts info_cl
    clear hwr ha hc hm hx hb hd hm2 hx2 hrun
    have S0 := Lib.hid (Blk.new w 26 #[.float .f64 r, .slice A ops.length c, .slice B l.length d])
    have W0 : Hid (Below w.heap.size w (w.alloc (.cells #[.float .f64 r, .slice A ops.length c, .slice B l.length d] 26))) := Lib.hid (by repeat (first | exact Below.refl _ _ | refine below_alloc_ ?_ _ | refine Below.drew ?_))
    go_enter Tryz.func3, Tryz.ntmps3
    go_wp2_with fail
    refine (few_t r A B ops.length c l.length d _ h1 h2).mono ?_
    rintro e w1 ⟨rfl, hb1⟩
    have W1 := Lib.hid (below_then W0.out hb1)
    have S1 := Lib.hid (blk_pass S0.out (Below.refl _ _) hb1)
    obtain ⟨⟨s0, s1, s2⟩, sl⟩ := S1.out.c3
    have R1 := Lib.hid ((SI.out.ha.below W1.out).more W1.out.size)
    have Q1 := Lib.hid ((SI.out.hb.below W1.out).more W1.out.size)
    clear hb1 S0 W0
    go_wp2_with fail
    go_upto_region 3 with fail
    go_cut [3, 4] (fun s3 s4 wx => ∃ A1 c1 A2 c2, s3 = .slice A1 ops.length c1 ∧ s4 = .slice A2 l.length c2 ∧ l.length ≤ c2 ∧ Hid (Reads wx wx.heap.size 2 A1 ops.length (ops.flatMap VEntry.cells)) ∧ Hid (Reads wx wx.heap.size 8 A2 l.length (l.flatMap VCall20.cells)) ∧ Hid (Below w1.heap.size w1 wx))
    case first =>
      go_wp2_with fail
      go_region_held3 (fun w' => w'.cell? ⟨w.heap.size, 1, none⟩ = some (.slice A ops.length c) ∧ w'.cell? ⟨w.heap.size, 2, none⟩ = some (.slice B l.length d)) (first | exact ⟨m1, m2⟩ | go_keep)
        (first
          | ((refine step_append_any ((w1.alloc (.cells #[] 42)).drew) (by rfl) (.tmp 14) (.tmp 16) 23 (by rfl) w1.heap.size 42 i0 _ 2 16 Tryz.underlying23 hi0 hz0 hz1 hz2 rfl (by decide) (.slice (some ⟨w1.heap.size, 0, none⟩) 0 0) 0 [] (by rfl) (by repeat (first | with_reducible exact own_emptyE (by simp) (by simp) | with_reducible refine own_al ?_ _ | with_reducible refine own_dr ?_)) _ A ops.length c (ops.flatMap VEntry.cells) (by rfl) (by repeat (first | with_reducible exact R1.out | with_reducible refine Reads.al ?_ _ | with_reducible refine Reads.dr ?_)) (one_en2 ops) (by simp only [maxLen]; omega) (by omega) (by simp <;> omega) ?_);
             intro v1 w2 ho1 hg1 hat1;
             (simp only [Nat.zero_add, List.nil_append] at ho1);
             have B2 : Hid (Below w1.heap.size w1 w2) := Lib.hid (Below.grown (by repeat (first | with_reducible exact Below.refl _ _ | with_reducible refine below_alloc_ ?_ _ | with_reducible refine Below.drew ?_)) hg1 (by simp <;> omega) (fun k e => by simp [Value.ownBlock] at e; omega));
             have O2 := Lib.hid ho1;
             have N1 : Hid (∀ k, v1.ownBlock = some k → k < w2.heap.size ∧ k ≠ w2.heap.size) := Lib.hid (fun k hk => ⟨(ho1.lt k hk).2, Nat.ne_of_lt (ho1.lt k hk).2⟩);
             have R2 := Lib.hid (Reads.below R1.out B2.out);
             have Q2 := Lib.hid ((Reads.below Q1.out B2.out).more B2.out.size);
             have m1 := below_cell s1 B2.out;
             have m2 := below_cell s2 B2.out;
             clear ho1 hg1 hat1)
          | ((refine step_append_any (((w1.alloc (.cells #[] 42)).alloc (.cells #[] 36)).drew) (by rfl) (.tmp 14) (.tmp 16) 23 (by rfl) w1.heap.size 42 i0 _ 2 16 Tryz.underlying23 hi0 hz0 hz1 hz2 rfl (by decide) (.slice (some ⟨w1.heap.size, 0, none⟩) 0 0) 0 [] (by rfl) (by repeat (first | with_reducible exact own_emptyE (by simp) (by simp) | with_reducible refine own_al ?_ _ | with_reducible refine own_dr ?_)) _ A ops.length c (ops.flatMap VEntry.cells) (by rfl) (by repeat (first | with_reducible exact R1.out | with_reducible refine Reads.al ?_ _ | with_reducible refine Reads.dr ?_)) (one_en2 ops) (by simp only [maxLen]; omega) (by omega) (by simp <;> omega) ?_);
             intro v1 w2 ho1 hg1 hat1;
             (simp only [Nat.zero_add, List.nil_append] at ho1);
             have B2 : Hid (Below w1.heap.size w1 w2) := Lib.hid (Below.grown (by repeat (first | with_reducible exact Below.refl _ _ | with_reducible refine below_alloc_ ?_ _ | with_reducible refine Below.drew ?_)) hg1 (by simp <;> omega) (fun k e => by simp [Value.ownBlock] at e; omega));
             have O2 := Lib.hid ho1;
             have N1 : Hid (∀ k, v1.ownBlock = some k → k < w2.heap.size ∧ k ≠ w1.heap.size + 1) := Lib.hid (fun k hk => ⟨(ho1.lt k hk).2, by rcases hat1 with e | e <;> rw [e] at hk <;> simp [Value.ownBlock] at hk <;> omega⟩);
             have R2 := Lib.hid (Reads.below R1.out B2.out);
             have Q2 := Lib.hid ((Reads.below Q1.out B2.out).more B2.out.size);
             have T1 := Lib.hid (Blk.grown (g := w1.heap.size + 1) (t := 36) (cs := #[]) (Blk.drew (Blk.new' (by simp))) hg1 (by simp [Value.ownBlock] <;> omega));
             have m1 := below_cell s1 B2.out;
             have m2 := below_cell s2 B2.out;
             clear ho1 hg1 hat1)
          | ((refine step_append_any (((w1.alloc (.cells #[] 36)).alloc (.cells #[] 42)).drew) (by rfl) (.tmp 14) (.tmp 16) 23 (by rfl) w1.heap.size 42 i0 _ 2 16 Tryz.underlying23 hi0 hz0 hz1 hz2 rfl (by decide) (.slice (some ⟨w1.heap.size + 1, 0, none⟩) 0 0) 0 [] (by rfl) (by repeat (first | with_reducible exact own_emptyE (by simp) (by simp) | with_reducible refine own_al ?_ _ | with_reducible refine own_dr ?_)) _ A ops.length c (ops.flatMap VEntry.cells) (by rfl) (by repeat (first | with_reducible exact R1.out | with_reducible refine Reads.al ?_ _ | with_reducible refine Reads.dr ?_)) (one_en2 ops) (by simp only [maxLen]; omega) (by omega) (by simp <;> omega) ?_);
             intro v1 w2 ho1 hg1 hat1;
             (simp only [Nat.zero_add, List.nil_append] at ho1);
             have B2 : Hid (Below w1.heap.size w1 w2) := Lib.hid (Below.grown (by repeat (first | with_reducible exact Below.refl _ _ | with_reducible refine below_alloc_ ?_ _ | with_reducible refine Below.drew ?_)) hg1 (by simp <;> omega) (fun k e => by simp [Value.ownBlock] at e; omega));
             have O2 := Lib.hid ho1;
             have N1 : Hid (∀ k, v1.ownBlock = some k → k < w2.heap.size ∧ k ≠ w1.heap.size) := Lib.hid (fun k hk => ⟨(ho1.lt k hk).2, by rcases hat1 with e | e <;> rw [e] at hk <;> simp [Value.ownBlock] at hk <;> omega⟩);
             have R2 := Lib.hid (Reads.below R1.out B2.out);
             have Q2 := Lib.hid ((Reads.below Q1.out B2.out).more B2.out.size);
             have T1 := Lib.hid (Blk.grown (g := w1.heap.size) (t := 36) (cs := #[]) (Blk.drew (Blk.alloc (Blk.new' (by simp)) _)) hg1 (by simp [Value.ownBlock] <;> omega));
             have m1 := below_cell s1 B2.out;
             have m2 := below_cell s2 B2.out;
             clear ho1 hg1 hat1)
          | ((refine step_append_any (w2.alloc (.cells #[] 36)) (by rfl) (.tmp 18) (.tmp 20) 24 (by rfl) w1.heap.size 36 j0 _ 8 64 Tryz.underlying24 hj0 hy0 hy1 hy2 rfl (by decide) (.slice (some ⟨w2.heap.size, 0, none⟩) 0 0) 0 [] (by rfl) (own_empty8 rfl B2.out.size) _ B l.length d (l.flatMap VCall20.cells) (by rfl) (Q2.out.al _) (one_cl l) (by simp only [maxLen]; omega) (by omega) (by have := B2.out.size; simp <;> omega) ?_);
             intro v2 w3 ho2 hg2 hat2;
             (simp only [Nat.zero_add, List.nil_append] at ho2);
             have B3 : Hid (Below w1.heap.size w1 w3) := Lib.hid (Below.grown (below_alloc_ B2.out _) hg2 (by have := B2.out.size; simp <;> omega) (fun k e => by have := B2.out.size; simp [Value.ownBlock] at e; omega));
             have O3 := Lib.hid ho2;
             have R3 : Hid (∃ A1 c1, v1 = .slice A1 ops.length c1 ∧ Reads w3 w3.heap.size 2 A1 ops.length (ops.flatMap VEntry.cells)) := Lib.hid (by
               obtain ⟨A1, c1, e1, hr1, _⟩ := own_shape O2.out
               refine ⟨A1, c1, e1, Reads.gr (w := w2.alloc (.cells #[] 36)) (by first | exact hr1 | exact hr1.al _) hg2 (fun a ha h => ?_)⟩
               subst ha; subst e1
               have := N1.out a.block (by simp [Value.ownBlock])
               simp [Value.ownBlock] at h
               omega);
             have m1 := below_cell s1 B3.out;
             have m2 := below_cell s2 B3.out;
             clear ho2 hg2 hat2)
          | ((refine step_append_any (w2) (by rfl) (.tmp 18) (.tmp 20) 24 (by rfl) w1.heap.size 36 j0 _ 8 64 Tryz.underlying24 hj0 hy0 hy1 hy2 rfl (by decide) (.slice (some ⟨w1.heap.size + 1, 0, none⟩) 0 0) 0 [] (by rfl) (own_blk8 T1.out (Nat.le_succ _)) _ B l.length d (l.flatMap VCall20.cells) (by rfl) Q2.out (one_cl l) (by simp only [maxLen]; omega) (by omega) (by have := B2.out.size; simp <;> omega) ?_);
             intro v2 w3 ho2 hg2 hat2;
             (simp only [Nat.zero_add, List.nil_append] at ho2);
             have B3 : Hid (Below w1.heap.size w1 w3) := Lib.hid (Below.grown B2.out hg2 (by have := B2.out.size; simp <;> omega) (fun k e => by have := B2.out.size; simp [Value.ownBlock] at e; omega));
             have O3 := Lib.hid ho2;
             have R3 : Hid (∃ A1 c1, v1 = .slice A1 ops.length c1 ∧ Reads w3 w3.heap.size 2 A1 ops.length (ops.flatMap VEntry.cells)) := Lib.hid (by
               obtain ⟨A1, c1, e1, hr1, _⟩ := own_shape O2.out
               refine ⟨A1, c1, e1, Reads.gr (w := w2) (by first | exact hr1 | exact hr1.al _) hg2 (fun a ha h => ?_)⟩
               subst ha; subst e1
               have := N1.out a.block (by simp [Value.ownBlock])
               simp [Value.ownBlock] at h
               omega);
             have m1 := below_cell s1 B3.out;
             have m2 := below_cell s2 B3.out;
             clear ho2 hg2 hat2)
          | ((refine step_append_any (w2) (by rfl) (.tmp 18) (.tmp 20) 24 (by rfl) w1.heap.size 36 j0 _ 8 64 Tryz.underlying24 hj0 hy0 hy1 hy2 rfl (by decide) (.slice (some ⟨w1.heap.size, 0, none⟩) 0 0) 0 [] (by rfl) (own_blk8 T1.out (Nat.le_refl _)) _ B l.length d (l.flatMap VCall20.cells) (by rfl) Q2.out (one_cl l) (by simp only [maxLen]; omega) (by omega) (by have := B2.out.size; simp <;> omega) ?_);
             intro v2 w3 ho2 hg2 hat2;
             (simp only [Nat.zero_add, List.nil_append] at ho2);
             have B3 : Hid (Below w1.heap.size w1 w3) := Lib.hid (Below.grown B2.out hg2 (by have := B2.out.size; simp <;> omega) (fun k e => by have := B2.out.size; simp [Value.ownBlock] at e; omega));
             have O3 := Lib.hid ho2;
             have R3 : Hid (∃ A1 c1, v1 = .slice A1 ops.length c1 ∧ Reads w3 w3.heap.size 2 A1 ops.length (ops.flatMap VEntry.cells)) := Lib.hid (by
               obtain ⟨A1, c1, e1, hr1, _⟩ := own_shape O2.out
               refine ⟨A1, c1, e1, Reads.gr (w := w2) (by first | exact hr1 | exact hr1.al _) hg2 (fun a ha h => ?_)⟩
               subst ha; subst e1
               have := N1.out a.block (by simp [Value.ownBlock])
               simp [Value.ownBlock] at h
               omega);
             have m1 := below_cell s1 B3.out;
             have m2 := below_cell s2 B3.out;
             clear ho2 hg2 hat2))
      all_goals
        go_wp2_with fail
        go_meet
        obtain ⟨A1, c1, e1, hr1⟩ := R3.out
        have ho := O3.out
        obtain ⟨A2, c2, e2, hr2, _⟩ := own_shape ho
        subst e2
        exact ⟨A1, c1, A2, c2, e1, rfl, own_le ho, Lib.hid hr1, Lib.hid hr2, B3⟩
    case rest =>
      obtain ⟨A1, c1, A2, c2, rfl, rfl, hc2, RA, RB, B2⟩ := hcut
      rename World => w2
      have W2 := Lib.hid (below_then W1.out B2.out)
      have S2 := Lib.hid (blk_pass S1.out (Below.refl _ _) B2.out)
      clear B2 S1 W1 s0 s1 s2 sl R1 Q1 hi0 hz0 hz1 hz2 hj0 hy0 hy1 hy2
      obtain ⟨⟨s0, s1, s2⟩, sl⟩ := S2.out.c3
      go_wp2_with fail
      refine (check_any r A1 A2 c1 c2 ops l F R G EE _ SI.out.hr RA.out SI.out.hx (by omega) RB.out SI.out.hx2 (by omega) hc2 SR.out.f SR.out.o SR.out.g0 SR.out.g).mono ?_
      rintro e w3 ⟨V, E, rfl, hs, hb3⟩
      have CS := Lib.hid hs
      have W3 := Lib.hid (below_then W2.out hb3)
      have S3 := Lib.hid (blk_pass S2.out (Below.refl _ _) hb3)
      have RA3 := Lib.hid (RA.out.pass hb3)
      have RB3 := Lib.hid (RB.out.pass hb3)
      clear hb3 hs S2 W2 RA RB s0 s1 s2 sl
      obtain ⟨⟨s0, s1, s2⟩, sl⟩ := S3.out.c3
      go_wp2_with fail
      refine (rcheck_any r A B c d ops l F R G EE _ SI.out.hr ((SI.out.ha.below W3.out).more W3.out.size) SI.out.hl ((SI.out.hb.below W3.out).more W3.out.size) SI.out.hx2 SI.out.hl2 SR.out.f SR.out.o SR.out.g0 SR.out.g).mono ?_
      rintro e w4 ⟨V', E', rfl, hs', hb4⟩
      obtain ⟨hV, hE⟩ := chk_det CS.out hs'
      subst hV hE
      have W4 := Lib.hid (below_then W3.out hb4)
      have S4 := Lib.hid (blk_pass S3.out (Below.refl _ _) hb4)
      have RA4 := Lib.hid (RA3.out.pass hb4)
      have RB4 := Lib.hid (RB3.out.pass hb4)
      clear hb4 hs' CS S3 W3 RA3 RB3 s0 s1 s2 sl
      go_wp2_with fail
      go_loopw [9] (fun s wr => ∃ k : Nat, k ≤ l.length ∧ s = .int .i64 k ∧ Hid (Below w4.heap.size w4 wr)) (fun s _ => l.length - (intOf s).toNat)
      case atStart => exact ⟨0, Nat.zero_le _, rfl, Lib.hid (Below.refl _ _)⟩
      case round =>
        obtain ⟨k, hk, rfl, HI⟩ := hrel
        rename World => wr
        have W := Lib.hid (below_then W4.out HI.out)
        have S := Lib.hid (blk_pass S4.out (Below.refl _ _) HI.out)
        obtain ⟨⟨s0, s1, s2⟩, sl⟩ := S.out.c3
        by_cases hlt : k < l.length
        · have hd : decide ((k : Int) < (l.length : Int)) = true := by simp; omega
          have hd' : decide (k < l.length) = true := by simp; omega
          obtain ⟨ad, hA, hadb, hcell⟩ := SI.out.hb.2 (by omega)
          obtain ⟨a2, hB, ha2b, hcell2⟩ := (RB4.out.pass HI.out).2 (by omega)
          subst hA; subst hB
          obtain ⟨x0, x1, x2, x3, x4, x5, x6, x7⟩ := call_at8 W.out hadb hcell k hlt
          obtain ⟨y0, y1, y2, y3, y4, y5, y6, y7⟩ := call_at8 (Below.refl _ _) ha2b hcell2 k hlt
          clear hcell hadb hcell2 ha2b
          generalize l[k] = x at *
          obtain ⟨xi, xf, xt, xn, xfr, xto, xfa, xs⟩ := x
          simp only at x0 x1 x2 x3 x4 x5 x6 x7 y0 y1 y2 y3 y4 y5 y6 y7
          go_wp2_with fail
          have k0 : (0 : Int) ≤ (k : Int) := by omega
          have k1 : (k : Int) < (l.length : Int) := by omega
          have e0 : (xi == xi) = true := by simp
          go_quiet (fail)
          go_wp2_with fail
          go_roundw
          case rel => exact ⟨k + 1, by omega, by go_num, Lib.hid (below_dn HI.out _)⟩
          case measure => simp [intOf]; omega
        · have hd : decide ((k : Int) < (l.length : Int)) = false := by simp; omega
          have hd' : decide (k < l.length) = false := by simp; omega
          have e1 : (V == V) = true := by simp
          have e2 : (E == E) = true := by simp
          go_wp2_with fail
          refine (awake20_any _).mono ?_
          rintro e w5 ⟨rfl, hb5⟩
          have H5 := Lib.hid (below_then HI.out hb5)
          have W5 := Lib.hid (below_then W4.out H5.out)
          have S5 := Lib.hid (blk_pass S4.out (Below.refl _ _) H5.out)
          clear s0 s1 s2 sl
          obtain ⟨⟨s0, s1, s2⟩, sl⟩ := S5.out.c3
          clear hb5
          go_wp2_with fail
          refine (ents_same _ (RA4.out.pass H5.out) ((SI.out.ha.below W5.out).more W5.out.size) (by omega)).mono ?_
          rintro e w6 ⟨rfl, hb6⟩
          have W6 := Lib.hid (below_then W5.out hb6)
          clear hb6
          go_wp2_with fail
          go_ret
          exact ⟨rfl, W6.out⟩
  · have W0 : Hid (Below w.heap.size w (w.alloc (.cells #[.float .f64 r, .slice A ops.length c, .slice B l.length d] 26))) := Lib.hid (by repeat (first | exact Below.refl _ _ | refine below_alloc_ ?_ _ | refine Below.drew ?_))
    have HF := Lib.hid hfew
    have S0 := Lib.hid (Blk.new w 26 #[.float .f64 r, .slice A ops.length c, .slice B l.length d])
    clear hwr ha hc hm hx hb hd hm2 hx2 hfew
    go_enter Tryz.func3, Tryz.ntmps3
    go_wp2_with (first
      | (go_at_call 5; (with_reducible refine (few_f r A B ops.length c l.length d _ HF.out).mono ?_); rintro e w1 ⟨rfl, hb1⟩; have W1 := Lib.hid (below_then W0.out hb1); clear hb1)
      | (go_at_call 6; (with_reducible refine (awake20_any _).mono ?_); rintro e w3 ⟨rfl, hb3⟩; have W3 := Lib.hid (below_then W1.out hb3); clear hb3))
    go_ret
    exact ⟨rfl, W3.out⟩
end Go.Proofs.YtjhhpcjnhjbpdaaGreat
