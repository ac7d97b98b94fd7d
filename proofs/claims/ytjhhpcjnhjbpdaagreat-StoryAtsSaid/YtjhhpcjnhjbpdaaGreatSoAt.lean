/- StoryAts: the walk. -/
import Derived.Test.YtjhhpcjnhjbpdaaGreatSoDt
import Derived.Test.YtjhhpcjnhjbpdaaGreatDcT
set_option linter.unusedSimpArgs false
set_option linter.unusedVariables false
namespace Go.Proofs.YtjhhpcjnhjbpdaaGreat
open Go.RowKit Mo
set_option maxRecDepth 100000 in
set_option maxHeartbeats 4000000 in
theorem storyAts_walk (w : World) (r : Nat) (A : Option Addr) (c : Nat) (ops : List VEntry) (B : Option Addr) (d : Nat) (l : List VCall20) (hwr : (Lit.float .f64 r).wf = true) (ha : SlOk w 2 A c (ops.flatMap VEntry.cells)) (hc : ops.length ≤ c) (hm : c ≤ maxLen) (hx : ∀ u_ ∈ ops, VEntry.ok w u_) (hb : SlOk w 8 B d (l.flatMap VCall20.cells)) (hd : l.length ≤ d) (hm2 : d ≤ maxLen) (hx2 : ∀ u_ ∈ l, VCall20.ok w u_) (t : Int) (wt : (Lit.int .i64 t).wf = true) :
    Calls Tryz.prog 4 #[.agg #[.float .f64 r, .slice A ops.length c, .slice B l.length d], .int .i64 t] w fun e w' => e = .returned (.bool true) ∧ Below w.heap.size w w' := by
  by_cases hfew : ops.length ≤ 20 ∧ l.length ≤ 40
  · obtain ⟨h1, h2⟩ := hfew
    have SI := Lib.hid (StIn.mk' hwr ha hx hb hd hx2 h1 h2)
    obtain ⟨F, R, G, EE, hrun⟩ := stRun_ex r ops l
    obtain ⟨k0, hk0⟩ := upTo_ex hrun.o t
    have SR := Lib.hid hrun
    have K0 := Lib.hid hk0
    clear hwr ha hc hm hx hb hd hm2 hx2 hrun hk0 wt
    have S0 := Lib.hid (Blk.new w 26 #[.float .f64 r, .slice A ops.length c, .slice B l.length d])
    have W0 : Hid (Below w.heap.size w (w.alloc (.cells #[.float .f64 r, .slice A ops.length c, .slice B l.length d] 26))) := Lib.hid (by repeat (first | exact Below.refl _ _ | refine below_alloc_ ?_ _ | refine Below.drew ?_))
    go_enter Tryz.func4, Tryz.ntmps4
    go_wp2_with fail
    refine (few_t r A B ops.length c l.length d _ h1 h2).mono ?_
    rintro e w1 ⟨rfl, hb1⟩
    have W1 := Lib.hid (below_then W0.out hb1)
    have S1 := Lib.hid (blk_pass S0.out (Below.refl _ _) hb1)
    obtain ⟨⟨s0, s1, s2⟩, sl⟩ := S1.out.c3
    clear hb1
    go_wp2_with fail
    refine (SI.out.at SR.out W1.out K0.out).mono ?_
    rintro e w2 ⟨Aa, ca, L, E, rfl, hrd, hs, _, hb2⟩
    have W2 := Lib.hid (below_then W1.out hb2)
    have S2 := Lib.hid (blk_pass S1.out (Below.refl _ _) hb2)
    have L2 := Lib.hid hrd
    have AS := Lib.hid hs
    clear hb2 hs hrd s0 s1 s2 sl S0 S1 W0 W1
    obtain ⟨⟨s0, s1, s2⟩, sl⟩ := S2.out.c3
    go_wp2_with fail
    refine (rat_any r A B c d ops l F R G EE t k0 _ SI.out.hr ((SI.out.ha.below W2.out).more W2.out.size) SI.out.hl ((SI.out.hb.below W2.out).more W2.out.size) SI.out.hx2 SI.out.hl2 SR.out.f SR.out.o SR.out.g0 SR.out.g K0.out).mono ?_
    rintro e w3 ⟨Ab, cb, L', E', rfl, hrd, hs, hb3⟩
    obtain ⟨hLL, hEE⟩ := at_det AS.out hs
    subst hLL hEE
    have W3 := Lib.hid (below_then W2.out hb3)
    have L3 := Lib.hid (L2.out.pass hb3)
    have M3 := Lib.hid hrd
    have hlen : L.length ≤ 100000 := by
      rcases AS.out with ⟨_, _, _, rfl⟩ | ⟨_, _, ⟨_, _, rfl⟩ | ⟨_, _, rfl⟩⟩
      · simp
      · simp
      · have := ents_len (G k0); omega
    have ee : ((E : Int) == E) = true := by simp
    clear hb3 hs hrd s0 s1 s2 sl
    go_wp2_with fail
    refine (awake20_any _).mono ?_
    rintro e w4 ⟨rfl, hb4⟩
    have W4 := Lib.hid (below_then W3.out hb4)
    have L4 := Lib.hid (L3.out.pass hb4)
    have M4 := Lib.hid (M3.out.pass hb4)
    clear hb4
    go_wp2_with fail
    refine (lists_same _ L4.out M4.out hlen).mono ?_
    rintro e w5 ⟨rfl, hb5⟩
    have W5 := Lib.hid (below_then W4.out hb5)
    clear hb5
    go_wp2_with fail
    go_ret
    exact ⟨rfl, W5.out⟩
  · have W0 : Hid (Below w.heap.size w (w.alloc (.cells #[.float .f64 r, .slice A ops.length c, .slice B l.length d] 26))) := Lib.hid (by repeat (first | exact Below.refl _ _ | refine below_alloc_ ?_ _ | refine Below.drew ?_))
    have HF := Lib.hid hfew
    have S0 := Lib.hid (Blk.new w 26 #[.float .f64 r, .slice A ops.length c, .slice B l.length d])
    clear hwr ha hc hm hx hb hd hm2 hx2 hfew
    go_enter Tryz.func4, Tryz.ntmps4
    go_wp2_with (first
      | (go_at_call 5; (with_reducible refine (few_f r A B ops.length c l.length d _ HF.out).mono ?_); rintro e w1 ⟨rfl, hb1⟩; have W1 := Lib.hid (below_then W0.out hb1); clear hb1)
      | (go_at_call 6; (with_reducible refine (awake20_any _).mono ?_); rintro e w3 ⟨rfl, hb3⟩; have W3 := Lib.hid (below_then W1.out hb3); clear hb3))
    go_ret
    exact ⟨rfl, W3.out⟩
end Go.Proofs.YtjhhpcjnhjbpdaaGreat
