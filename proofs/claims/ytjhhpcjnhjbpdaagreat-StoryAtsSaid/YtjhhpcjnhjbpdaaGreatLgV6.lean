/- The book: Move, done. -/
import Derived.Test.YtjhhpcjnhjbpdaaGreatPV
import Derived.Deep.DeepCutAuto
set_option linter.unusedSimpArgs false
set_option linter.unusedVariables false
namespace Go.Proofs.YtjhhpcjnhjbpdaaGreat
open Go.RowKit Mo
theorem Blk.ne_type {W : World} {g g' : Nat} {T T' : TypeId} {cs cs' : Array Value} (h : Blk W g T cs) (h' : Blk W g' T' cs') (ne : T ≠ T') : g ≠ g' := by
  rintro rfl
  have e : (some (Obj.cells cs T)) = some (Obj.cells cs' T') := h.symm.trans h'
  injection e with e
  injection e with e1 e2
  exact ne e2
set_option maxRecDepth 100000 in
set_option maxHeartbeats 4000000 in
theorem move_done (b r m k : Nat) (f : Int → Option (Int × Int)) (a c n fee x y p q : Int) (w : World) (h : Bk w b r m k f) (ho : mvOk a c n) (wa : (Lit.int .i64 a).wf = true) (wc : (Lit.int .i64 c).wf = true) (hf : f a = some (x, y)) (hr : rateOk r = true) (hb : r < 18446744073709551616) (hfee : prodV n r false = fee) (hs : n + fee ≤ x) (hg : f c = some (p, q)) (hx : isA x = true) (hp : isA p = true) (hz : isA (p + n) = true) (hy0 : 0 ≤ y) (hy1 : y ≤ 9000000000000000000) (hk : k + 2 < maxLen) :
    Calls Tryz.prog 17 #[.pointer (some ⟨b, 0, none⟩), .int .i64 a, .int .i64 c, .int .i64 n] w fun e w' => e = .returned (.tuple #[.int .i64 fee, .int .i64 0]) ∧ Bk w' b r m (k + 2) (fput (fput f a (x - n - fee, y + fee)) c (p + n, q)) ∧ Keeps (· = m) w w' := by
  obtain ⟨q0, q1⟩ := h.b.c2
  have bl := h.b.lt
  have hl := h.m.look wa
  have hl2 := (h.m.alloc (.cells #[.int .i64 x, .int .i64 y] 74)).look wc
  rw [hf] at hl
  rw [hg] at hl2
  unfold accV at hl hl2
  simp only [Option.getD_some, Option.isSome_some] at hl hl2
  obtain ⟨ha, hc, h1, hn, hne⟩ := ho
  obtain ⟨n0, n1⟩ := isA_iff.1 hn
  obtain ⟨x0, x1⟩ := isA_iff.1 hx
  obtain ⟨p0, p1⟩ := isA_iff.1 hp
  have hv := fee_val n r n0 n1 hr
  have f0 : 0 ≤ fee ∧ fee ≤ n := by rw [← hfee]; exact ⟨by rw [hv.2.1]; omega, hv.2.2⟩
  have w1 : IntKind.i64.wrap (n + fee) = n + fee := IntWalk.i64_in _ (by omega)
  have w2 : IntKind.i64.wrap (x - n) = x - n := IntWalk.i64_in _ (by omega)
  have w3 : IntKind.i64.wrap (x - n - fee) = x - n - fee := IntWalk.i64_in _ (by omega)
  have w4 : IntKind.i64.wrap (y + fee) = y + fee := IntWalk.i64_in _ (by omega)
  have w5 : IntKind.i64.wrap (p + n) = p + n := IntWalk.i64_in _ (by omega)
  have HA := Lib.hid ha; have HC := Lib.hid hc; have HN := Lib.hid hn; have HR := Lib.hid hr; have HF := Lib.hid hfee; have HP := Lib.hid hp; have HB := Lib.hid h
  have HZ := Lib.hid (show errA (isA (p + n)) = 0 by rw [hz]; rfl)
  have d : decide (n < 1) = false := by simp; omega
  have d1 : (a == c) = false := by simp; exact hne
  have d2 : decide (x < n + fee) = false := by simp; omega
  clear ha hc hn h hr hfee hv hp hz hx
  have BX := Lib.hid ((Blk.new w 74 #[.int .i64 x, .int .i64 y]).alloc (.cells #[.int .i64 p, .int .i64 q] 74))
  have BY : Hid (Blk ((w.alloc (.cells #[.int .i64 x, .int .i64 y] 74)).alloc (.cells #[.int .i64 p, .int .i64 q] 74)) (w.heap.size + 1) 74 #[.int .i64 p, .int .i64 q]) := Lib.hid (Blk.new' (by simp))
  go_enter Tryz.func17, Tryz.ntmps17
  go_wp2_with (first | (go_at_call 38; with_reducible refine (isa_t (a := a) _ HA.out).mono ?_; rintro e w1 ⟨rfl, rfl⟩) | (go_at_call 38; with_reducible refine (isa_t (a := c) _ HC.out).mono ?_; rintro e w1 ⟨rfl, rfl⟩) | (go_at_call 34; with_reducible refine (chk_t _ HN.out).mono ?_; rintro e w1 ⟨rfl, rfl⟩) | (go_at_call 39; with_reducible refine (feeR _ HN.out HR.out hb HF.out).mono ?_; rintro e w1 ⟨rfl, rfl⟩))
  refine (addR _ HP.out HN.out HZ.out).mono ?_
  rintro e w9 ⟨⟨V, rfl⟩, hb9⟩
  have X9 := Lib.hid (Blk.below BX.out hb9 BX.out.lt)
  have Y9 := Lib.hid (Blk.below BY.out hb9 BY.out.lt)
  have B9 := Lib.hid (Bk.keeps ((⟨(HB.out.b.alloc _).alloc _, (HB.out.m.alloc _).alloc _⟩ : Bk ((w.alloc (.cells #[.int .i64 x, .int .i64 y] 74)).alloc (.cells #[.int .i64 p, .int .i64 q] 74)) b r m k f)) (Keeps.of_below (S := fun _ => False) hb9) id id)
  have K9 := Lib.hid (((((Keeps.refl (· = m) w).alloc (.cells #[.int .i64 x, .int .i64 y] 74)).alloc (.cells #[.int .i64 p, .int .i64 q] 74))).then hb9)
  clear hb9 BX BY
  obtain ⟨x9, y9⟩ := X9.out.c2
  obtain ⟨p9, q9⟩ := Y9.out.c2
  obtain ⟨b9, m9⟩ := B9.out.b.c2
  have xf0 := X9.out.frozen 0; have xf1 := X9.out.frozen 1; have yf0 := Y9.out.frozen 0
  have xl := X9.out.lt; have yl := Y9.out.lt; have bl9 := B9.out.b.lt
  go_wp2_with fail
  have nxy := Blk.ne_type X9.out B9.out.b (by decide)
  have nyb := Blk.ne_type Y9.out B9.out.b (by decide)
  have nXY : w.heap.size ≠ w.heap.size + 1 := by omega
  obtain ⟨W5, hW5⟩ : ∃ W5, (((w9.setCell ⟨w.heap.size, 0, none⟩ (.int .i64 (x - n - fee))).setCell ⟨w.heap.size, 1, none⟩ (.int .i64 (y + fee))).setCell ⟨w.heap.size + 1, 0, none⟩ (.int .i64 (p + n))) = W5 := ⟨_, rfl⟩
  rw [hW5]
  have hx5 : Blk W5 w.heap.size 74 #[.int .i64 (x - n - fee), .int .i64 (y + fee)] := by rw [← hW5]; exact Blk.far (blk_upd (blk_upd X9.out rfl) rfl) nXY _
  have hy5 : Blk W5 (w.heap.size + 1) 74 #[.int .i64 (p + n), .int .i64 q] := by rw [← hW5]; exact blk_upd (Blk.far (Blk.far Y9.out nXY.symm _) nXY.symm _) rfl
  have hk5 : Keeps (fun i => i = w.heap.size ∨ i = w.heap.size + 1) w9 W5 := by rw [← hW5]; exact (((Keeps.refl _ _).set_ (Or.inl (Or.inl rfl)) _).set_ (Or.inl (Or.inl rfl)) _).set_ (Or.inl (Or.inr rfl)) _
  have mlt := B9.out.m.lt
  have nmx : m ≠ w.heap.size := by
    rintro rfl
    obtain ⟨D, ⟨es, clock, hb, _⟩, _⟩ := B9.out.m
    have := X9.out
    unfold Blk at this
    rw [this] at hb
    cases hb
  have nmy : m ≠ w.heap.size + 1 := by
    rintro rfl
    obtain ⟨D, ⟨es, clock, hb, _⟩, _⟩ := B9.out.m
    have := Y9.out
    unfold Blk at this
    rw [this] at hb
    cases hb
  have B5 := Lib.hid (B9.out.keeps hk5 (fun h => h.elim nxy.symm nyb.symm) (fun h => h.elim nmx nmy))
  have K5 : Hid (Keeps (· = m) w W5) := Lib.hid (K9.out.base hk5 (fun i hi h => by omega))
  obtain ⟨v1, s1, he1, hs1⟩ := (B5.out.m.drew).entry (by omega) wa (by rw [hf]; rfl)
  obtain ⟨w6, hst1, hM1, hg1⟩ := hs1 (x - n - fee, y + fee)
  obtain ⟨v2, s2, he2, hs2⟩ := hM1.entry (by omega) wc (by unfold fput; rw [if_neg (fun h => hne h.symm), hg]; rfl)
  obtain ⟨w7, hst2, hM2, hg2⟩ := hs2 (p + n, q)
  have k6 : Keeps (· = m) W5.drew w6 := (Keeps.refl (· = m) W5.drew).grown hg1 (fun k hk => .inl (Option.some.inj hk).symm)
  have k7 : Keeps (· = m) w6 w7 := (Keeps.refl (· = m) w6).grown hg2 (fun k hk => .inl (Option.some.inj hk).symm)
  have Y6 := Lib.hid (Blk.keeps (w := W5.drew) hy5.drew k6 (fun h => nmy h.symm))
  have X6 := Lib.hid (Blk.keeps (w := W5.drew) hx5.drew k6 (fun h => nmx h.symm))
  have B6 := Lib.hid (Blk.keeps (w := W5.drew) B5.out.b.drew k6 B9.out.ne)
  have HM2 := Lib.hid hM2
  have K7 : Hid (Keeps (· = m) w w7) := Lib.hid ((K5.out.drew.trans k6).trans k7)
  have B7 := Lib.hid (B6.out.keeps k7 B9.out.ne)
  unfold accV at hst1 hst2
  simp only at hst1 hst2
  obtain ⟨a0, a1⟩ := hx5.drew.c2
  obtain ⟨a2, a3⟩ := hy5.drew.c2
  obtain ⟨a4, a5⟩ := Y6.out.c2
  obtain ⟨a6, a7⟩ := B5.out.b.drew.c2
  obtain ⟨a8, a9⟩ := B6.out.c2
  have l1 := hx5.lt; have l2 := hy5.lt; have l3 := B5.out.b.lt; have l4 := Y6.out.lt; have l5 := B6.out.lt
  clear hs1 hs2 hM1 hM2 hg1 hg2 k6 k7 hx5 hy5 hk5 hW5 x9 y9 p9 q9 b9 m9 xf0 xf1 yf0 q0 q1 hl hl2
  go_cut [] (fun wx => wx = w7)
  case first =>
    go_region_with (fail)
    all_goals
      go_wp2_with fail
      go_meet
      rfl
  case rest =>
    subst hcut
    go_wp2_with fail
    go_ret2
    exact ⟨rfl, ⟨B7.out, HM2.out⟩, K7.out⟩
end Go.Proofs.YtjhhpcjnhjbpdaaGreat
