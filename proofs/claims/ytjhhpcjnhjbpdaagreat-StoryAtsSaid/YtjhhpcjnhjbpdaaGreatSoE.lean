/- The library's stable sort: the merge whole. -/
import Derived.Test.YtjhhpcjnhjbpdaaGreatQA
import Derived.Deep.DeepCutAuto
set_option linter.unusedSimpArgs false
set_option linter.unusedVariables false
namespace Go.Proofs.YtjhhpcjnhjbpdaaGreat
open Go.RowKit
/-- what stands behind the rotation -/
structure Mid (T : Int → Int) (S : Int → Prop) (D E : Nat → Int) (a s k e b : Nat) : Prop where
  sam : Sam D E a b
  s1 : Srt T E a s
  s2 : Srt T E s k
  s3 : Srt T E k e
  s4 : Srt T E e b
  l1 : ∀ i j, a ≤ i → i < s → s ≤ j → j < k → E i < E j
  l2 : ∀ i j, k ≤ i → i < e → e ≤ j → j < b → E i < E j
  x : ∀ i j, a ≤ i → i < k → k ≤ j → j < b → lexT T (E i) (E j)
  ok : ∀ i, a ≤ i → i < b → S (E i)
theorem mid_of {T : Int → Int} {S : Int → Prop} {D : Nat → Int} {a s m e b : Nat} (hl : Srt T D a m) (hr : Srt T D m b) (lr : ∀ i j, a ≤ i → i < m → m ≤ j → j < b → D i < D j) (hS : ∀ i, a ≤ i → i < b → S (D i)) (h0 : a ≤ s) (h1 : s ≤ m) (h2 : m ≤ e) (h3 : e ≤ b) (c1 : s = a ∨ e = b ∨ lexT T (D (s - 1)) (D e)) (c2 : s = m ∨ e = m ∨ lexT T (D (e - 1)) (D s)) :
    Mid T S D (rot D s m e) a s (s + (e - m)) e b := by
  have hs : Sam D (rot D s m e) a b := (rot_same D h1 h2).sub h0 h3
  refine ⟨hs, rot_S1 hl h1, rot_S2 hr h3, rot_S3 hl h0 h1 h2, rot_S4 hr h1 h2, ?_, ?_, rot_cross hl hr h0 h1 h2 h3 c1 c2, ?_⟩
  · intro i j a1 a2 a3 a4
    rw [rot_lo D a2, rot_a D a3 a4]
    exact lr _ _ a1 (by omega) (by omega) (by omega)
  · intro i j a1 a2 a3 a4
    rw [rot_b D a1 a2, rot_hi D h1 h2 a3]
    exact lr _ _ (by omega) (by omega) (by omega) a4
  · intro i a1 a2
    obtain ⟨j, j1, j2, j3⟩ := (hs.1 (rot D s m e i)).2 ⟨i, a1, a2, rfl⟩
    rw [← j3]
    exact hS j j1 j2
theorem mid_fin {T : Int → Int} {S : Int → Prop} {D E F G : Nat → Int} {a s k e b : Nat} (h : Mid T S D E a s k e b) (hak : a ≤ k) (hkb : k ≤ b) (f1 : Sam E F a k) (f2 : Srt T F a k) (g1 : Sam F G k b) (g2 : Srt T G k b) : Sam D G a b ∧ Srt T G a b := by
  refine ⟨(h.sam.trans (f1.sub (Nat.le_refl _) hkb)).trans (g1.sub hak (Nat.le_refl _)), ?_⟩
  refine srt_same (D := E) hak hkb ((f1.sub (Nat.le_refl _) hkb).trans (g1.sub hak (Nat.le_refl _))) ?_ g2 ?_ ?_ h.x
  · intro i j hi hij hj
    rw [g1.2 i (by omega), g1.2 j (by omega)]
    exact f2 i j hi hij hj
  · intro i hi hk
    rw [g1.2 i (by omega)]
    exact (f1.1 _).2 ⟨i, hi, hk, rfl⟩
  · intro i hi hk
    obtain ⟨j, j1, j2, j3⟩ := (g1.1 (G i)).2 ⟨i, hi, hk, rfl⟩
    exact ⟨j, j1, j2, (f1.2 j (by omega)).symm.trans j3⟩
theorem Mid.right {T : Int → Int} {S : Int → Prop} {D E F : Nat → Int} {a s k e b : Nat} (h : Mid T S D E a s k e b) (_hak : a ≤ k) (hke : k ≤ e) (f1 : Sam E F a k) : Srt T F k e ∧ Srt T F e b ∧ (∀ i j, k ≤ i → i < e → e ≤ j → j < b → F i < F j) ∧ (∀ i, k ≤ i → i < b → S (F i)) := by
  refine ⟨?_, ?_, ?_, ?_⟩
  · intro i j hi hij hj
    rw [f1.2 i (by omega), f1.2 j (by omega)]; exact h.s3 i j hi hij hj
  · intro i j hi hij hj
    rw [f1.2 i (by omega), f1.2 j (by omega)]; exact h.s4 i j hi hij hj
  · intro i j a1 a2 a3 a4
    rw [f1.2 i (by omega), f1.2 j (by omega)]; exact h.l2 i j a1 a2 a3 a4
  · intro i hi hb
    rw [f1.2 i (by omega)]; exact h.ok i (by omega) hb
set_option maxRecDepth 100000 in
set_option maxHeartbeats 8000000 in
theorem merge_hi (g n cap bx : Nat) (T : Int → Int) (S : Int → Prop) (I : World → Prop) (hE : Env g I) (hC : Cmp bx T S I) (hn : n ≤ 1000000) (N : Nat) (ih : ∀ (a m b : Nat) (D : Nat → Int) (w : World), b - a ≤ N → a < m → m < b → b ≤ n → Arr w g n cap D → I w → Srt T D a m → Srt T D m b → (∀ i j, a ≤ i → i < m → m ≤ j → j < b → D i < D j) → (∀ i, a ≤ i → i < b → S (D i)) → Calls Tryz.prog 62 #[.slice (some ⟨g, 0, none⟩) n cap, .int .i64 a, .int .i64 m, .int .i64 b, .func (.func 29) #[] #[.pointer (some ⟨bx, 0, none⟩)]] w (Mgd T g n cap D a b I w))
    (a m b k nn pp : Nat) (D : Nat → Int) (w : World) (hN : b - a ≤ N + 1) (h1 : a < m) (h2 : m < b) (h3 : b ≤ n) (hA : Arr w g n cap D) (hI : I w) (hl : Srt T D a m) (hr : Srt T D m b) (lr : ∀ i j, a ≤ i → i < m → m ≤ j → j < b → D i < D j) (hS : ∀ i, a ≤ i → i < b → S (D i)) (e1 : a + 1 ≠ m) (e2 : m + 1 ≠ b)
    (hk : ((a : Int) + (b : Int)) / 2 = (k : Int)) (z4 : (k : Int) + (m : Int) = (nn : Int)) (z5 : (nn : Int) - 1 = (pp : Int)) (hmk : k < m) : Calls Tryz.prog 62 #[.slice (some ⟨g, 0, none⟩) n cap, .int .i64 a, .int .i64 m, .int .i64 b, .func (.func 29) #[] #[.pointer (some ⟨bx, 0, none⟩)]] w (Mgd T g n cap D a b I w) := by
  have H0 := Lib.hid hA; have HI := Lib.hid hI; have HE := Lib.hid hE; have HC := Lib.hid hC; have HL := Lib.hid hl; have HR := Lib.hid hr; have HLR := Lib.hid lr; have HS := Lib.hid hS; have IH := Lib.hid ih
  have z0 : ((m : Int) - (a : Int)) = ((m - a : Nat) : Int) := by omega
  have z1 : (((m - a : Nat) : Int) == 1) = false := by simp; omega
  have z1' : ((m - a) == 1) = false := by simp; omega
  have z2 : ((b : Int) - (m : Int)) = ((b - m : Nat) : Int) := by omega
  have z3 : (((b - m : Nat) : Int) == 1) = false := by simp; omega
  have z3' : ((b - m) == 1) = false := by simp; omega
  have k0 : a < k := by omega
  have k1 : k < b := by omega
  have k2 : a + b ≤ 2 * k + 1 := by omega
  have k3 : 2 * k ≤ a + b := by omega
  clear hA hI hE hC hl hr lr hS ih e1 e2
  have d0 : decide ((k : Int) < (m : Int)) = true := by simp; omega
  have d0' : decide (k < m) = true := by simp; omega
  obtain ⟨sA, z6⟩ : ∃ sA : Nat, (nn : Int) - (b : Int) = (sA : Int) := ⟨nn - b, by omega⟩
  go_enter Tryz.func62, Tryz.ntmps62
  go_wp2_with fail
  go_loopw [20, 21] (fun si sj wr => ∃ s r : Nat, a ≤ s ∧ s ≤ r ∧ r ≤ m ∧ r ≤ k ∧ nn ≤ s + b ∧ si = .int .i64 s ∧ sj = .int .i64 r ∧ Hid (s = a ∨ nn - s = b ∨ lexT T (D (s - 1)) (D (nn - s))) ∧ Hid (r = m ∨ nn - r = m ∨ lexT T (D (nn - r - 1)) (D r)) ∧ Hid (Arr wr g n cap D) ∧ Hid (I wr) ∧ Hid (Keeps (· = g) w wr)) (fun si sj _ => (intOf sj).toNat - (intOf si).toNat)
  case atStart => exact ⟨sA, k, by omega, by omega, by omega, by omega, by omega, rfl, rfl, Lib.hid (by omega), Lib.hid (by omega), H0, HI, Lib.hid (Keeps.refl _ _)⟩
  case round =>
    obtain ⟨s, r, s0, s1, s2, s3, s4, rfl, rfl, C1, C2, HA, HI2, HK⟩ := hrel
    by_cases hlt : s < r
    · have hd : decide ((s : Int) < (r : Int)) = true := by simp; omega
      obtain ⟨h, hh⟩ : ∃ h : Nat, ((s : Int) + (r : Int)) / 2 = (h : Int) := ⟨(s + r) / 2, by omega⟩
      have u0 : s ≤ h := by omega
      have u1 : h < r := by omega
      obtain ⟨q, hq⟩ : ∃ q : Nat, (pp : Int) - (h : Int) = (q : Int) := ⟨pp - h, by omega⟩
      have q0 : q + h + 1 = nn := by omega
      obtain ⟨x, hx⟩ : ∃ x, D q = x := ⟨_, rfl⟩
      obtain ⟨y, hy⟩ : ∃ y, D h = y := ⟨_, rfl⟩
      have c0 := HA.out.cell (i := q) (by omega); have c1 := HA.out.cell (i := h) (by omega)
      have sx := HS.out q (by omega) (by omega); have sy := HS.out h (by omega) (by omega)
      have hxy := HLR.out h q (by omega) (by omega) (by omega) (by omega)
      rw [hx] at c0 sx hxy; rw [hy] at c1 sy hxy
      have HX := Lib.hid hx; have HY := Lib.hid hy; have HQ0 := Lib.hid q0
      have g0 : (h : Int) < (n : Int) := by omega
      have g1 : (q : Int) < (n : Int) := by omega
      have g2 : IntKind.i64.wrap (q : Int) = (q : Int) := IntWalk.i64_in _ (by omega)
      have g3 : IntKind.i64.wrap ((pp : Int) - (h : Int)) = (q : Int) := by rw [hq]; exact g2
      clear hx hy q0
      by_cases hc : T x < T y
      · as_aux_lemma =>
        have hd2 := cmp3_lt hc
        have CN := Lib.hid (show h = m ∨ nn - h = m ∨ lexT T (D (nn - h - 1)) (D h) from .inr (.inr (by have q0 := HQ0.out; rw [show nn - h - 1 = q by omega, HX.out, HY.out]; exact (lex_right hxy).2 hc)))
        clear hc hxy
        go_wp2_with fail
        go_quiet ((go_at_call 29; with_reducible exact Calls.quiet_of (HC.out.call _ x y (HE.out.drewN _ _ HI2.out) sx sy)))
        go_wp2_with fail
        go_roundw
        case rel => exact ⟨s, h, s0, u0, by omega, by omega, s4, rfl, rfl, C1, CN, Lib.hid (HA.out.drewN _), Lib.hid (HE.out.drewN _ _ HI2.out), Lib.hid (HK.out.drewN _)⟩
        case measure => simp [intOf]; omega
      · as_aux_lemma =>
        have hd2 := cmp3_ge (a := T x) (b := T y) (by omega)
        have CN := Lib.hid (show h + 1 = a ∨ nn - (h + 1) = b ∨ lexT T (D (h + 1 - 1)) (D (nn - (h + 1))) from .inr (.inr (by have q0 := HQ0.out; rw [Nat.add_sub_cancel, show nn - (h + 1) = q by omega, HX.out, HY.out]; exact (lex_left hxy).2 hc)))
        clear hc hxy
        go_wp2_with fail
        go_quiet ((go_at_call 29; with_reducible exact Calls.quiet_of (HC.out.call _ x y (HE.out.drewN _ _ HI2.out) sx sy)))
        go_wp2_with fail
        go_roundw
        case rel => exact ⟨h + 1, r, by omega, by omega, s2, s3, by omega, by go_num, rfl, CN, C2, Lib.hid (HA.out.drewN _), Lib.hid (HE.out.drewN _ _ HI2.out), Lib.hid (HK.out.drewN _)⟩
        case measure => simp [intOf]; omega
    · have hd : decide ((s : Int) < (r : Int)) = false := by simp; omega
      obtain rfl : r = s := by omega
      obtain ⟨e, he⟩ : ∃ e : Nat, (nn : Int) - (r : Int) = (e : Int) := ⟨nn - r, by omega⟩
      have e0 : e + r = nn := by omega
      have MID := Lib.hid (show Mid T S D (rot D r m e) a r k e b by
        have := mid_of (e := e) (s := r) HL.out HR.out HLR.out HS.out s0 s2 (by omega) (by omega) (by have := C1.out; rw [show nn - r = e by omega] at this; exact this) (by have := C2.out; rw [show nn - r = e by omega] at this; exact this)
        rw [show r + (e - m) = k by omega] at this
        exact this)
      clear C1 C2 hlt
      obtain ⟨wo, rfl⟩ : ∃ wo, wo = wr := ⟨_, rfl⟩
      go_upto_region 39 with fail
      obtain ⟨b1, hb1⟩ : ∃ b1, (decide ((r : Int) < (m : Int)) && decide ((m : Int) < (e : Int))) = b1 := ⟨_, rfl⟩
      have HB1 := Lib.hid hb1
      go_cut [185] (fun v wx => v = .bool b1 ∧ wx = wo)
      case first => as_aux_lemma =>
        by_cases hv : r < m
        · have dv : decide ((r : Int) < (m : Int)) = true := by simp; omega
          have dv' : decide (r < m) = true := by simp; omega
          go_wp2_with fail
          go_meet
          exact ⟨by rw [← hb1, dv]; simp, rfl⟩
        · have dv : decide ((r : Int) < (m : Int)) = false := by simp; omega
          have dv' : decide (r < m) = false := by simp; omega
          go_wp2_with fail
          go_meet
          exact ⟨by rw [← hb1, dv]; rfl, rfl⟩
      case rest =>
      obtain ⟨rfl, rfl⟩ := hcut
      clear hb1
      go_upto_if 185 with fail
      go_cut [] (fun wx => Hid (Arr wx g n cap (rot D r m e)) ∧ Hid (I wx) ∧ Hid (Keeps (· = g) w wx))
      case first => as_aux_lemma =>
        cases b1
        · have hh : r = m ∨ e = m := by have := HB1.out; simp at this; omega
          have hrot : rot D r m e = D := by rcases hh with h | h; rw [h]; exact rot_left D m e; rw [h]; exact rot_right D r m s2
          have HRT := Lib.hid hrot
          clear hh hrot
          go_wp2_with fail
          go_meet
          exact ⟨Lib.hid (by rw [HRT.out]; exact HA.out), HI2, HK⟩
        · have hh : r < m ∧ m < e := by have := HB1.out; simp at this; omega
          obtain ⟨hh1, hh2⟩ := hh
          go_wp2_with fail
          refine (rotate_any g n cap r m e D _ I HE.out _ HA.out HI2.out hn hh1 hh2 (by omega)).mono ?_
          rintro x w1 ⟨rfl, hA, hI, hkk⟩
          have HA1 := Lib.hid hA; have HI1 := Lib.hid hI; have HK1 := Lib.hid (HK.out.trans hkk)
          clear hA hI hkk
          go_wp2_with fail
          go_meet
          exact ⟨HA1, HI1, HK1⟩
      case rest =>
      obtain ⟨HA1, HI1, HK1⟩ := hcut
      obtain ⟨wp, rfl⟩ : ∃ wp, wp = wc := ⟨_, rfl⟩
      clear HA HI2 HK HB1
      obtain ⟨D1, hD1⟩ : ∃ D1, rot D r m e = D1 := ⟨_, rfl⟩
      rw [hD1] at HA1 MID
      clear hD1
      go_upto_region 41 with fail
      obtain ⟨b2, hb2⟩ : ∃ b2, (decide ((a : Int) < (r : Int)) && decide ((r : Int) < (k : Int))) = b2 := ⟨_, rfl⟩
      have HB2 := Lib.hid hb2
      go_cut [199] (fun v wx => v = .bool b2 ∧ wx = wp)
      case first => as_aux_lemma =>
        by_cases hv : a < r
        · have dv : decide ((a : Int) < (r : Int)) = true := by simp; omega
          have dv' : decide (a < r) = true := by simp; omega
          go_wp2_with fail
          go_meet
          exact ⟨by rw [← hb2, dv]; simp, rfl⟩
        · have dv : decide ((a : Int) < (r : Int)) = false := by simp; omega
          have dv' : decide (a < r) = false := by simp; omega
          go_wp2_with fail
          go_meet
          exact ⟨by rw [← hb2, dv]; rfl, rfl⟩
      case rest =>
      obtain ⟨rfl, rfl⟩ := hcut
      clear hb2
      go_upto_if 199 with fail
      go_cut [] (fun wx => ∃ F, Hid (Arr wx g n cap F) ∧ Hid (Sam D1 F a k) ∧ Hid (Srt T F a k) ∧ Hid (I wx) ∧ Hid (Keeps (· = g) w wx))
      case first => as_aux_lemma =>
        cases b2
        · have hh : r = a ∨ r = k := by have := HB2.out; simp at this; omega
          have hsrt : Srt T D1 a k := by
            rcases hh with h | h
            · have := MID.out.s2; rw [h] at this; exact this
            · have := MID.out.s1; rw [h] at this; exact this
          have HSR := Lib.hid hsrt
          clear hh hsrt
          go_wp2_with fail
          go_meet
          exact ⟨D1, HA1, Lib.hid (Sam.refl _ _ _), HSR, HI1, HK1⟩
        · have hh : a < r ∧ r < k := by have := HB2.out; simp at this; omega
          obtain ⟨hh1, hh2⟩ := hh
          go_wp2_with fail
          refine (IH.out a r k D1 _ (by omega) hh1 hh2 (by omega) HA1.out HI1.out MID.out.s1 MID.out.s2 MID.out.l1 (fun i h1 h2 => MID.out.ok i h1 (by omega))).mono ?_
          rintro x w1 ⟨F, rfl, hA, hs, ht, hI, hkk⟩
          have HA2 := Lib.hid hA; have HS2 := Lib.hid hs; have HT2 := Lib.hid ht; have HI2 := Lib.hid hI; have HK2 := Lib.hid (HK1.out.trans hkk)
          clear hA hs ht hI hkk
          go_wp2_with fail
          go_meet
          exact ⟨F, HA2, HS2, HT2, HI2, HK2⟩
      case rest =>
      obtain ⟨F, HA2, HS2, HT2, HI2, HK2⟩ := hcut
      obtain ⟨wy, rfl⟩ : ∃ wy, wy = wc := ⟨_, rfl⟩
      clear HA1 HI1 HK1 HB2
      have RG := Lib.hid (MID.out.right (by omega) (by omega) HS2.out)
      go_upto_region 43 with fail
      obtain ⟨b3, hb3⟩ : ∃ b3, (decide ((k : Int) < (e : Int)) && decide ((e : Int) < (b : Int))) = b3 := ⟨_, rfl⟩
      have HB3 := Lib.hid hb3
      go_cut [213] (fun v wx => v = .bool b3 ∧ wx = wy)
      case first => as_aux_lemma =>
        by_cases hv : k < e
        · have dv : decide ((k : Int) < (e : Int)) = true := by simp; omega
          have dv' : decide (k < e) = true := by simp; omega
          go_wp2_with fail
          go_meet
          exact ⟨by rw [← hb3, dv]; simp, rfl⟩
        · have dv : decide ((k : Int) < (e : Int)) = false := by simp; omega
          have dv' : decide (k < e) = false := by simp; omega
          go_wp2_with fail
          go_meet
          exact ⟨by rw [← hb3, dv]; rfl, rfl⟩
      case rest =>
      obtain ⟨rfl, rfl⟩ := hcut
      clear hb3
      cases b3
      · as_aux_lemma =>
        have hh : e = k ∨ e = b := by have := HB3.out; simp at this; omega
        have hsrt : Srt T F k b := by
          rcases hh with h | h
          · have := RG.out.2.1; rw [h] at this; exact this
          · have := RG.out.1; rw [h] at this; exact this
        have FIN := Lib.hid (mid_fin MID.out (by omega) (by omega) HS2.out HT2.out (Sam.refl F k b) hsrt)
        clear hh hsrt
        go_wp2_with fail
        go_end0
        exact ⟨F, rfl, HA2.out, FIN.out.1, FIN.out.2, HI2.out, HK2.out⟩
      · as_aux_lemma =>
        have hh : k < e ∧ e < b := by have := HB3.out; simp at this; omega
        obtain ⟨hh1, hh2⟩ := hh
        go_wp2_with fail
        refine (IH.out k e b F _ (by omega) hh1 hh2 h3 HA2.out HI2.out RG.out.1 RG.out.2.1 RG.out.2.2.1 RG.out.2.2.2).mono ?_
        rintro x w1 ⟨G, rfl, hA, hs, ht, hI, hkk⟩
        have FIN := Lib.hid (mid_fin MID.out (by omega) (by omega) HS2.out HT2.out hs ht)
        have HA3 := Lib.hid hA; have HI3 := Lib.hid hI; have HK3 := Lib.hid (HK2.out.trans hkk)
        clear hA hs ht hI hkk
        go_wp2_with fail
        go_end0
        exact ⟨G, rfl, HA3.out, FIN.out.1, FIN.out.2, HI3.out, HK3.out⟩
end Go.Proofs.YtjhhpcjnhjbpdaaGreat
