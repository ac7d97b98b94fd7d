/- Joined: SoG, SoH, SoI. -/
import Derived.Test.YtjhhpcjnhjbpdaaGreatSoF
import Derived.Test.YtjhhpcjnhjbpdaaGreatQA
/- The library's stable sort: numbers put in, one by one. -/
set_option linter.unusedSimpArgs false
set_option linter.unusedVariables false
namespace Go.Proofs.YtjhhpcjnhjbpdaaGreat
open Go.RowKit
theorem Arr.swap0 {W : World} {g n cap : Nat} {D : Nat → Int} (h : Arr W g n cap D) {i j : Nat} {x y : Int} (hx : D i = x) (hy : D j = y) : Arr ((W.setCell ⟨g, i, none⟩ (.int .i64 y)).setCell ⟨g, j, none⟩ (.int .i64 x)) g n cap (swp D i j) := by
  rw [← swp_upd, hx, hy]
  exact (h.set i y).set j x
theorem Env.swap0 {g : Nat} {I : World → Prop} (h : Env g I) {W : World} (hI : I W) (i j : Nat) (u v : Value) : I ((W.setCell ⟨g, i, none⟩ u).setCell ⟨g, j, none⟩ v) := h.set _ _ _ (h.set _ _ _ hI)
theorem keeps_swap0 {g : Nat} {w W : World} (h : Keeps (· = g) w W) (i j : Nat) (u v : Value) : Keeps (· = g) w ((W.setCell ⟨g, i, none⟩ u).setCell ⟨g, j, none⟩ v) := (h.set_ (Or.inl rfl) u).set_ (Or.inl rfl) v
set_option maxRecDepth 100000 in
set_option maxHeartbeats 4000000 in
theorem ins_none (g n cap a b bx : Nat) (D : Nat → Int) (T : Int → Int) (S : Int → Prop) (I : World → Prop) (w : World) (h : Arr w g n cap D) (hI : I w) (hn : n ≤ 1000000) (hab : b ≤ a) (ha : a ≤ n) :
    Calls Tryz.prog 61 #[.slice (some ⟨g, 0, none⟩) n cap, .int .i64 a, .int .i64 b, .func (.func 29) #[] #[.pointer (some ⟨bx, 0, none⟩)]] w (Mgd T g n cap D a b I w) := by
  have H0 := Lib.hid h; have HI := Lib.hid hI
  clear h hI
  have d0 : decide ((a : Int) + 1 < (b : Int)) = false := by simp; omega
  go_enter Tryz.func61, Tryz.ntmps61
  go_wp2_with fail
  refine wp_loop_rounds 1 ?_
  rw [rounds_succ]
  go_wp2_with fail
  go_end0
  exact ⟨D, rfl, H0.out, Sam.refl _ _ _, fun i j h1 h2 h3 => by omega, HI.out, Keeps.refl _ _⟩
set_option maxRecDepth 100000 in
set_option maxHeartbeats 4000000 in
theorem ins_any (g n cap a b bx : Nat) (D : Nat → Int) (T : Int → Int) (S : Int → Prop) (I : World → Prop) (hE : Env g I) (hC : Cmp bx T S I) (w : World) (h : Arr w g n cap D) (hI : I w) (hn : n ≤ 1000000) (h1 : a < b) (h3 : b ≤ n)
    (hlr : ∀ i j, a ≤ i → i < j → j < b → D i < D j) (hS : ∀ i, a ≤ i → i < b → S (D i)) :
    Calls Tryz.prog 61 #[.slice (some ⟨g, 0, none⟩) n cap, .int .i64 a, .int .i64 b, .func (.func 29) #[] #[.pointer (some ⟨bx, 0, none⟩)]] w (Mgd T g n cap D a b I w) := by
  have H0 := Lib.hid h; have HI := Lib.hid hI; have HE := Lib.hid hE; have HC := Lib.hid hC; have HLR := Lib.hid hlr; have HS := Lib.hid hS
  clear h hI hE hC hlr hS
  go_enter Tryz.func61, Tryz.ntmps61
  go_wp2_with fail
  go_loopw [8] (fun si wr => ∃ (i : Nat) (E : Nat → Int), a + 1 ≤ i ∧ i ≤ b ∧ si = .int .i64 i ∧ Hid (Sam D E a i) ∧ Hid (Srt T E a i) ∧ Hid (Arr wr g n cap E) ∧ Hid (I wr) ∧ Hid (Keeps (· = g) w wr)) (fun si _ => b - (intOf si).toNat)
  case atStart => exact ⟨a + 1, D, Nat.le_refl _, by omega, by go_num, Lib.hid (Sam.refl _ _ _), Lib.hid (fun i j h1 h2 h3 => by omega), H0, HI, Lib.hid (Keeps.refl _ _)⟩
  case round =>
    obtain ⟨i, E, i0, i1, rfl, SM, SR, HA, HI2, HK⟩ := hrel
    obtain ⟨wo, rfl⟩ : ∃ wo, wo = wr := ⟨_, rfl⟩
    by_cases hlt : i < b
    · have hd : decide ((i : Int) < (b : Int)) = true := by simp; omega
      have EI := Lib.hid (SM.out.2 i (.inr (Nat.le_refl _)))
      have LT := Lib.hid (show ∀ q, a ≤ q → q < i → E q < E i ∧ S (E q) from fun q q1 q2 => by
        obtain ⟨p, p1, p2, p3⟩ := (SM.out.1 (E q)).2 ⟨q, q1, q2, rfl⟩
        rw [EI.out, ← p3]
        exact ⟨HLR.out p i p1 p2 hlt, HS.out p p1 (by omega)⟩)
      have SI := Lib.hid (show S (E i) by rw [EI.out]; exact HS.out i (by omega) hlt)
      go_wp2_with fail
      go_loopw [9] (fun sj wr => ∃ j : Nat, a ≤ j ∧ j ≤ i ∧ sj = .int .i64 j ∧ Hid (j = i ∨ lexT T (E i) (E j)) ∧ Hid (Arr wr g n cap (rot E j i (i + 1))) ∧ Hid (I wr) ∧ Hid (Keeps (· = g) w wr)) (fun sj _ => (intOf sj).toNat)
      case atStart => exact ⟨i, by omega, Nat.le_refl _, rfl, Lib.hid (.inl rfl), Lib.hid (by rw [rot_left]; exact HA.out), HI2, HK⟩
      case round =>
        obtain ⟨j, j0, j1, rfl, C2, HA, HI2, HK⟩ := hrel
        obtain ⟨wq, rfl⟩ : ∃ wq, wq = wr := ⟨_, rfl⟩
        by_cases hja : a < j
        · have dj : decide ((a : Int) < (j : Int)) = true := by simp; omega
          have dj' : decide (a < j) = true := by simp; omega
          obtain ⟨q, hq⟩ : ∃ q, j = q + 1 := ⟨j - 1, by omega⟩
          have HQ := Lib.hid hq
          have q1 : a ≤ q := by omega
          have q2 : q ≤ i := by omega
          have q3 : q + 1 ≤ i := by omega
          obtain ⟨x, hx⟩ : ∃ x, E i = x := ⟨_, rfl⟩
          obtain ⟨y, hy⟩ : ∃ y, E q = y := ⟨_, rfl⟩
          have rx : rot E j i (i + 1) j = x := by rw [rot_a E (Nat.le_refl _) (by omega), ← hx]; congr 1; omega
          have ry : rot E j i (i + 1) q = y := by rw [rot_lo E (by omega)]; exact hy
          have c0 := HA.out.cell (i := j) (by omega); have c1 := HA.out.cell (i := q) (by omega)
          have f0 := HA.out.frozen j; have f1 := HA.out.frozen q
          have gl := HA.out.lt
          rw [rx] at c0; rw [ry] at c1
          have lt := (LT.out q (by omega) (by omega)).1
          have sy := (LT.out q (by omega) (by omega)).2
          have sx := SI.out
          rw [hx] at lt sx; rw [hy] at lt sy
          have HX := Lib.hid hx; have HY := Lib.hid hy; have RX := Lib.hid rx; have RY := Lib.hid ry
          have t0 : ((j : Int) - 1) = (q : Int) := by omega
          have t4 : IntKind.i64.wrap (q : Int) = (q : Int) := IntWalk.i64_in _ (by omega)
          have t5 : IntKind.i64.wrap ((j : Int) - 1) = (q : Int) := by rw [t0]; exact t4
          have t6 : (q : Int) < (n : Int) := by omega
          have t7 : (j : Int) < (n : Int) := by omega
          have t8 : q < j := by omega
          clear hx hy rx ry hq
          by_cases hc : T x < T y
          · have hd2 := cmp3_lt hc
            have CN := Lib.hid (show q = i ∨ lexT T (E i) (E q) from .inr (by rw [HX.out, HY.out]; exact (lex_right lt).2 hc))
            clear hc lt
            go_wp2_with fail
            go_quiet ((go_at_call 29; with_reducible exact Calls.quiet_of (HC.out.call _ x y (HE.out.drewN _ _ HI2.out) sx sy)))
            go_wp2_with fail
            have AN := Lib.hid (show Arr (((wq.drewN (nq + 1)).setCell ⟨g, j, none⟩ (.int .i64 y)).setCell ⟨g, q, none⟩ (.int .i64 x)) g n cap (rot E q i (i + 1)) by
              have hs := (HA.out.drewN (nq + 1)).swap0 RX.out RY.out
              have e : swp (rot E j i (i + 1)) j q = rot E q i (i + 1) := by rw [HQ.out]; exact rot_ins2 E q3
              rw [← e]
              exact hs)
            have IN := Lib.hid (HE.out.swap0 (HE.out.drewN _ (nq + 1) HI2.out) j q (.int .i64 y) (.int .i64 x))
            have KN := Lib.hid (keeps_swap0 (HK.out.drewN (nq + 1)) j q (.int .i64 y) (.int .i64 x))
            go_region_with (fail)
            all_goals
              clear t4 t5
              go_wp2_with fail
              go_roundw
              case rel => exact ⟨q, q1, q2, rfl, CN, AN, IN, KN⟩
              case measure => simp [intOf]; omega
          · as_aux_lemma =>
            have hd2 := cmp3_ge (a := T x) (b := T y) (by omega)
            have C1 := Lib.hid (show j = a ∨ lexT T (E (j - 1)) (E i) from .inr (by rw [show j - 1 = q by have := HQ.out; omega, HX.out, HY.out]; exact (lex_left lt).2 hc))
            have SR2 := Lib.hid (ins2_srt SR.out j0 j1 C1.out C2.out)
            have SM2 := Lib.hid ((SM.out.sub (Nat.le_refl a) (Nat.le_succ i)).trans ((rot_same E j1 (Nat.le_succ i)).sub j0 (Nat.le_refl _)))
            clear hc lt
            go_wp2_with fail
            go_quiet ((go_at_call 29; with_reducible exact Calls.quiet_of (HC.out.call _ x y (HE.out.drewN _ _ HI2.out) sx sy)))
            go_wp2_with fail
            go_roundw
            case rel => exact ⟨i + 1, _, by omega, by omega, by go_num, SM2, SR2, Lib.hid (HA.out.drewN _), Lib.hid (HE.out.drewN _ _ HI2.out), Lib.hid (HK.out.drewN _)⟩
            case measure => simp [intOf]; omega
        · have dj : decide ((a : Int) < (j : Int)) = false := by simp; omega
          have dj' : decide (a < j) = false := by simp; omega
          have SR2 := Lib.hid (ins2_srt SR.out j0 j1 (.inl (by omega)) C2.out)
          have SM2 := Lib.hid ((SM.out.sub (Nat.le_refl a) (Nat.le_succ i)).trans ((rot_same E j1 (Nat.le_succ i)).sub j0 (Nat.le_refl _)))
          go_wp2_with fail
          go_quiet (fail)
          go_wp2_with fail
          go_roundw
          case rel => exact ⟨i + 1, _, by omega, by omega, by go_num, SM2, SR2, Lib.hid (HA.out.drewN _), Lib.hid (HE.out.drewN _ _ HI2.out), Lib.hid (HK.out.drewN _)⟩
          case measure => simp [intOf]; omega
    · have hd : decide ((i : Int) < (b : Int)) = false := by simp; omega
      obtain rfl : i = b := by omega
      go_wp2_with fail
      go_end0
      exact ⟨E, rfl, HA.out, SM.out, SR.out, HI2.out, HK.out⟩
end Go.Proofs.YtjhhpcjnhjbpdaaGreat

/- Stable sorting in plain Lean: blocks. -/
set_option linter.unusedSimpArgs false
set_option linter.unusedVariables false
namespace Go.Proofs.YtjhhpcjnhjbpdaaGreat
/-- all numbers left of t are less than those right of it -/
def Ord (E : Nat → Int) (n t : Nat) : Prop := ∀ i j, i < t → t ≤ j → j < n → E i < E j
section
variable {T : Int → Int} {E F G : Nat → Int} {n a b bs q : Nat}
theorem Ord.sam {t : Nat} (h : Ord E n t) (s : Sam E F a b) (ht : t ≤ a ∨ b ≤ t) (hb : b ≤ n) : Ord F n t := by
  intro i j hi hj hn
  have hi' : ∃ i', i' < t ∧ E i' = F i := by
    by_cases x : a ≤ i ∧ i < b
    · obtain ⟨p, p1, p2, p3⟩ := (s.1 (F i)).2 ⟨i, x.1, x.2, rfl⟩
      exact ⟨p, by omega, p3⟩
    · exact ⟨i, hi, (s.2 i (by omega)).symm⟩
  have hj' : ∃ j', t ≤ j' ∧ j' < n ∧ E j' = F j := by
    by_cases x : a ≤ j ∧ j < b
    · obtain ⟨p, p1, p2, p3⟩ := (s.1 (F j)).2 ⟨j, x.1, x.2, rfl⟩
      exact ⟨p, by omega, by omega, p3⟩
    · exact ⟨j, hj, hn, (s.2 j (by omega)).symm⟩
  obtain ⟨i', i1, i2⟩ := hi'
  obtain ⟨j', j1, j2, j3⟩ := hj'
  rw [← i2, ← j3]
  exact h i' j' i1 j1 j2
theorem Ord.high {t : Nat} (h : n ≤ t) : Ord E n t := fun i j _ hj hn => by omega
theorem Srt.sam {x y : Nat} (h : Srt T E x y) (s : Sam E F a b) (ht : y ≤ a ∨ b ≤ x) : Srt T F x y := by
  intro i j hi hij hj
  rw [s.2 i (by omega), s.2 j (by omega)]
  exact h i j hi hij hj
theorem Srt.empty {x y : Nat} (h : y ≤ x) : Srt T E x y := fun i j _ _ _ => by omega
/-- blocks of bs are sorted -/
structure Lv (T : Int → Int) (E : Nat → Int) (n bs : Nat) : Prop where
  o : ∀ p, Ord E n (p * bs)
  s : ∀ p, Srt T E (p * bs) (min (p * bs + bs) n)
/-- .. and q blocks of twice that length -/
structure Ps (T : Int → Int) (F : Nat → Int) (n bs q : Nat) : Prop where
  s2 : ∀ p, p < q → Srt T F (p * (2 * bs)) (p * (2 * bs) + 2 * bs)
  o2 : ∀ p, p ≤ q → Ord F n (p * (2 * bs))
  o : ∀ t, Ord F n (q * (2 * bs) + t * bs)
  s : ∀ t, Srt T F (q * (2 * bs) + t * bs) (min (q * (2 * bs) + t * bs + bs) n)
theorem Lv.start (h : Lv T E n bs) : Ps T E n bs 0 := by
  refine ⟨fun p hp => absurd hp (Nat.not_lt_zero _), fun p hp => ?_, fun t => ?_, fun t => ?_⟩
  · rw [show p = 0 by omega, Nat.zero_mul]; exact fun i j hi _ _ => by omega
  · rw [Nat.zero_mul, Nat.zero_add]; exact h.o t
  · rw [Nat.zero_mul, Nat.zero_add]; exact h.s t
theorem Ps.step (h : Ps T F n bs q) (hs : Sam F G (q * (2 * bs)) (q * (2 * bs) + 2 * bs)) (hg : Srt T G (q * (2 * bs)) (q * (2 * bs) + 2 * bs)) (hn : q * (2 * bs) + 2 * bs ≤ n) : Ps T G n bs (q + 1) := by
  have e : (q + 1) * (2 * bs) = q * (2 * bs) + 2 * bs := Nat.succ_mul _ _
  refine ⟨fun p hp => ?_, fun p hp => ?_, fun t => ?_, fun t => ?_⟩
  · rcases Nat.lt_or_eq_of_le (Nat.lt_succ_iff.1 hp) with h1 | h1
    · have : (p + 1) * (2 * bs) ≤ q * (2 * bs) := Nat.mul_le_mul_right _ h1
      rw [Nat.succ_mul] at this
      exact (h.s2 p h1).sam hs (.inl this)
    · rw [h1]; exact hg
  · rcases Nat.lt_or_eq_of_le hp with h1 | h1
    · have : p * (2 * bs) ≤ q * (2 * bs) := Nat.mul_le_mul_right _ (Nat.lt_succ_iff.1 h1)
      exact (h.o2 p (Nat.lt_succ_iff.1 h1)).sam hs (.inl this) hn
    · rw [h1, e]
      have := h.o 2
      exact this.sam hs (.inr (Nat.le_refl _)) hn
  · rw [e]
    have := h.o (t + 2)
    rw [Nat.add_mul, show q * (2 * bs) + (t * bs + 2 * bs) = q * (2 * bs) + 2 * bs + t * bs by omega] at this
    exact this.sam hs (.inr (by omega)) hn
  · rw [e]
    have := h.s (t + 2)
    rw [Nat.add_mul, show q * (2 * bs) + (t * bs + 2 * bs) = q * (2 * bs) + 2 * bs + t * bs by omega] at this
    exact this.sam hs (.inr (by omega))
theorem Ps.fin (h : Ps T F n bs q) (ha : q * (2 * bs) ≤ n) (hb : n < q * (2 * bs) + 2 * bs) (hs : Sam F G (q * (2 * bs)) n) (hg : Srt T G (q * (2 * bs)) n) : Lv T G n (2 * bs) := by
  refine ⟨fun p => ?_, fun p => ?_⟩
  · by_cases hp : p ≤ q
    · have : p * (2 * bs) ≤ q * (2 * bs) := Nat.mul_le_mul_right _ hp
      exact (h.o2 p hp).sam hs (.inl this) (Nat.le_refl _)
    · have : (q + 1) * (2 * bs) ≤ p * (2 * bs) := Nat.mul_le_mul_right _ (by omega)
      rw [Nat.succ_mul] at this
      exact Ord.high (by omega)
  · rcases Nat.lt_trichotomy p q with hp | hp | hp
    · have : (p + 1) * (2 * bs) ≤ q * (2 * bs) := Nat.mul_le_mul_right _ hp
      rw [Nat.succ_mul] at this
      rw [Nat.min_eq_left (by omega)]
      exact (h.s2 p hp).sam hs (.inl this)
    · rw [hp, Nat.min_eq_right (by omega)]; exact hg
    · have : (q + 1) * (2 * bs) ≤ p * (2 * bs) := Nat.mul_le_mul_right _ hp
      rw [Nat.succ_mul] at this
      exact Srt.empty (by omega)
theorem Ps.fin0 (h : Ps T F n bs q) (ha : q * (2 * bs) ≤ n) (hb : n < q * (2 * bs) + 2 * bs) (hm : n ≤ q * (2 * bs) + bs) : Lv T F n (2 * bs) := by
  have := h.s 0
  rw [Nat.zero_mul, Nat.add_zero, Nat.min_eq_right hm] at this
  exact h.fin ha hb (Sam.refl _ _ _) this
theorem Ps.two (h : Ps T F n bs q) (hn : q * (2 * bs) + 2 * bs ≤ n) : Srt T F (q * (2 * bs)) (q * (2 * bs) + bs) ∧ Srt T F (q * (2 * bs) + bs) (q * (2 * bs) + 2 * bs) ∧ ∀ i j, q * (2 * bs) ≤ i → i < q * (2 * bs) + bs → q * (2 * bs) + bs ≤ j → j < q * (2 * bs) + 2 * bs → F i < F j := by
  have h0 := h.s 0; have h1 := h.s 1; have h2 := h.o 1
  rw [Nat.zero_mul, Nat.add_zero, Nat.min_eq_left (by omega)] at h0
  rw [Nat.one_mul, Nat.min_eq_left (by omega), show q * (2 * bs) + bs + bs = q * (2 * bs) + 2 * bs by omega] at h1
  rw [Nat.one_mul] at h2
  exact ⟨h0, h1, fun i j _ hi hj hb => h2 i j hi hj (by omega)⟩
theorem Ps.last (h : Ps T F n bs q) (hb : n < q * (2 * bs) + 2 * bs) (hm : q * (2 * bs) + bs < n) : Srt T F (q * (2 * bs)) (q * (2 * bs) + bs) ∧ Srt T F (q * (2 * bs) + bs) n ∧ ∀ i j, q * (2 * bs) ≤ i → i < q * (2 * bs) + bs → q * (2 * bs) + bs ≤ j → j < n → F i < F j := by
  have h0 := h.s 0; have h1 := h.s 1; have h2 := h.o 1
  rw [Nat.zero_mul, Nat.add_zero, Nat.min_eq_left (by omega)] at h0
  rw [Nat.one_mul, Nat.min_eq_right (by omega)] at h1
  rw [Nat.one_mul] at h2
  exact ⟨h0, h1, fun i j _ hi hj hb => h2 i j hi hj hb⟩
/-- q blocks of 20 are sorted, and all behind them rises -/
structure In1 (T : Int → Int) (E : Nat → Int) (n q : Nat) : Prop where
  s : ∀ p, p < q → Srt T E (p * 20) (p * 20 + 20)
  o : ∀ p, p ≤ q → Ord E n (p * 20)
  r : ∀ t, q * 20 ≤ t → Ord E n t
theorem In1.start (h : ∀ i j, i < j → j < n → E i < E j) : In1 T E n 0 :=
  ⟨fun p hp => absurd hp (Nat.not_lt_zero _), fun p hp i j hi _ _ => by omega, fun t _ i j hi hj hn => h i j (by omega) hn⟩
theorem In1.step (h : In1 T E n q) (hs : Sam E F (q * 20) (q * 20 + 20)) (hf : Srt T F (q * 20) (q * 20 + 20)) (hn : q * 20 + 20 ≤ n) : In1 T F n (q + 1) := by
  refine ⟨fun p hp => ?_, fun p hp => ?_, fun t ht => ?_⟩
  · rcases Nat.lt_or_eq_of_le (Nat.lt_succ_iff.1 hp) with h1 | h1
    · exact (h.s p h1).sam hs (.inl (by omega))
    · rw [h1]; exact hf
  · rcases Nat.lt_or_eq_of_le hp with h1 | h1
    · exact (h.o p (by omega)).sam hs (.inl (by omega)) hn
    · rw [h1]; exact (h.r _ (by omega)).sam hs (.inr (by omega)) hn
  · exact (h.r t (by omega)).sam hs (.inr (by omega)) hn
theorem In1.fin (h : In1 T E n q) (ha : q * 20 ≤ n) (hb : n < q * 20 + 20) (hs : Sam E F (q * 20) n) (hf : Srt T F (q * 20) n) : Lv T F n 20 := by
  refine ⟨fun p => ?_, fun p => ?_⟩
  · by_cases hp : p ≤ q
    · exact (h.o p hp).sam hs (.inl (by omega)) (Nat.le_refl _)
    · exact Ord.high (by omega)
  · rcases Nat.lt_trichotomy p q with hp | hp | hp
    · rw [Nat.min_eq_left (by omega)]; exact (h.s p hp).sam hs (.inl (by omega))
    · rw [hp, Nat.min_eq_right (by omega)]; exact hf
    · exact Srt.empty (by omega)
theorem In1.rise (h : In1 T E n q) : ∀ i j, q * 20 ≤ i → i < j → j < n → E i < E j := fun i j hi hij hj => h.r j (by omega) i j hij (Nat.le_refl _) hj
theorem Lv.whole (h : Lv T E n bs) (hn : n ≤ bs) : Srt T E 0 n := by
  have := h.s 0
  rw [Nat.zero_mul, Nat.zero_add, Nat.min_eq_right hn] at this
  exact this
theorem Sam.ok {S : Int → Prop} (s : Sam E F a b) (h : ∀ i, i < n → S (E i)) (hb : b ≤ n) : ∀ i, i < n → S (F i) := by
  intro i hi
  by_cases x : a ≤ i ∧ i < b
  · obtain ⟨p, p1, p2, p3⟩ := (s.1 (F i)).2 ⟨i, x.1, x.2, rfl⟩
    rw [← p3]; exact h p (by omega)
  · rw [s.2 i (by omega)]; exact h i hi
end
end Go.Proofs.YtjhhpcjnhjbpdaaGreat

/- The library's stable sort, whole. -/
set_option linter.unusedSimpArgs false
set_option linter.unusedVariables false
namespace Go.Proofs.YtjhhpcjnhjbpdaaGreat
open Go.RowKit
set_option maxRecDepth 100000 in
set_option maxHeartbeats 4000000 in
theorem stable_any (g n cap bx : Nat) (D : Nat → Int) (T : Int → Int) (S : Int → Prop) (I : World → Prop) (hE : Env g I) (hC : Cmp bx T S I) (w : World) (h : Arr w g n cap D) (hI : I w) (hn : n ≤ 100000)
    (hr : ∀ i j, i < j → j < n → D i < D j) (hS : ∀ i, i < n → S (D i)) :
    Calls Tryz.prog 49 #[.slice (some ⟨g, 0, none⟩) n cap, .int .i64 n, .func (.func 29) #[] #[.pointer (some ⟨bx, 0, none⟩)]] w (Mgd T g n cap D 0 n I w) := by
  have H0 := Lib.hid h; have HI := Lib.hid hI; have HE := Lib.hid hE; have HC := Lib.hid hC; have HR := Lib.hid hr; have HS := Lib.hid hS
  clear h hI hE hC hr hS
  go_enter Tryz.func49, Tryz.ntmps49
  go_wp2_with fail
  go_loopw [7, 8] (fun sa sb wr => ∃ (q a b : Nat) (E : Nat → Int), a ≤ n ∧ a + 20 ≤ b ∧ b ≤ a + 20 ∧ sa = .int .i64 a ∧ sb = .int .i64 b ∧ Hid (a = q * 20) ∧ Hid (In1 T E n q) ∧ Hid (Sam D E 0 n) ∧ Hid (Arr wr g n cap E) ∧ Hid (I wr) ∧ Hid (Keeps (· = g) w wr)) (fun sa _ _ => n + 20 - (intOf sa).toNat)
  case atStart => exact ⟨0, 0, 20, D, Nat.zero_le _, by omega, by omega, rfl, rfl, Lib.hid rfl, Lib.hid (In1.start HR.out), Lib.hid (Sam.refl _ _ _), H0, HI, Lib.hid (Keeps.refl _ _)⟩
  case round =>
    obtain ⟨q, a, b, E, a1, b0, b1, rfl, rfl, QA, IN, SM, HA, HI2, HK⟩ := hrel
    obtain ⟨wo, rfl⟩ : ∃ wo, wo = wr := ⟨_, rfl⟩
    have SE := Lib.hid (SM.out.ok HS.out (Nat.le_refl _))
    by_cases hb : b ≤ n
    · have hd : decide ((b : Int) ≤ (n : Int)) = true := by simp; omega
      have hd' : decide (b ≤ n) = true := by simp; omega
      go_wp2_with fail
      refine (ins_any g n cap a b bx E T S I HE.out HC.out _ HA.out HI2.out (by omega) (by omega) hb (fun i j hi hij hj => IN.out.rise i j (by have := QA.out; omega) hij (by omega)) (fun i _ hi => SE.out i (by omega))).mono ?_
      rintro x w1 ⟨F, rfl, hA, hs, ht, hI, hkk⟩
      have SM1 := Lib.hid (SM.out.trans (hs.sub (Nat.zero_le _) hb))
      have IN1 := Lib.hid (show In1 T F n (q + 1) by
        have e := QA.out
        have e2 : b = q * 20 + 20 := by omega
        rw [e, e2] at hs ht
        exact IN.out.step hs ht (by omega))
      have HA1 := Lib.hid hA; have HI1 := Lib.hid hI; have HK1 := Lib.hid (HK.out.trans hkk)
      have QB := Lib.hid (show b = (q + 1) * 20 by have := QA.out; omega)
      clear hA hs ht hI hkk
      go_wp2_with fail
      go_roundw
      case rel => exact ⟨q + 1, b, b + 20, F, hb, by omega, by omega, rfl, by go_num, QB, IN1, SM1, HA1, HI1, HK1⟩
      case measure => simp [intOf]; omega
    · have hd : decide ((b : Int) ≤ (n : Int)) = false := by simp; omega
      have hd' : decide (b ≤ n) = false := by simp; omega
      go_wp2_with fail
      have post : ∃ F : Nat → Int, True := ⟨E, trivial⟩
      by_cases han : a < n
      · refine (ins_any g n cap a n bx E T S I HE.out HC.out _ HA.out HI2.out (by omega) han (Nat.le_refl _) (fun i j hi hij hj => IN.out.rise i j (by have := QA.out; omega) hij hj) (fun i _ hi => SE.out i hi)).mono ?_
        rintro x w1 ⟨F, rfl, hA, hs, ht, hI, hkk⟩
        have SM1 := Lib.hid (SM.out.trans (hs.sub (Nat.zero_le _) (Nat.le_refl _)))
        have LV := Lib.hid (show Lv T F n 20 by
          have e := QA.out
          rw [e] at hs ht
          exact IN.out.fin (by omega) (by omega) hs ht)
        have HA1 := Lib.hid hA; have HI1 := Lib.hid hI; have HK1 := Lib.hid (HK.out.trans hkk)
        clear hA hs ht hI hkk IN SM HA HI2 HK SE QA post
        go_wp2_with fail
        go_loopw [6, 7, 8, 9] (fun sz sa sb sm wr => ∃ (bs : Nat) (E : Nat → Int), 20 ≤ bs ∧ bs ≤ 200000 ∧ sz = .int .i64 bs ∧ Hid (Lv T E n bs) ∧ Hid (Sam D E 0 n) ∧ Hid (Arr wr g n cap E) ∧ Hid (I wr) ∧ Hid (Keeps (· = g) w wr)) (fun sz _ _ _ _ => n - (intOf sz).toNat)
        case atStart => exact ⟨20, F, Nat.le_refl _, by omega, rfl, LV, SM1, HA1, HI1, HK1⟩
        case round =>
          clear SM1 LV HA1 HI1 HK1
          obtain ⟨bs, E, bs0, bs1, rfl, LV, SM, HA, HI2, HK⟩ := hrel
          obtain ⟨w2, rfl⟩ : ∃ w2, w2 = wr := ⟨_, rfl⟩
          by_cases hbn : bs < n
          · have hd2 : decide ((bs : Int) < (n : Int)) = true := by simp; omega
            have hd2' : decide (bs < n) = true := by simp; omega
            obtain ⟨c, hc⟩ : ∃ c : Nat, (2 : Int) * (bs : Int) = (c : Int) := ⟨2 * bs, by omega⟩
            have hc2 : (bs : Int) * 2 = (c : Int) := by omega
            have hc3 : c ≤ 2 * bs := by omega
            have hc4 : 2 * bs ≤ c := by omega
            have HC2 := Lib.hid (show c = 2 * bs by omega)
            go_wp2_with fail
            go_loopw [7, 8] (fun sa sb wr => ∃ (q a b : Nat) (F : Nat → Int), a ≤ n ∧ a + c ≤ b ∧ b ≤ a + c ∧ sa = .int .i64 a ∧ sb = .int .i64 b ∧ Hid (a = q * (2 * bs)) ∧ Hid (Ps T F n bs q) ∧ Hid (Sam D F 0 n) ∧ Hid (Arr wr g n cap F) ∧ Hid (I wr) ∧ Hid (Keeps (· = g) w wr)) (fun sa _ _ => n + bs - (intOf sa).toNat)
            case atStart => exact ⟨0, 0, c, E, Nat.zero_le _, by omega, by omega, rfl, rfl, Lib.hid (Nat.zero_mul _).symm, Lib.hid LV.out.start, SM, HA, HI2, HK⟩
            case round =>
              clear LV SM HA HI2 HK
              obtain ⟨q, a, b, F, a1, b0, b1, rfl, rfl, QA, PS, SM, HA, HI2, HK⟩ := hrel
              obtain ⟨w3, rfl⟩ : ∃ w3, w3 = wr := ⟨_, rfl⟩
              have SE := Lib.hid (SM.out.ok HS.out (Nat.le_refl _))
              obtain ⟨mm, hmm⟩ : ∃ mm : Nat, (a : Int) + (bs : Int) = (mm : Int) := ⟨a + bs, by omega⟩
              have HMM := Lib.hid (show mm = q * (2 * bs) + bs by have := QA.out; omega)
              by_cases hb : b ≤ n
              · have hd3 : decide ((b : Int) ≤ (n : Int)) = true := by simp; omega
                have hd3' : decide (b ≤ n) = true := by simp; omega
                have HB := Lib.hid (show b = q * (2 * bs) + 2 * bs by have := QA.out; omega)
                have TW := Lib.hid (PS.out.two (by rw [← HB.out]; exact hb))
                go_wp2_with fail
                refine (merge_any g n cap bx T S I HE.out HC.out (by omega) (b - a) a mm b F _ (Nat.le_refl _) (by omega) (by omega) hb HA.out HI2.out (by rw [QA.out, HMM.out]; exact TW.out.1) (by rw [HMM.out, HB.out]; exact TW.out.2.1) (by rw [QA.out, HMM.out, HB.out]; exact TW.out.2.2) (fun i _ hi => SE.out i (by omega))).mono ?_
                rintro x w4 ⟨G, rfl, hA, hs, ht, hI, hkk⟩
                have SM2 := Lib.hid (SM.out.trans (hs.sub (Nat.zero_le _) hb))
                have PS2 := Lib.hid (show Ps T G n bs (q + 1) by
                  rw [QA.out, HB.out] at hs ht
                  exact PS.out.step hs ht (by rw [← HB.out]; exact hb))
                have HA2 := Lib.hid hA; have HI3 := Lib.hid hI; have HK2 := Lib.hid (HK.out.trans hkk)
                have QB := Lib.hid (show b = (q + 1) * (2 * bs) by rw [Nat.succ_mul]; exact HB.out)
                clear hA hs ht hI hkk
                obtain ⟨bb, hbb⟩ : ∃ bb : Nat, (b : Int) + (c : Int) = (bb : Int) := ⟨b + c, by omega⟩
                go_wp2_with fail
                go_roundw
                case rel => exact ⟨q + 1, b, bb, G, hb, by omega, by omega, rfl, rfl, QB, PS2, SM2, HA2, HI3, HK2⟩
                case measure => simp [intOf]; omega
              · have hd3 : decide ((b : Int) ≤ (n : Int)) = false := by simp; omega
                have hd3' : decide (b ≤ n) = false := by simp; omega
                have hbc := Lib.hid (show n < q * (2 * bs) + 2 * bs by have := QA.out; omega)
                by_cases hmn : mm < n
                · have hd4 : decide ((mm : Int) < (n : Int)) = true := by simp; omega
                  have hd4' : decide (mm < n) = true := by simp; omega
                  have TW := Lib.hid (PS.out.last hbc.out (by rw [← HMM.out]; exact hmn))
                  go_wp2_with fail
                  refine (merge_any g n cap bx T S I HE.out HC.out (by omega) (n - a) a mm n F _ (Nat.le_refl _) (by omega) hmn (Nat.le_refl _) HA.out HI2.out (by rw [QA.out, HMM.out]; exact TW.out.1) (by rw [HMM.out]; exact TW.out.2.1) (by rw [QA.out, HMM.out]; exact TW.out.2.2) (fun i _ hi => SE.out i hi)).mono ?_
                  rintro x w4 ⟨G, rfl, hA, hs, ht, hI, hkk⟩
                  have SM2 := Lib.hid (SM.out.trans (hs.sub (Nat.zero_le _) (Nat.le_refl _)))
                  have LV2 := Lib.hid (show Lv T G n c by
                    have a2 := a1
                    rw [QA.out] at hs ht a2
                    rw [HC2.out]
                    exact PS.out.fin a2 hbc.out hs ht)
                  have HA2 := Lib.hid hA; have HI3 := Lib.hid hI; have HK2 := Lib.hid (HK.out.trans hkk)
                  clear hA hs ht hI hkk
                  go_wp2_with fail
                  go_roundw
                  case rel => exact ⟨c, G, by omega, by omega, rfl, LV2, SM2, HA2, HI3, HK2⟩
                  case measure => simp [intOf]; omega
                · have hd4 : decide ((mm : Int) < (n : Int)) = false := by simp; omega
                  have hd4' : decide (mm < n) = false := by simp; omega
                  have LV2 := Lib.hid (show Lv T F n c by
                    have a2 := a1
                    rw [QA.out] at a2
                    rw [HC2.out]
                    exact PS.out.fin0 a2 hbc.out (by rw [← HMM.out]; omega))
                  go_wp2_with fail
                  go_roundw
                  case rel => exact ⟨c, F, by omega, by omega, rfl, LV2, SM, HA, HI2, HK⟩
                  case measure => simp [intOf]; omega
          · have hd2 : decide ((bs : Int) < (n : Int)) = false := by simp; omega
            have hd2' : decide (bs < n) = false := by simp; omega
            have HW := Lib.hid (LV.out.whole (by omega))
            go_wp2_with fail
            go_end0
            exact ⟨E, rfl, HA.out, SM.out, HW.out, HI2.out, HK.out⟩
      · refine (ins_none g n cap a n bx E T S I _ HA.out HI2.out (by omega) (by omega) a1).mono ?_
        rintro x w1 ⟨F, rfl, hA, hs, ht, hI, hkk⟩
        have SM1 := Lib.hid (SM.out.trans (hs.sub (Nat.zero_le _) (Nat.le_refl _)))
        have LV := Lib.hid (show Lv T F n 20 by
          have e := QA.out
          rw [e] at hs ht
          exact IN.out.fin (by omega) (by omega) hs ht)
        have HA1 := Lib.hid hA; have HI1 := Lib.hid hI; have HK1 := Lib.hid (HK.out.trans hkk)
        clear hA hs ht hI hkk IN SM HA HI2 HK SE QA post
        go_wp2_with fail
        go_loopw [6, 7, 8, 9] (fun sz sa sb sm wr => ∃ (bs : Nat) (E : Nat → Int), 20 ≤ bs ∧ bs ≤ 200000 ∧ sz = .int .i64 bs ∧ Hid (Lv T E n bs) ∧ Hid (Sam D E 0 n) ∧ Hid (Arr wr g n cap E) ∧ Hid (I wr) ∧ Hid (Keeps (· = g) w wr)) (fun sz _ _ _ _ => n - (intOf sz).toNat)
        case atStart => exact ⟨20, F, Nat.le_refl _, by omega, rfl, LV, SM1, HA1, HI1, HK1⟩
        case round =>
          clear SM1 LV HA1 HI1 HK1
          obtain ⟨bs, E, bs0, bs1, rfl, LV, SM, HA, HI2, HK⟩ := hrel
          obtain ⟨w2, rfl⟩ : ∃ w2, w2 = wr := ⟨_, rfl⟩
          by_cases hbn : bs < n
          · have hd2 : decide ((bs : Int) < (n : Int)) = true := by simp; omega
            have hd2' : decide (bs < n) = true := by simp; omega
            obtain ⟨c, hc⟩ : ∃ c : Nat, (2 : Int) * (bs : Int) = (c : Int) := ⟨2 * bs, by omega⟩
            have hc2 : (bs : Int) * 2 = (c : Int) := by omega
            have hc3 : c ≤ 2 * bs := by omega
            have hc4 : 2 * bs ≤ c := by omega
            have HC2 := Lib.hid (show c = 2 * bs by omega)
            go_wp2_with fail
            go_loopw [7, 8] (fun sa sb wr => ∃ (q a b : Nat) (F : Nat → Int), a ≤ n ∧ a + c ≤ b ∧ b ≤ a + c ∧ sa = .int .i64 a ∧ sb = .int .i64 b ∧ Hid (a = q * (2 * bs)) ∧ Hid (Ps T F n bs q) ∧ Hid (Sam D F 0 n) ∧ Hid (Arr wr g n cap F) ∧ Hid (I wr) ∧ Hid (Keeps (· = g) w wr)) (fun sa _ _ => n + bs - (intOf sa).toNat)
            case atStart => exact ⟨0, 0, c, E, Nat.zero_le _, by omega, by omega, rfl, rfl, Lib.hid (Nat.zero_mul _).symm, Lib.hid LV.out.start, SM, HA, HI2, HK⟩
            case round =>
              clear LV SM HA HI2 HK
              obtain ⟨q, a, b, F, a1, b0, b1, rfl, rfl, QA, PS, SM, HA, HI2, HK⟩ := hrel
              obtain ⟨w3, rfl⟩ : ∃ w3, w3 = wr := ⟨_, rfl⟩
              have SE := Lib.hid (SM.out.ok HS.out (Nat.le_refl _))
              obtain ⟨mm, hmm⟩ : ∃ mm : Nat, (a : Int) + (bs : Int) = (mm : Int) := ⟨a + bs, by omega⟩
              have HMM := Lib.hid (show mm = q * (2 * bs) + bs by have := QA.out; omega)
              by_cases hb : b ≤ n
              · have hd3 : decide ((b : Int) ≤ (n : Int)) = true := by simp; omega
                have hd3' : decide (b ≤ n) = true := by simp; omega
                have HB := Lib.hid (show b = q * (2 * bs) + 2 * bs by have := QA.out; omega)
                have TW := Lib.hid (PS.out.two (by rw [← HB.out]; exact hb))
                go_wp2_with fail
                refine (merge_any g n cap bx T S I HE.out HC.out (by omega) (b - a) a mm b F _ (Nat.le_refl _) (by omega) (by omega) hb HA.out HI2.out (by rw [QA.out, HMM.out]; exact TW.out.1) (by rw [HMM.out, HB.out]; exact TW.out.2.1) (by rw [QA.out, HMM.out, HB.out]; exact TW.out.2.2) (fun i _ hi => SE.out i (by omega))).mono ?_
                rintro x w4 ⟨G, rfl, hA, hs, ht, hI, hkk⟩
                have SM2 := Lib.hid (SM.out.trans (hs.sub (Nat.zero_le _) hb))
                have PS2 := Lib.hid (show Ps T G n bs (q + 1) by
                  rw [QA.out, HB.out] at hs ht
                  exact PS.out.step hs ht (by rw [← HB.out]; exact hb))
                have HA2 := Lib.hid hA; have HI3 := Lib.hid hI; have HK2 := Lib.hid (HK.out.trans hkk)
                have QB := Lib.hid (show b = (q + 1) * (2 * bs) by rw [Nat.succ_mul]; exact HB.out)
                clear hA hs ht hI hkk
                obtain ⟨bb, hbb⟩ : ∃ bb : Nat, (b : Int) + (c : Int) = (bb : Int) := ⟨b + c, by omega⟩
                go_wp2_with fail
                go_roundw
                case rel => exact ⟨q + 1, b, bb, G, hb, by omega, by omega, rfl, rfl, QB, PS2, SM2, HA2, HI3, HK2⟩
                case measure => simp [intOf]; omega
              · have hd3 : decide ((b : Int) ≤ (n : Int)) = false := by simp; omega
                have hd3' : decide (b ≤ n) = false := by simp; omega
                have hbc := Lib.hid (show n < q * (2 * bs) + 2 * bs by have := QA.out; omega)
                by_cases hmn : mm < n
                · have hd4 : decide ((mm : Int) < (n : Int)) = true := by simp; omega
                  have hd4' : decide (mm < n) = true := by simp; omega
                  have TW := Lib.hid (PS.out.last hbc.out (by rw [← HMM.out]; exact hmn))
                  go_wp2_with fail
                  refine (merge_any g n cap bx T S I HE.out HC.out (by omega) (n - a) a mm n F _ (Nat.le_refl _) (by omega) hmn (Nat.le_refl _) HA.out HI2.out (by rw [QA.out, HMM.out]; exact TW.out.1) (by rw [HMM.out]; exact TW.out.2.1) (by rw [QA.out, HMM.out]; exact TW.out.2.2) (fun i _ hi => SE.out i hi)).mono ?_
                  rintro x w4 ⟨G, rfl, hA, hs, ht, hI, hkk⟩
                  have SM2 := Lib.hid (SM.out.trans (hs.sub (Nat.zero_le _) (Nat.le_refl _)))
                  have LV2 := Lib.hid (show Lv T G n c by
                    have a2 := a1
                    rw [QA.out] at hs ht a2
                    rw [HC2.out]
                    exact PS.out.fin a2 hbc.out hs ht)
                  have HA2 := Lib.hid hA; have HI3 := Lib.hid hI; have HK2 := Lib.hid (HK.out.trans hkk)
                  clear hA hs ht hI hkk
                  go_wp2_with fail
                  go_roundw
                  case rel => exact ⟨c, G, by omega, by omega, rfl, LV2, SM2, HA2, HI3, HK2⟩
                  case measure => simp [intOf]; omega
                · have hd4 : decide ((mm : Int) < (n : Int)) = false := by simp; omega
                  have hd4' : decide (mm < n) = false := by simp; omega
                  have LV2 := Lib.hid (show Lv T F n c by
                    have a2 := a1
                    rw [QA.out] at a2
                    rw [HC2.out]
                    exact PS.out.fin0 a2 hbc.out (by rw [← HMM.out]; omega))
                  go_wp2_with fail
                  go_roundw
                  case rel => exact ⟨c, F, by omega, by omega, rfl, LV2, SM, HA, HI2, HK⟩
                  case measure => simp [intOf]; omega
          · have hd2 : decide ((bs : Int) < (n : Int)) = false := by simp; omega
            have hd2' : decide (bs < n) = false := by simp; omega
            have HW := Lib.hid (LV.out.whole (by omega))
            go_wp2_with fail
            go_end0
            exact ⟨E, rfl, HA.out, SM.out, HW.out, HI2.out, HK.out⟩
end Go.Proofs.YtjhhpcjnhjbpdaaGreat
