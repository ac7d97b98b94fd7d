/- StampBehind: the walk. -/
import Derived.Test.YtaaocomhmlimaaaStC
import Derived.Test.YtaaocomhmlimaaaRated6
import Derived.Test.YtaaocomhmlimaaaOpen10b
import Derived.LoopTactic
import Derived.IntWalk
import Derived.Deep.RegionHeld3
import Derived.Deep.QuietTactic
import Derived.BigQuiet
set_option linter.unusedSimpArgs false
set_option linter.unusedVariables false
namespace Go.Proofs.Ytaaocomhmlimaaa
open Go.RowKit Mo
theorem rate128 : rate6 4575657221408423936 = true ∧ Mo.part 4575657221408423936 = 4503599627370496 ∧ expf 4575657221408423936 = 1016 := by decide
theorem ckLo_nonneg (c : Ck) (h : Int) : 0 ≤ ckLo c h := by
  unfold ckLo
  split
  · exact Int.le_trans (Int.le_max_right _ _) (Int.le_max_left _ _)
  · exact Int.le_refl _
def arr (gs : List Int) : Array Value := (gs.map (Value.int .i64)).toArray
theorem arr_set (gs : List Int) (m : Nat) (n : Int) : (arr gs).setIfInBounds m (.int .i64 n) = arr (gs.set m n) := by
  unfold arr
  simp [List.map_set]
theorem arr_at {w : World} {g : Nat} {T : TypeId} {gs : List Int} (h : Blk w g T (arr gs)) (q : Nat) (hq : q < gs.length) : w.cell? ⟨g, q, none⟩ = some (.int .i64 gs[q]) := by
  have := h.cell q
  rw [this]
  unfold arr
  simp [hq]
theorem next_one {w : World} {last hi lo n : Int} (g : Nat) (hs : Blk w g 53 #[.int .i64 last]) (h0 : 0 ≤ lo) (h1 : lo ≤ hi) (h2 : hi ≤ 1125899906842624) (hn : max last hi + 1 = n) (h3 : n ≤ 1125899906842624) :
    Calls Try.prog 11 #[.pointer (some ⟨g, 0, none⟩), .agg #[.int .i64 lo, .int .i64 hi], .slice none 0 0] w fun e' w' =>
      e' = .returned (.tuple #[.int .i64 n, .int .i64 0]) ∧ Blk w' g 53 #[.int .i64 n] ∧ Keeps (· = g) w w' :=
  next_any_n (last := last) (n := n) (er := 0) (l := n) (m := 0) (xs := []) g lo hi none 0 w rfl hs (reads_nil _ _) (by omega) (.inr (.inr ⟨⟨h0, h1, h2⟩, by simp [tops]; omega, by simp [tops]; omega, rfl, by simp [tops]; omega⟩))
theorem given_next {gs : List Int} {m : Nat} {n b : Int} (h : ∀ q (hq : q < gs.length), q < m → 1 ≤ gs[q] ∧ gs[q] ≤ b) (h0 : 1 ≤ n) (h1 : n ≤ b + 1) : ∀ q (hq : q < (gs.set m n).length), q < m + 1 → 1 ≤ (gs.set m n)[q] ∧ (gs.set m n)[q] ≤ b + 1 := by
  intro q hq hm
  rw [List.getElem_set]
  split
  · omega
  · have := h q (by simpa using hq) (by omega)
    omega
/-- a turn of a right clock of the rate 1/128 -/
theorem hold_turn {c : Ck} {h t : Int} {k : Nat} (H : HInv 4575657221408423936 c h t k) (hk : k < 60) (d s : Int) (d0 : 0 ≤ d) (d1 : d ≤ 65535) : 0 ≤ d / 256 ∧ d / 256 ≤ 255 ∧ -(d / 256) ≤ bro s (d / 256) ∧ bro s (d / 256) ≤ d / 256 ∧ HInv 4575657221408423936 c (h + (d - bro s (d / 256))) (t + d) (k + 1) := by
  have hq : 0 ≤ d / 256 := by omega
  have hb := bro_bnd (n := s) hq
  refine ⟨hq, by omega, hb.1, hb.2, hold_go H (d - bro s (d / 256)) d (d / 256) (by omega) (by omega) d0 (by omega) (by omega) (by omega) ?_⟩
  rw [rate128.2.1, rate128.2.2]
  refine half_ok (N := ((4503599627370496 : Nat) : Int)) (D := ((2 ^ (1075 - 1016) : Nat) : Int)) (d := d) (s := d / 256) (by decide) (by decide) (by decide) hq ?_ (by omega)
  have e : ((2 ^ (1075 - 1016) : Nat) : Int) = 576460752303423488 := by decide
  rw [e]
  omega
theorem new_set (r : Nat) (y e : Int) (h0 : 0 ≤ y) (h1 : y ≤ 1125899906842624) (h2 : 0 ≤ e) (h3 : e ≤ 1125899906842624) : ckSetE (ckNew r) 0 y e = 0 ∧ ckSet (ckNew r) 0 y e = ⟨0, y, e, true, r, 0, 0⟩ := by
  have hs : ckSetE (ckNew r) 0 y e = 0 := by
    unfold ckSetE
    rw [if_pos (by simp only [Bool.and_eq_true, inT_iff]; omega), if_neg (by simp [ckNew])]
  exact ⟨hs, by unfold ckSet; rw [if_pos hs]; rfl⟩
set_option maxRecDepth 100000 in
set_option maxHeartbeats 2000000 in
theorem stampBehind_walk (w : World) (t0 : Int) (wt : (Lit.int .i64 t0).wf = true) (wi : Int) (ww : (Lit.int .u8 wi).wf = true) (A : Option Addr) (c : Nat) (xs : List VTurn) (hr : SlOk w 5 A c (xs.flatMap VTurn.cells)) (hc : xs.length ≤ c) (hm : c ≤ maxLen) (hx : ∀ u_ ∈ xs, VTurn.ok w u_) :
    Calls Try.prog 3 #[.int .i64 t0, .int .u8 wi, .slice A xs.length c] w fun e w' => e = .returned (.bool true) ∧ Below w.heap.size w w' := by
  have hml : xs.length ≤ 9223372036854775807 := by unfold maxLen at hm; omega
  have hr := Lib.hid (hr.reads (n := xs.length) (flatMap_len _ _ 5 (fun _ => rfl)) (by decide))
  have HX := Lib.hid hx
  have HB : Hid (Below w.heap.size w w) := Lib.hid (Below.refl _ _)
  obtain ⟨w0, w1⟩ : 0 ≤ wi ∧ wi ≤ 255 := by simpa [Lit.wf, IntKind.min, IntKind.max, IntKind.signed, IntKind.bits] using ww
  obtain ⟨T, eT, hT0, hT1⟩ := and40 t0
  have HR6 := Lib.hid rate128.1
  have SA := Lib.hid (new_set 4575657221408423936 T wi hT0 (by omega) w0 (by omega))
  have SB := Lib.hid (new_set 4575657221408423936 (T + wi) wi (by omega) (by omega) w0 (by omega))
  have I0 := Lib.hid (hold_begun 4575657221408423936 HR6.out T T wi 0 hT0 hT1 w0 (by omega) (by unfold bro; rw [if_neg (by omega), if_neg (by omega)]; omega))
  have J0 := Lib.hid (hold_begun 4575657221408423936 HR6.out T (T + wi) wi wi hT0 hT1 w0 (by omega) (by unfold bro; rw [if_neg (by omega), if_neg (by omega)]; omega))
  clear hm hx wt ww
  go_enter Try.func3, Try.ntmps3
  go_wp2_with (first | (go_at_call 4; refine (cnew_ok _ _ (by decide) (by decide)).mono ?_; rintro e w1 ⟨rfl, rfl⟩) | (go_at_call 5; refine (new_any _).mono ?_; rintro e w1 ⟨rfl, rfl⟩))
  refine (awake10_any _).mono ?_
  rintro e w5 ⟨rfl, hb⟩
  have C5 := Lib.hid (Blk.below (g := w.heap.size) (t := 51) (cs := (ckNew 4575657221408423936).cells) (by repeat (first | (refine Blk.new' ?_; simp; done) | (refine Blk.new' ?_; rfl) | refine Blk.alloc ?_ _ | refine Blk.drewN ?_ _ | refine Blk.drew ?_)) hb (by (first | omega | (simp; done) | (simp; omega))))
  have D5 := Lib.hid (Blk.below (g := w.heap.size + 1) (t := 51) (cs := (ckNew 4575657221408423936).cells) (by repeat (first | (refine Blk.new' ?_; simp; done) | (refine Blk.new' ?_; rfl) | refine Blk.alloc ?_ _ | refine Blk.drewN ?_ _ | refine Blk.drew ?_)) hb (by (first | omega | (simp; done) | (simp; omega))))
  have X5 := Lib.hid (Blk.below (g := w.heap.size + 1 + 1) (t := 53) (cs := #[.int .i64 0]) (by repeat (first | (refine Blk.new' ?_; simp; done) | (refine Blk.new' ?_; rfl) | refine Blk.alloc ?_ _ | refine Blk.drewN ?_ _ | refine Blk.drew ?_)) hb (by (first | omega | (simp; done) | (simp; omega))))
  have Y5 := Lib.hid (Blk.below (g := w.heap.size + 1 + 1 + 1) (t := 53) (cs := #[.int .i64 0]) (by repeat (first | (refine Blk.new' ?_; simp; done) | (refine Blk.new' ?_; rfl) | refine Blk.alloc ?_ _ | refine Blk.drewN ?_ _ | refine Blk.drew ?_)) hb (by (first | omega | (simp; done) | (simp; omega))))
  replace HB := Lib.hid (below_then (w := w) (by repeat (first | exact Hid.out (by assumption) | exact Below.refl _ _ | refine below_alloc_ ?_ _ | refine below_drewN_ ?_ _ | refine Below.drew ?_ | refine below_set_ ?_ (by first | exact Nat.le_refl _ | (simp; done) | (simp; omega)) _)) hb); clear hb
  go_wp2_with (go_at_call 7; refine (rated6_any _ _ (by decide)).mono ?_; rintro e w1 ⟨rfl, rfl⟩; rw [HR6.out])
  refine (cset_is (c := ckNew 4575657221408423936) w.heap.size 0 T wi _ C5.out SA.out.1 SA.out.2).mono ?_
  rintro e6 w6 ⟨rfl, hb6, hk6⟩
  have C6 := Lib.hid hb6
  have D6 := Lib.hid (D5.out.keeps hk6 (show ¬ (w.heap.size + 1 = w.heap.size) by omega))
  have X6 := Lib.hid (X5.out.keeps hk6 (show ¬ (w.heap.size + 1 + 1 = w.heap.size) by omega))
  have Y6 := Lib.hid (Y5.out.keeps hk6 (show ¬ (w.heap.size + 1 + 1 + 1 = w.heap.size) by omega))
  replace HB := Lib.hid (below_kp HB.out hk6 (Nat.le_refl _))
  clear hb6 hk6 C5 D5 X5 Y5
  go_wp2_with fail
  refine (cset_is (c := ckNew 4575657221408423936) (w.heap.size + 1) 0 (T + wi) wi _ D6.out SB.out.1 SB.out.2).mono ?_
  rintro e7 w7 ⟨rfl, hb7, hk7⟩
  have D7 := Lib.hid hb7
  have C7 := Lib.hid (C6.out.keeps hk7 (show ¬ (w.heap.size = w.heap.size + 1) by omega))
  have X7 := Lib.hid (X6.out.keeps hk7 (show ¬ (w.heap.size + 1 + 1 = w.heap.size + 1) by omega))
  have Y7 := Lib.hid (Y6.out.keeps hk7 (show ¬ (w.heap.size + 1 + 1 + 1 = w.heap.size + 1) by omega))
  replace HB := Lib.hid (below_kp HB.out hk7 (Nat.le_succ _))
  clear hb7 hk7 C6 D6 X6 Y6 SA SB
  go_wp2_with fail
  have w7l : w.heap.size + 1 + 1 + 1 < w7.heap.size := Y7.out.lt
  have n0 : w.heap.size ≠ w7.heap.size := by omega
  have n1 : w.heap.size + 1 ≠ w7.heap.size := by omega
  have n2 : w.heap.size + 1 + 1 ≠ w7.heap.size := by omega
  have n3 : w.heap.size + 1 + 1 + 1 ≠ w7.heap.size := by omega
  have n4 : w.heap.size ≤ w7.heap.size := by omega
  go_loopw [0, 13, 14, 15, 17, 18] (fun st sh sk sp sm si wr => ∃ (k : Nat) (c d : Ck) (h j t p : Int) (m : Nat) (gs : List Int) (lx ly : Int), k ≤ xs.length ∧ k ≤ 40 ∧ st = .int .i64 t ∧ sh = .int .i64 h ∧ sk = .int .i64 j ∧ sp = .int .i64 p ∧ sm = .int .i64 m ∧ si = .int .i64 k ∧ m ≤ k ∧ gs.length = 40 ∧ p ≤ t ∧ 0 ≤ p ∧ 0 ≤ lx ∧ lx ≤ 4398046511104 + k ∧ 0 ≤ ly ∧ ly ≤ 4398046511104 + k ∧ Hid (∀ q (hq : q < gs.length), q < m → 1 ≤ gs[q] ∧ gs[q] ≤ 4398046511104 + k) ∧ Hid (HInv 4575657221408423936 c h t k) ∧ Hid (HInv 4575657221408423936 d j t k) ∧ Hid (Blk wr w.heap.size 51 c.cells) ∧ Hid (Blk wr (w.heap.size + 1) 51 d.cells) ∧ Hid (Blk wr (w.heap.size + 1 + 1) 53 #[.int .i64 lx]) ∧ Hid (Blk wr (w.heap.size + 1 + 1 + 1) 53 #[.int .i64 ly]) ∧ Hid (Blk wr w7.heap.size 33 (arr gs)) ∧ Hid (Below w.heap.size w wr)) (fun _ _ _ _ _ si _ => xs.length - (intOf si).toNat)
  case atStart => exact ⟨0, _, _, 0, 0, T, 0, 0, List.replicate 40 0, 0, 0, Nat.zero_le _, by omega, rfl, rfl, rfl, rfl, rfl, rfl, Nat.le_refl _, by simp, hT0, by omega, by omega, by omega, by omega, by omega, Lib.hid (fun q _ h => absurd h (Nat.not_lt_zero _)), I0, J0, Lib.hid (C7.out.alloc _), Lib.hid (D7.out.alloc _), Lib.hid (X7.out.alloc _), Lib.hid (Y7.out.alloc _), Lib.hid (Blk.new' rfl), Lib.hid (below_alloc_ HB.out _)⟩
  case round =>
    clear C7 D7 X7 Y7 HB I0 J0 w7l
    obtain ⟨k, c, d, h, j, t, p, m, gs, lx, ly, hk, hk4, rfl, rfl, rfl, rfl, rfl, rfl, hmk, hgl, hpt, hp0, hx0, hx1, hy0, hy1, G, I, J, C, D, X, Y, V, HB⟩ := hrel
    obtain ⟨wo, rfl⟩ : ∃ wo, wo = wr := ⟨_, rfl⟩
    by_cases hlt : k < xs.length ∧ k < 40
    · obtain ⟨hlt, h40⟩ := hlt
      obtain ⟨ad, hA, hadb, hcell⟩ := hr.out.2 (by omega)
      subst hA
      have q := fun j (hj : j < 5) => cellB HB.out (by rw [block_of_add]; exact hadb) (hcell (k * 5 + j) _ ((flatMap_at xs VTurn.cells 5 (fun _ => rfl) k j hlt hj).trans (List.getElem?_eq_getElem (by exact hj))))
      have q0 := q 0 (by omega); have q1 := q 1 (by omega); have q2 := q 2 (by omega); have q3 := q 3 (by omega); have q4 := q 4 (by omega)
      simp only [VTurn.cells, List.getElem_cons_zero, List.getElem_cons_succ, Nat.add_zero] at q0 q1 q2 q3 q4
      have hok := HX.out xs[k] (List.getElem_mem _)
      generalize xs[k] = x at *
      obtain ⟨dd, sa, sb, who, wt⟩ := x
      obtain ⟨v0, v1, v2⟩ := hok
      simp only at q0 q1 q2 q3 q4 v0 v1 v2
      replace q1 := cell_in _ 1 (by omega) q1; replace q2 := cell_in _ 2 (by omega) q2; replace q3 := cell_in _ 3 (by omega) q3; replace q4 := cell_in _ 4 (by omega) q4
      obtain ⟨d0, d1⟩ : 0 ≤ dd ∧ dd ≤ 65535 := by simpa [Lit.wf, IntKind.min, IntKind.max, IntKind.signed, IntKind.bits] using v0
      obtain ⟨sa0, sa1⟩ := i64_wf v1
      obtain ⟨sb0, sb1⟩ := i64_wf v2
      clear q hcell v0 v1 v2
      obtain ⟨a1, a2, a3, a4, I2⟩ := hold_turn I.out (by omega) dd sa d0 d1
      obtain ⟨b1, b2, b3, b4, J2⟩ := hold_turn J.out (by omega) dd sb d0 d1
      obtain ⟨B, hB⟩ : ∃ B, bro sa (dd / 256) = B := ⟨_, rfl⟩
      obtain ⟨B2, hB2⟩ : ∃ B2, bro sb (dd / 256) = B2 := ⟨_, rfl⟩
      rw [hB] at a3 a4 I2; rw [hB2] at b3 b4 J2
      obtain ⟨e1, e2, e3, I3⟩ := hold_now I2 (by omega)
      obtain ⟨f1, f2, f3, J3⟩ := hold_now J2 (by omega)
      have e4 := hold_hi I2 (by omega)
      have f4 := hold_hi J2 (by omega)
      have bnds : 0 ≤ h ∧ h ≤ 4398046511104 ∧ 0 ≤ t ∧ t ≤ 4398046511104 ∧ 0 ≤ j ∧ j ≤ 4398046511104 := by
        obtain ⟨S, _, _, _, b0, b1, b2, b3⟩ := I.out
        obtain ⟨S', _, _, _, b4, b5, _, _⟩ := J.out
        have : (k : Int) * 8589934590 ≤ 40 * 8589934590 := by omega
        exact ⟨b0, by omega, b2, by omega, b4, by omega⟩
      obtain ⟨i0, i1, i2, i3, i4, i5⟩ := bnds
      obtain ⟨al, hal⟩ : ∃ al, ckLo c (h + (dd - B)) = al := ⟨_, rfl⟩
      obtain ⟨ah, hah⟩ : ∃ ah, ckHi c (h + (dd - B)) = ah := ⟨_, rfl⟩
      obtain ⟨bl, hbl⟩ : ∃ bl, ckLo d (j + (dd - B2)) = bl := ⟨_, rfl⟩
      obtain ⟨bh, hbh⟩ : ∃ bh, ckHi d (j + (dd - B2)) = bh := ⟨_, rfl⟩
      rw [hal] at e2; rw [hah] at e3 e4; rw [hbl] at f2; rw [hbh] at f3 f4
      have al0 : 0 ≤ al := by rw [← hal]; exact ckLo_nonneg _ _
      have bl0 : 0 ≤ bl := by rw [← hbl]; exact ckLo_nonneg _ _
      have K1 := Lib.hid (show c.ok by obtain ⟨S, RR, _⟩ := I2; exact RR.ok)
      have K2 := Lib.hid (show d.ok by obtain ⟨S, RR, _⟩ := J2; exact RR.ok)
      have HBB := Lib.hid hB; have HBB2 := Lib.hid hB2
      have AL := Lib.hid hal; have AH := Lib.hid hah; have BL := Lib.hid hbl; have BH := Lib.hid hbh
      have E1 := Lib.hid e1; have F1 := Lib.hid f1; have I4 := Lib.hid I3; have J4 := Lib.hid J3
      clear hB hB2 hal hah hbl hbh e1 f1 I2 J2 I3 J3
      go_wp2_with (go_at_call 9; refine (brought_any _ _ _ a1 (by omega)).mono ?_; rintro e w1 ⟨rfl, rfl⟩; first | rw [HBB.out] | rw [HBB2.out])
      refine (cnow_is (c := c) w.heap.size (h + (dd - B)) _ K1.out C.out E1.out AL.out AH.out rfl).mono ?_
      rintro e8 w8 ⟨rfl, hb8, hk8⟩
      have C8 := Lib.hid hb8
      have D8 := Lib.hid (D.out.keeps hk8 (show ¬ (w.heap.size + 1 = w.heap.size) by omega))
      have X8 := Lib.hid (X.out.keeps hk8 (show ¬ (w.heap.size + 1 + 1 = w.heap.size) by omega))
      have Y8 := Lib.hid (Y.out.keeps hk8 (show ¬ (w.heap.size + 1 + 1 + 1 = w.heap.size) by omega))
      have V8 := Lib.hid (V.out.keeps hk8 (show ¬ (w7.heap.size = w.heap.size) from fun h => n0 h.symm))
      have p3 := keep_cell q3 hk8 (show (ad.add (k * 5)).block ≠ w.heap.size by rw [block_of_add]; omega)
      have p4 := keep_cell q4 hk8 (show (ad.add (k * 5)).block ≠ w.heap.size by rw [block_of_add]; omega)
      replace HB := Lib.hid (below_kp HB.out hk8 (Nat.le_refl _))
      clear hb8 hk8 C D X Y V
      go_wp2_with fail
      refine (cnow_is (c := d) (w.heap.size + 1) (j + (dd - B2)) _ K2.out (D8.out.alloc _) F1.out BL.out BH.out rfl).mono ?_
      rintro e9 w9 ⟨rfl, hb9, hk9⟩
      have D9 := Lib.hid hb9
      have C9 := Lib.hid ((C8.out.alloc _).keeps hk9 (show ¬ (w.heap.size = w.heap.size + 1) by omega))
      have X9 := Lib.hid ((X8.out.alloc _).keeps hk9 (show ¬ (w.heap.size + 1 + 1 = w.heap.size + 1) by omega))
      have Y9 := Lib.hid ((Y8.out.alloc _).keeps hk9 (show ¬ (w.heap.size + 1 + 1 + 1 = w.heap.size + 1) by omega))
      have V9 := Lib.hid ((V8.out.alloc _).keeps hk9 (show ¬ (w7.heap.size = w.heap.size + 1) from fun h => n1 h.symm))
      have S9 := Lib.hid ((Blk.new w8 39 #[.int .i64 al, .int .i64 ah]).keeps hk9 (Nat.ne_of_gt D8.out.lt))
      have r3 := keep_cell (below_cell p3 (below_alloc_ (Below.refl _ _) (.cells #[.int .i64 al, .int .i64 ah] 39))) hk9 (show (ad.add (k * 5)).block ≠ w.heap.size + 1 by rw [block_of_add]; omega)
      have r4 := keep_cell (below_cell p4 (below_alloc_ (Below.refl _ _) (.cells #[.int .i64 al, .int .i64 ah] 39))) hk9 (show (ad.add (k * 5)).block ≠ w.heap.size + 1 by rw [block_of_add]; omega)
      replace HB := Lib.hid (below_kp (below_alloc_ HB.out _) hk9 (Nat.le_succ _))
      clear hb9 hk9 C8 D8 X8 Y8 V8 p3 p4 q0 q1 q2 q3 q4
      obtain ⟨s0, s1⟩ := S9.out.c2
      have sl := S9.out.lt
      have rl := World.block_lt_of_cell? w9 _ r3
      have vl := V9.out.lt
      obtain ⟨na, hna⟩ : ∃ na, max lx ah + 1 = na := ⟨_, rfl⟩
      obtain ⟨nb, hnb⟩ : ∃ nb, max ly bh + 1 = nb := ⟨_, rfl⟩
      have hna2 : na ≤ 4398046511104 + k + 1 := by omega
      have hnb2 : nb ≤ 4398046511104 + k + 1 := by omega
      have hna3 : t + dd < na := by omega
      have hnb3 : t + dd < nb := by omega
      have NA := Lib.hid hna; have NB := Lib.hid hnb
      have g0 : (0 : Int) ≤ (m : Int) := by omega
      have g1 : (m : Int) < 40 := by omega
      clear hna hnb
      have c1 : ¬ (na ≤ p) := by omega
      have c2 : ¬ (na ≤ t + dd) := by omega
      have c3 : ¬ (nb ≤ p) := by omega
      have c4 : ¬ (nb ≤ t + dd) := by omega
      have c5 : p ≤ t + dd := by omega
      cases wt
      · cases who
        · go_wp2_with fail
          go_region
          go_wp2_with fail
          refine (next_one (n := na) (w.heap.size + 1 + 1) (by exact Blk.drew ((X9.out.alloc _).alloc _)) al0 (by omega) (by omega) NA.out (by omega)).mono ?_
          rintro e10 w10 ⟨rfl, hb10, hk10⟩
          have X10 := Lib.hid hb10
          have D10 := Lib.hid (Blk.keeps (by exact Blk.drew ((D9.out.alloc _).alloc _)) hk10 (show ¬ (w.heap.size + 1 = w.heap.size + 1 + 1) by omega))
          have C10 := Lib.hid (Blk.keeps (by exact Blk.drew ((C9.out.alloc _).alloc _)) hk10 (show ¬ (w.heap.size = w.heap.size + 1 + 1) by omega))
          have Y10 := Lib.hid (Blk.keeps (by exact Blk.drew ((Y9.out.alloc _).alloc _)) hk10 (show ¬ (w.heap.size + 1 + 1 + 1 = w.heap.size + 1 + 1) by omega))
          have V10 := Lib.hid (Blk.keeps (by exact Blk.drew ((V9.out.alloc _).alloc _)) hk10 (show ¬ (w7.heap.size = w.heap.size + 1 + 1) from fun h => n2 h.symm))
          replace HB := Lib.hid (below_kp (Below.drew (below_alloc_ (below_alloc_ HB.out _) _)) hk10 (Nat.le_add_right _ 2))
          have vl' := V10.out.lt
          have vc := arr_at V10.out m (by omega)
          have vf := V10.out.frozen m
          clear hb10 hk10 C9 D9 X9 Y9 V9 s0 s1 r3 r4
          go_wp2_with fail
          go_roundw
          case rel => exact ⟨k + 1, _, _, h + (dd - B), j + (dd - B2), t + dd, p, m + 1, gs.set m na, na, ly, by omega, by omega, rfl, rfl, rfl, rfl, by go_num, by go_num, by omega, by simpa using hgl, c5, hp0, by omega, by omega, by omega, by omega, Lib.hid (fun q hq hm => by have := given_next G.out (n := na) (by omega) (by omega) q hq hm; omega), I4, J4, Lib.hid (Blk.far C10.out n0 _), Lib.hid (Blk.far D10.out n1 _), Lib.hid (Blk.far X10.out n2 _), Lib.hid (Blk.far Y10.out n3 _), Lib.hid (by rw [← arr_set]; exact V10.out.set_ m _), Lib.hid (below_set_ HB.out n4 _)⟩
          case measure => simp [intOf]; omega
        · go_wp2_with fail
          go_region
          go_wp2_with fail
          go_region
          go_wp2_with fail
          refine (next_one (n := nb) (w.heap.size + 1 + 1 + 1) (by exact Blk.drew (Blk.drew ((Y9.out.alloc _).alloc _))) bl0 (by omega) (by omega) NB.out (by omega)).mono ?_
          rintro e10 w10 ⟨rfl, hb10, hk10⟩
          have Y10 := Lib.hid hb10
          have D10 := Lib.hid (Blk.keeps (by exact Blk.drew (Blk.drew ((D9.out.alloc _).alloc _))) hk10 (show ¬ (w.heap.size + 1 = w.heap.size + 1 + 1 + 1) by omega))
          have C10 := Lib.hid (Blk.keeps (by exact Blk.drew (Blk.drew ((C9.out.alloc _).alloc _))) hk10 (show ¬ (w.heap.size = w.heap.size + 1 + 1 + 1) by omega))
          have X10 := Lib.hid (Blk.keeps (by exact Blk.drew (Blk.drew ((X9.out.alloc _).alloc _))) hk10 (show ¬ (w.heap.size + 1 + 1 = w.heap.size + 1 + 1 + 1) by omega))
          have V10 := Lib.hid (Blk.keeps (by exact Blk.drew (Blk.drew ((V9.out.alloc _).alloc _))) hk10 (show ¬ (w7.heap.size = w.heap.size + 1 + 1 + 1) from fun h => n3 h.symm))
          replace HB := Lib.hid (below_kp (Below.drew (Below.drew (below_alloc_ (below_alloc_ HB.out _) _))) hk10 (Nat.le_add_right _ 3))
          have vl' := V10.out.lt
          have vc := arr_at V10.out m (by omega)
          have vf := V10.out.frozen m
          clear hb10 hk10 C9 D9 X9 Y9 V9 s0 s1 r3 r4
          go_wp2_with fail
          go_roundw
          case rel => exact ⟨k + 1, _, _, h + (dd - B), j + (dd - B2), t + dd, p, m + 1, gs.set m nb, lx, nb, by omega, by omega, rfl, rfl, rfl, rfl, by go_num, by go_num, by omega, by simpa using hgl, c5, hp0, by omega, by omega, by omega, by omega, Lib.hid (fun q hq hm => by have := given_next G.out (n := nb) (by omega) (by omega) q hq hm; omega), I4, J4, Lib.hid (Blk.far C10.out n0 _), Lib.hid (Blk.far D10.out n1 _), Lib.hid (Blk.far X10.out n2 _), Lib.hid (Blk.far Y10.out n3 _), Lib.hid (by rw [← arr_set]; exact V10.out.set_ m _), Lib.hid (below_set_ HB.out n4 _)⟩
          case measure => simp [intOf]; omega
      · cases who
        · go_wp2_with fail
          go_region
          go_wp2_with fail
          go_loopw [28, 15] (fun sq sp wr => ∃ (q : Nat) (p' : Int), q ≤ m ∧ sq = .int .i64 q ∧ sp = .int .i64 p' ∧ p' ≤ t + dd ∧ 0 ≤ p' ∧ Hid (Blk wr w.heap.size 51 (ckNow c (h + (dd - B))).cells) ∧ Hid (Blk wr (w.heap.size + 1) 51 (ckNow d (j + (dd - B2))).cells) ∧ Hid (Blk wr (w.heap.size + 1 + 1) 53 #[.int .i64 lx]) ∧ Hid (Blk wr (w.heap.size + 1 + 1 + 1) 53 #[.int .i64 ly]) ∧ Hid (Blk wr w7.heap.size 33 (arr gs)) ∧ Hid (Blk wr (w9.heap.size + 1) 39 #[.int .i64 al, .int .i64 ah]) ∧ Hid (Below w.heap.size w wr)) (fun sq _ _ => m - (intOf sq).toNat)
          case atStart => exact ⟨0, p, Nat.zero_le _, rfl, rfl, c5, hp0, Lib.hid (by exact Blk.drew ((C9.out.alloc _).alloc _)), Lib.hid (by exact Blk.drew ((D9.out.alloc _).alloc _)), Lib.hid (by exact Blk.drew ((X9.out.alloc _).alloc _)), Lib.hid (by exact Blk.drew ((Y9.out.alloc _).alloc _)), Lib.hid (by exact Blk.drew ((V9.out.alloc _).alloc _)), Lib.hid (by exact Blk.drew (Blk.new' (by simp))), Lib.hid (by first | exact Below.drew (below_alloc_ (below_alloc_ HB.out _) _) | exact Below.drew (Below.drew (below_alloc_ (below_alloc_ HB.out _) _)))⟩
          case round =>
            clear C9 D9 X9 Y9 V9 HB S9 s0 s1 sl r3 r4 rl vl
            obtain ⟨q, p', hqm, rfl, rfl, hp1, hp2, C, D, X, Y, V, N, HB⟩ := hrel
            obtain ⟨wq, rfl⟩ : ∃ wq, wq = wr := ⟨_, rfl⟩
            by_cases hq : q < m
            · have hqg : q < gs.length := by omega
              have vc := arr_at V.out q hqg
              have gb := G.out q hqg hq
              generalize gs[q] = z at *
              obtain ⟨m0, m1⟩ := N.out.c2
              have z0 : (0 : Int) ≤ (q : Int) := by omega
              have z1 : (q : Int) < 40 := by omega
              obtain ⟨gb1, gb2⟩ := gb
              obtain ⟨n, hn⟩ : ∃ n, max (z + 1 - al) 0 = n := ⟨_, rfl⟩
              have HN := Lib.hid hn
              have hd : decide ((q : Int) < (m : Int)) = true := by simp; omega
              rcases (show (n ≠ 0) ∨ (n = 0 ∧ z < al ∧ z ≤ p') ∨ (n = 0 ∧ z < al ∧ p' < z) by omega) with hz | ⟨hz, hz1, hz2⟩ | ⟨hz, hz1, hz2⟩
              all_goals
                first | (have hnb : (n == 0) = false := by simpa using hz) | (have hnb : (n == 0) = true := by simpa using hz)
                try have hdz : decide (p' < z) = false := by simp; omega
                clear hn hz
                go_wp2_with fail
                go_region_held3 (fun w' => w'.cell? ⟨w7.heap.size, q, none⟩ = some (.int .i64 z) ∧ w'.cell? ⟨w9.heap.size + 1, 0, none⟩ = some (.int .i64 al) ∧ w'.cell? ⟨w9.heap.size + 1, 1, none⟩ = some (.int .i64 ah)) (first | exact ⟨vc, m0, m1⟩ | exact ⟨below_cell (w1 := wq.drew) vc hb, below_cell (w1 := wq.drew) m0 hb, below_cell (w1 := wq.drew) m1 hb⟩ | go_keep) ((go_at_call 12; refine (wait_ok _ al ah _ (by omega) (by omega) (by omega) (by omega) (by omega) n HN.out).mono ?_; rintro e wz ⟨rfl, hb⟩))
                all_goals
                  have vz := below_cell (w1 := wq.drew) vc hb
                  have vlz := World.block_lt_of_cell? wz _ vz
                  go_wp2_with fail
                  go_roundw
                  case rel => first | exact ⟨q + 1, p', by omega, by go_num, rfl, hp1, hp2, Lib.hid (Blk.below (w := wq.drew) C.out hb C.out.lt), Lib.hid (Blk.below (w := wq.drew) D.out hb D.out.lt), Lib.hid (Blk.below (w := wq.drew) X.out hb X.out.lt), Lib.hid (Blk.below (w := wq.drew) Y.out hb Y.out.lt), Lib.hid (Blk.below (w := wq.drew) V.out hb V.out.lt), Lib.hid (Blk.below (w := wq.drew) N.out hb N.out.lt), Lib.hid (below_then (Below.drew HB.out) hb)⟩ | exact ⟨q + 1, z, by omega, by go_num, rfl, by omega, by omega, Lib.hid (Blk.below (w := wq.drew) C.out hb C.out.lt), Lib.hid (Blk.below (w := wq.drew) D.out hb D.out.lt), Lib.hid (Blk.below (w := wq.drew) X.out hb X.out.lt), Lib.hid (Blk.below (w := wq.drew) Y.out hb Y.out.lt), Lib.hid (Blk.below (w := wq.drew) V.out hb V.out.lt), Lib.hid (Blk.below (w := wq.drew) N.out hb N.out.lt), Lib.hid (below_then (Below.drew HB.out) hb)⟩
                  case measure => simp [intOf]; omega
            · have hd : decide ((q : Int) < (m : Int)) = false := by simp; omega
              have hd2 : decide (q < m) = false := by simp; omega
              go_wp2_with fail
              go_roundw
              case rel => exact ⟨k + 1, _, _, h + (dd - B), j + (dd - B2), t + dd, p', m, gs, lx, ly, by omega, by omega, rfl, rfl, rfl, rfl, rfl, by go_num, by omega, hgl, hp1, hp2, by omega, by omega, by omega, by omega, Lib.hid (fun q hq hm => by have := G.out q hq hm; omega), I4, J4, C, D, X, Y, V, HB⟩
              case measure => simp [intOf]; omega
        · go_wp2_with fail
          go_region
          go_wp2_with fail
          go_region
          go_wp2_with fail
          go_loopw [28, 15] (fun sq sp wr => ∃ (q : Nat) (p' : Int), q ≤ m ∧ sq = .int .i64 q ∧ sp = .int .i64 p' ∧ p' ≤ t + dd ∧ 0 ≤ p' ∧ Hid (Blk wr w.heap.size 51 (ckNow c (h + (dd - B))).cells) ∧ Hid (Blk wr (w.heap.size + 1) 51 (ckNow d (j + (dd - B2))).cells) ∧ Hid (Blk wr (w.heap.size + 1 + 1) 53 #[.int .i64 lx]) ∧ Hid (Blk wr (w.heap.size + 1 + 1 + 1) 53 #[.int .i64 ly]) ∧ Hid (Blk wr w7.heap.size 33 (arr gs)) ∧ Hid (Blk wr (w9.heap.size + 1) 39 #[.int .i64 bl, .int .i64 bh]) ∧ Hid (Below w.heap.size w wr)) (fun sq _ _ => m - (intOf sq).toNat)
          case atStart => exact ⟨0, p, Nat.zero_le _, rfl, rfl, c5, hp0, Lib.hid (by exact Blk.drew <| Blk.drew ((C9.out.alloc _).alloc _)), Lib.hid (by exact Blk.drew <| Blk.drew ((D9.out.alloc _).alloc _)), Lib.hid (by exact Blk.drew <| Blk.drew ((X9.out.alloc _).alloc _)), Lib.hid (by exact Blk.drew <| Blk.drew ((Y9.out.alloc _).alloc _)), Lib.hid (by exact Blk.drew <| Blk.drew ((V9.out.alloc _).alloc _)), Lib.hid (by exact Blk.drew <| Blk.drew (Blk.new' (by simp))), Lib.hid (by first | exact Below.drew (below_alloc_ (below_alloc_ HB.out _) _) | exact Below.drew (Below.drew (below_alloc_ (below_alloc_ HB.out _) _)))⟩
          case round =>
            clear C9 D9 X9 Y9 V9 HB S9 s0 s1 sl r3 r4 rl vl
            obtain ⟨q, p', hqm, rfl, rfl, hp1, hp2, C, D, X, Y, V, N, HB⟩ := hrel
            obtain ⟨wq, rfl⟩ : ∃ wq, wq = wr := ⟨_, rfl⟩
            by_cases hq : q < m
            · have hqg : q < gs.length := by omega
              have vc := arr_at V.out q hqg
              have gb := G.out q hqg hq
              generalize gs[q] = z at *
              obtain ⟨m0, m1⟩ := N.out.c2
              have z0 : (0 : Int) ≤ (q : Int) := by omega
              have z1 : (q : Int) < 40 := by omega
              obtain ⟨gb1, gb2⟩ := gb
              obtain ⟨n, hn⟩ : ∃ n, max (z + 1 - bl) 0 = n := ⟨_, rfl⟩
              have HN := Lib.hid hn
              have hd : decide ((q : Int) < (m : Int)) = true := by simp; omega
              rcases (show (n ≠ 0) ∨ (n = 0 ∧ z < bl ∧ z ≤ p') ∨ (n = 0 ∧ z < bl ∧ p' < z) by omega) with hz | ⟨hz, hz1, hz2⟩ | ⟨hz, hz1, hz2⟩
              all_goals
                first | (have hnb : (n == 0) = false := by simpa using hz) | (have hnb : (n == 0) = true := by simpa using hz)
                try have hdz : decide (p' < z) = false := by simp; omega
                clear hn hz
                go_wp2_with fail
                go_region_held3 (fun w' => w'.cell? ⟨w7.heap.size, q, none⟩ = some (.int .i64 z) ∧ w'.cell? ⟨w9.heap.size + 1, 0, none⟩ = some (.int .i64 bl) ∧ w'.cell? ⟨w9.heap.size + 1, 1, none⟩ = some (.int .i64 bh)) (first | exact ⟨vc, m0, m1⟩ | exact ⟨below_cell (w1 := wq.drew) vc hb, below_cell (w1 := wq.drew) m0 hb, below_cell (w1 := wq.drew) m1 hb⟩ | go_keep) ((go_at_call 12; refine (wait_ok _ bl bh _ (by omega) (by omega) (by omega) (by omega) (by omega) n HN.out).mono ?_; rintro e wz ⟨rfl, hb⟩))
                all_goals
                  have vz := below_cell (w1 := wq.drew) vc hb
                  have vlz := World.block_lt_of_cell? wz _ vz
                  go_wp2_with fail
                  go_roundw
                  case rel => first | exact ⟨q + 1, p', by omega, by go_num, rfl, hp1, hp2, Lib.hid (Blk.below (w := wq.drew) C.out hb C.out.lt), Lib.hid (Blk.below (w := wq.drew) D.out hb D.out.lt), Lib.hid (Blk.below (w := wq.drew) X.out hb X.out.lt), Lib.hid (Blk.below (w := wq.drew) Y.out hb Y.out.lt), Lib.hid (Blk.below (w := wq.drew) V.out hb V.out.lt), Lib.hid (Blk.below (w := wq.drew) N.out hb N.out.lt), Lib.hid (below_then (Below.drew HB.out) hb)⟩ | exact ⟨q + 1, z, by omega, by go_num, rfl, by omega, by omega, Lib.hid (Blk.below (w := wq.drew) C.out hb C.out.lt), Lib.hid (Blk.below (w := wq.drew) D.out hb D.out.lt), Lib.hid (Blk.below (w := wq.drew) X.out hb X.out.lt), Lib.hid (Blk.below (w := wq.drew) Y.out hb Y.out.lt), Lib.hid (Blk.below (w := wq.drew) V.out hb V.out.lt), Lib.hid (Blk.below (w := wq.drew) N.out hb N.out.lt), Lib.hid (below_then (Below.drew HB.out) hb)⟩
                  case measure => simp [intOf]; omega
            · have hd : decide ((q : Int) < (m : Int)) = false := by simp; omega
              have hd2 : decide (q < m) = false := by simp; omega
              go_wp2_with fail
              go_roundw
              case rel => exact ⟨k + 1, _, _, h + (dd - B), j + (dd - B2), t + dd, p', m, gs, lx, ly, by omega, by omega, rfl, rfl, rfl, rfl, rfl, by go_num, by omega, hgl, hp1, hp2, by omega, by omega, by omega, by omega, Lib.hid (fun q hq hm => by have := G.out q hq hm; omega), I4, J4, C, D, X, Y, V, HB⟩
              case measure => simp [intOf]; omega
    · rcases (show decide (k < xs.length) = false ∨ (k < xs.length ∧ decide ((k : Int) < 40) = false) by simp; omega) with hd | ⟨hd0, hd⟩
      all_goals
        go_wp2_with fail
        go_ret
        exact ⟨rfl, HB.out⟩
end Go.Proofs.Ytaaocomhmlimaaa
