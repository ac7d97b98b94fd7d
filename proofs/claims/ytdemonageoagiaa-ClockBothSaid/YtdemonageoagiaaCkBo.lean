/- ClockBoth: the walk. -/
import Derived.Test.YtdemonageoagiaaCkF
import Derived.Test.YtdemonageoagiaaCkH
import Derived.Deep.DrawnRows
set_option linter.unusedSimpArgs false
set_option linter.unusedVariables false
namespace Go.Proofs.Ytdemonageoagiaa
open Go.RowKit Mo
attribute [local go_sem] run_store_float
attribute [local go_sem ↓] Go.wp_at_zero Go.wp_at_succ
theorem blk_far4 {w : World} {g p : Nat} {T : TypeId} {cs : Array Value} (h : Blk w g T cs) (hp : g ≠ p) (a b c d : Value) : Blk ((((w.setCell ⟨p, 0, none⟩ a).setCell ⟨p, 1, none⟩ b).setCell ⟨p, 2, none⟩ c).setCell ⟨p, 3, none⟩ d) g T cs := Blk.far (Blk.far (Blk.far (Blk.far h hp _) hp _) hp _) hp _
theorem blk_set4 {w : World} {p : Nat} {T : TypeId} {x0 x1 x2 x3 : Value} (h : Blk w p T #[x0, x1, x2, x3]) (a b c d : Value) : Blk ((((w.setCell ⟨p, 0, none⟩ a).setCell ⟨p, 1, none⟩ b).setCell ⟨p, 2, none⟩ c).setCell ⟨p, 3, none⟩ d) p T #[a, b, c, d] := blk_upd (blk_upd (blk_upd (blk_upd h rfl) rfl) rfl) rfl
theorem below_set4 {w a : World} {p : Nat} (h : Below w.heap.size w a) (hp : w.heap.size ≤ p) (x y z u : Value) : Below w.heap.size w ((((a.setCell ⟨p, 0, none⟩ x).setCell ⟨p, 1, none⟩ y).setCell ⟨p, 2, none⟩ z).setCell ⟨p, 3, none⟩ u) := below_set_ (below_set_ (below_set_ (below_set_ h hp _) hp _) hp _) hp _
theorem Blk.c11 {w : World} {g : Nat} {t : TypeId} {a0 a1 a2 a3 a4 a5 a6 a7 a8 a9 a10 : Value} (h : Blk w g t #[a0, a1, a2, a3, a4, a5, a6, a7, a8, a9, a10]) :
    w.cell? ⟨g, 0, none⟩ = some a0 ∧ w.cell? ⟨g, 1, none⟩ = some a1 ∧ w.cell? ⟨g, 2, none⟩ = some a2 ∧ w.cell? ⟨g, 3, none⟩ = some a3 ∧ w.cell? ⟨g, 4, none⟩ = some a4 ∧ w.cell? ⟨g, 5, none⟩ = some a5 ∧ w.cell? ⟨g, 6, none⟩ = some a6 ∧ w.cell? ⟨g, 7, none⟩ = some a7 ∧ w.cell? ⟨g, 8, none⟩ = some a8 ∧ w.cell? ⟨g, 9, none⟩ = some a9 ∧ w.cell? ⟨g, 10, none⟩ = some a10 := by
  have h0 := h.cell 0; have h1 := h.cell 1; have h2 := h.cell 2; have h3 := h.cell 3; have h4 := h.cell 4; have h5 := h.cell 5; have h6 := h.cell 6; have h7 := h.cell 7; have h8 := h.cell 8; have h9 := h.cell 9; have h10 := h.cell 10
  exact ⟨by simpa using h0, by simpa using h1, by simpa using h2, by simpa using h3, by simpa using h4, by simpa using h5, by simpa using h6, by simpa using h7, by simpa using h8, by simpa using h9, by simpa using h10⟩
/-- a run that follows the true time -/
theorem hold_follow {r q : Nat} {c : Ck} {h t : Int} {k : Nat} (H : HInv r c h t k) (hr : rate6 r = true) (hq : HalfOf r q) (hk : k < 60) (d sk : Int) (st : Bool) (e off : Int) (d0 : 0 ≤ d) (d1 : d ≤ 4294967295) (e0 : 0 ≤ e) (e1 : e ≤ 65535) :
    ∃ M B B2 y c', prodV d q false = M ∧ prodE d q false = 0 ∧ 0 ≤ M ∧ M ≤ d ∧ bro sk M = B ∧ bro off e = B2 ∧ max (t + d + B2) 0 = y ∧ ((st = false ∧ c' = c) ∨ (st = true ∧ ckSetE c (h + d - B) y e = 0 ∧ ckSet c (h + d - B) y e = c')) ∧ HInv r c' (h + d - B) (t + d) (k + 1) := by
  obtain ⟨p1, p2, p3, p4⟩ := hq.2 d d0 d1
  have hb := bro_bnd (n := sk) p2
  have hb2 := bro_bnd (n := off) e0
  obtain ⟨_, _, hND⟩ := rate_parts r (rate6_ok hr)
  have hs := half_ok (N := (Mo.part r : Int)) (D := ((2 ^ (1075 - expf r) : Nat) : Int)) (d := d) (dh := d - bro sk (prodV d q false)) (s := prodV d q false) (Int.natCast_nonneg _) (Int.natCast_nonneg _) (by exact_mod_cast hND) p2 p4 (by omega)
  have H1 := hold_go H (d - bro sk (prodV d q false)) d (prodV d q false) (by omega) (by omega) d0 (by omega) (by omega) (by omega) hs
  rw [show h + (d - bro sk (prodV d q false)) = h + d - bro sk (prodV d q false) by omega] at H1
  have ht0 : 0 ≤ t + d := by obtain ⟨S, _, _, _, _, _, t0, _⟩ := H1; exact t0
  obtain ⟨y, hy⟩ : ∃ y, max (t + d + bro off e) 0 = y := ⟨_, rfl⟩
  obtain ⟨g1, g2⟩ := hold_set H1 (by omega) y e (by omega) e0 e1 (by omega) (by omega)
  cases st
  · exact ⟨_, _, _, y, c, rfl, p1, p2, p3, rfl, rfl, hy, .inl ⟨rfl, rfl⟩, H1⟩
  · exact ⟨_, _, _, y, _, rfl, p1, p2, p3, rfl, rfl, hy, .inr ⟨rfl, g1, rfl⟩, g2⟩
set_option maxRecDepth 100000 in
set_option maxHeartbeats 2000000 in
theorem clockBoth_walk (w : World) (ra rb : Nat) (wa : (Lit.float .f64 ra).wf = true) (wb : (Lit.float .f64 rb).wf = true) (t0 : Int) (wt : (Lit.int .i64 t0).wf = true) (A : Option Addr) (c : Nat) (xs : List VPair) (hr : SlOk w 11 A c (xs.flatMap VPair.cells)) (hc : xs.length ≤ c) (hm : c ≤ maxLen) (hx : ∀ u_ ∈ xs, VPair.ok w u_) :
    Calls Try.prog 6 #[.agg #[.float .f64 ra, .float .f64 rb], .int .i64 t0, .slice A xs.length c] w fun e w' => e = .returned (.bool true) ∧ Below w.heap.size w w' := by
  have ha9 := f64_wf wa
  have hb9 := f64_wf wb
  have hml : xs.length ≤ 9223372036854775807 := by unfold maxLen at hm; omega
  have hr := Lib.hid (hr.reads (n := xs.length) (flatMap_len _ _ 11 (fun _ => rfl)) (by decide))
  have HX := Lib.hid hx
  have HB : Hid (Below w.heap.size w w) := Lib.hid (Below.refl _ _)
  clear hm hx wa wb wt
  cases h1 : rate6 ra
  · have HR := Lib.hid h1; clear h1
    go_enter Try.func6, Try.ntmps6
    go_wp2_with fail
    refine (awake06_any _).mono ?_
    rintro e w5 ⟨rfl, hb⟩
    have X5 := Lib.hid (Blk.below (g := w.heap.size) (t := 58) (cs := #[.float .f64 ra, .float .f64 rb]) (by repeat (first | (refine Blk.new' ?_; simp; done) | (refine Blk.new' ?_; rfl) | refine Blk.alloc ?_ _ | refine Blk.drewN ?_ _ | refine Blk.drew ?_)) hb (by (first | omega | (simp; done) | (simp; omega))))
    replace HB := Lib.hid (below_then (w := w) (by repeat (first | exact Hid.out (by assumption) | exact Below.refl _ _ | refine below_alloc_ ?_ _ | refine below_drewN_ ?_ _ | refine Below.drew ?_ | refine below_set_ ?_ (by first | exact Nat.le_refl _ | (simp; done) | (simp; omega)) _)) hb); clear hb
    obtain ⟨x0, x1⟩ := X5.out.c2
    go_wp2_with (first | (go_at_call 11; refine (awake06_any _).mono ?_; rintro e w5 ⟨rfl, hb⟩; replace HB := Lib.hid (below_then (w := w) (by repeat (first | exact Hid.out (by assumption) | exact Below.refl _ _ | refine below_alloc_ ?_ _ | refine below_drewN_ ?_ _ | refine Below.drew ?_ | refine below_set_ ?_ (by first | exact Nat.le_refl _ | (simp; done) | (simp; omega)) _)) hb); clear hb) | (go_at_call 12; refine (rated6_any _ _ (by assumption)).mono ?_; rintro e w1 ⟨rfl, rfl⟩; first | rw [HR.out]))
    go_ret
    exact ⟨rfl, HB.out⟩
  cases h2 : rate6 rb
  · have HR := Lib.hid h1; have HR2 := Lib.hid h2; clear h1 h2
    go_enter Try.func6, Try.ntmps6
    go_wp2_with fail
    refine (awake06_any _).mono ?_
    rintro e w5 ⟨rfl, hb⟩
    have X5 := Lib.hid (Blk.below (g := w.heap.size) (t := 58) (cs := #[.float .f64 ra, .float .f64 rb]) (by repeat (first | (refine Blk.new' ?_; simp; done) | (refine Blk.new' ?_; rfl) | refine Blk.alloc ?_ _ | refine Blk.drewN ?_ _ | refine Blk.drew ?_)) hb (by (first | omega | (simp; done) | (simp; omega))))
    replace HB := Lib.hid (below_then (w := w) (by repeat (first | exact Hid.out (by assumption) | exact Below.refl _ _ | refine below_alloc_ ?_ _ | refine below_drewN_ ?_ _ | refine Below.drew ?_ | refine below_set_ ?_ (by first | exact Nat.le_refl _ | (simp; done) | (simp; omega)) _)) hb); clear hb
    obtain ⟨x0, x1⟩ := X5.out.c2
    go_wp2_with (first | (go_at_call 11; refine (awake06_any _).mono ?_; rintro e w5 ⟨rfl, hb⟩; replace HB := Lib.hid (below_then (w := w) (by repeat (first | exact Hid.out (by assumption) | exact Below.refl _ _ | refine below_alloc_ ?_ _ | refine below_drewN_ ?_ _ | refine Below.drew ?_ | refine below_set_ ?_ (by first | exact Nat.le_refl _ | (simp; done) | (simp; omega)) _)) hb); clear hb) | (go_at_call 12; refine (rated6_any _ _ (by assumption)).mono ?_; rintro e w1 ⟨rfl, rfl⟩; first | rw [HR.out] | rw [HR2.out]))
    go_ret
    exact ⟨rfl, HB.out⟩
  have HR := Lib.hid h1; have HR2 := Lib.hid h2; clear h1 h2
  obtain ⟨T, eT, hT0, hT1⟩ := and40 t0
  obtain ⟨n0, hn0⟩ : ∃ n0, wrap64 (-t0) = n0 := ⟨_, rfl⟩
  obtain ⟨y, hy⟩ : ∃ y, max (T + bro t0 9) 0 = y := ⟨_, rfl⟩
  obtain ⟨z, hz⟩ : ∃ z, max (T + bro n0 4) 0 = z := ⟨_, rfl⟩
  have I0 := Lib.hid (hold_begun ra HR.out T y 9 t0 hT0 hT1 (by omega) (by omega) hy)
  have J0 := Lib.hid (hold_begun rb HR2.out T z 4 n0 hT0 hT1 (by omega) (by omega) hz)
  have HY := Lib.hid hy; have HZ := Lib.hid hz; have ET := Lib.hid eT
  obtain ⟨qa, ea, HQA'⟩ := half_is ra HR.out
  obtain ⟨qb, eb, HQB'⟩ := half_is rb HR2.out
  have HQA := Lib.hid HQA'; have HQB := Lib.hid HQB'; have EA := Lib.hid ea; have EB := Lib.hid eb
  clear hy hz eT HQA' HQB' ea eb
  go_enter Try.func6, Try.ntmps6
  go_wp2_with fail
  refine (awake06_any _).mono ?_
  rintro e w5 ⟨rfl, hb⟩
  have X5 := Lib.hid (Blk.below (g := w.heap.size) (t := 58) (cs := #[.float .f64 ra, .float .f64 rb]) (by repeat (first | (refine Blk.new' ?_; simp; done) | (refine Blk.new' ?_; rfl) | refine Blk.alloc ?_ _ | refine Blk.drewN ?_ _ | refine Blk.drew ?_)) hb (by (first | omega | (simp; done) | (simp; omega))))
  replace HB := Lib.hid (below_then (w := w) (by repeat (first | exact Hid.out (by assumption) | exact Below.refl _ _ | refine below_alloc_ ?_ _ | refine below_drewN_ ?_ _ | refine Below.drew ?_ | refine below_set_ ?_ (by first | exact Nat.le_refl _ | (simp; done) | (simp; omega)) _)) hb); clear hb
  obtain ⟨x0, x1⟩ := X5.out.c2
  go_wp2_with (go_at_call 12; refine (rated6_any _ _ (by assumption)).mono ?_; rintro e w1 ⟨rfl, rfl⟩; first | rw [HR.out] | rw [HR2.out])
  refine (begun_ok ra t0 9 t0 _ ha9 HR.out (by omega) (by omega) T y ET.out HY.out hT0 hT1).mono ?_
  rintro e w6 ⟨rfl, hC, hb⟩
  have C6 := Lib.hid hC
  have X6 := Lib.hid (X5.out.below hb X5.out.lt)
  have s56 := hb.size
  have s05 := HB.out.size
  replace HB := Lib.hid (below_then (w := w) (by repeat (first | exact Hid.out (by assumption) | exact Below.refl _ _ | refine below_alloc_ ?_ _ | refine below_drewN_ ?_ _ | refine Below.drew ?_ | refine below_set_ ?_ (by first | exact Nat.le_refl _ | (simp; done) | (simp; omega)) _)) hb); clear hb
  clear hC x0 x1 X5
  obtain ⟨x0, x1⟩ := X6.out.c2
  have xl := X6.out.lt
  go_wp2_with fail
  refine (begun_ok rb t0 4 n0 _ hb9 HR2.out (by omega) (by omega) T z ET.out HZ.out hT0 hT1).mono ?_
  rintro e w7 ⟨rfl, hC, hb⟩
  have D7 : Hid (Blk w7 (w6.heap.size + 1 + 1) 77 (Ck.cells ⟨0, z, 4, true, rb, 0, 0⟩)) := Lib.hid (by simpa using hC)
  have C7 := Lib.hid ((C6.out.alloc _).below hb (C6.out.alloc _).lt)
  have R7 := Lib.hid ((Blk.new w6 49 #[.pointer (some ⟨w5.heap.size + 1, 0, none⟩), .float .f64 ra, .int .i64 0, .int .i64 T]).below hb (Blk.new w6 49 _).lt)
  have s67 := D7.out.lt
  have c6l := C6.out.lt
  replace HB := Lib.hid (below_then (w := w) (by repeat (first | exact Hid.out (by assumption) | exact Below.refl _ _ | refine below_alloc_ ?_ _ | refine below_drewN_ ?_ _ | refine Below.drew ?_ | refine below_set_ ?_ (by first | exact Nat.le_refl _ | (simp; done) | (simp; omega)) _)) hb); clear hb
  clear hC x0 x1 X6 C6 xl hn0
  go_wp2_with fail
  have g1 : w.heap.size ≤ w5.heap.size + 1 := by omega
  have g2 : w.heap.size ≤ w6.heap.size + 1 + 1 := by omega
  have g3 : w.heap.size ≤ w6.heap.size := by omega
  have g4 : w.heap.size ≤ w7.heap.size := by omega
  have n1 : w5.heap.size + 1 ≠ w6.heap.size := by omega
  have n2 : w5.heap.size + 1 ≠ w6.heap.size + 1 + 1 := by omega
  have n3 : w5.heap.size + 1 ≠ w7.heap.size := by omega
  have n4 : w6.heap.size ≠ w6.heap.size + 1 + 1 := by omega
  have n5 : w6.heap.size ≠ w7.heap.size := by omega
  have n6 : w6.heap.size + 1 + 1 ≠ w7.heap.size := by omega
  clear s56 s05 s67 c6l
  have S7 : Hid (Blk (w7.alloc (.cells #[.pointer (some ⟨w6.heap.size + 1 + 1, 0, none⟩), .float .f64 rb, .int .i64 0, .int .i64 T] 49)) w7.heap.size 49 #[.pointer (some ⟨w6.heap.size + 1 + 1, 0, none⟩), .float .f64 rb, .int .i64 0, .int .i64 T]) := Lib.hid (Blk.new w7 _ _)
  go_loopw [8, 10, 11, 12, 13] (fun ok is_ mo ot i wr => ∃ (k : Nat) (c d : Ck) (h j t m o : Int), k ≤ xs.length ∧ k ≤ 30 ∧ ok = .bool true ∧ is_ = .bool true ∧ mo = .int .i64 m ∧ ot = .int .i64 o ∧ i = .int .i64 k ∧ m ≤ t ∧ o ≤ t ∧ Hid (HInv ra c h t k) ∧ Hid (HInv rb d j t k) ∧ Hid (Blk wr (w5.heap.size + 1) 77 c.cells) ∧ Hid (Blk wr (w6.heap.size + 1 + 1) 77 d.cells) ∧ Hid (Blk wr w6.heap.size 49 #[.pointer (some ⟨w5.heap.size + 1, 0, none⟩), .float .f64 ra, .int .i64 h, .int .i64 t]) ∧ Hid (Blk wr w7.heap.size 49 #[.pointer (some ⟨w6.heap.size + 1 + 1, 0, none⟩), .float .f64 rb, .int .i64 j, .int .i64 t]) ∧ Hid (Below w.heap.size w wr)) (fun _ _ _ _ i _ => xs.length - (intOf i).toNat)
  case atStart => exact ⟨0, _, _, 0, 0, T, 0, 0, Nat.zero_le _, by omega, rfl, rfl, rfl, rfl, rfl, hT0, hT0, I0, J0, Lib.hid (C7.out.alloc _), Lib.hid (D7.out.alloc _), Lib.hid (R7.out.alloc _), S7, Lib.hid (below_alloc_ HB.out _)⟩
  case round =>
    clear C7 D7 R7 S7 HB I0 J0
    obtain ⟨k, c, d, h, j, t, m, o, hk, hk4, rfl, rfl, rfl, rfl, rfl, hmt, hot, I, J, C, D, R, S, HB⟩ := hrel
    obtain ⟨wo, rfl⟩ : ∃ wo, wo = wr := ⟨_, rfl⟩
    by_cases hlt : k < xs.length ∧ k < 30
    · obtain ⟨hlt, h40⟩ := hlt
      obtain ⟨ad, hA, hadb, hcell⟩ := hr.out.2 (by omega)
      subst hA
      have q := fun j (hj : j < 11) => cellB HB.out (by rw [block_of_add]; exact hadb) (hcell (k * 11 + j) _ ((flatMap_at xs VPair.cells 11 (fun _ => rfl) k j hlt hj).trans (List.getElem?_eq_getElem (by exact hj))))
      have q0 := q 0 (by omega); have q1 := q 1 (by omega); have q2 := q 2 (by omega); have q3 := q 3 (by omega); have q4 := q 4 (by omega); have q5 := q 5 (by omega); have q6 := q 6 (by omega); have q7 := q 7 (by omega); have q8 := q 8 (by omega); have q9 := q 9 (by omega); have q10 := q 10 (by omega)
      simp only [VPair.cells, List.getElem_cons_zero, List.getElem_cons_succ, Nat.add_zero] at q0 q1 q2 q3 q4 q5 q6 q7 q8 q9 q10
      have hok := HX.out xs[k] (List.getElem_mem _)
      generalize xs[k] = x at *
      obtain ⟨dd, u, sk, st, e, off, u2, sk2, st2, e2, off2⟩ := x
      obtain ⟨v0, v1, v2, v3, v4, v5, v6, v7, v8⟩ := hok
      simp only at q0 q1 q2 q3 q4 q5 q6 q7 q8 q9 q10 v0 v1 v2 v3 v4 v5 v6 v7 v8
      replace q1 := cell_in _ 1 (by omega) q1; replace q2 := cell_in _ 2 (by omega) q2; replace q3 := cell_in _ 3 (by omega) q3; replace q4 := cell_in _ 4 (by omega) q4; replace q5 := cell_in _ 5 (by omega) q5
      replace q6 := cell_in _ 6 (by omega) q6; replace q7 := cell_in _ 7 (by omega) q7; replace q8 := cell_in _ 8 (by omega) q8; replace q9 := cell_in _ 9 (by omega) q9; replace q10 := cell_in _ 10 (by omega) q10
      obtain ⟨d0, d1⟩ : 0 ≤ dd ∧ dd ≤ 4294967295 := by simpa [Lit.wf, IntKind.min, IntKind.max, IntKind.signed, IntKind.bits] using v0
      obtain ⟨e0, e1⟩ : 0 ≤ e ∧ e ≤ 65535 := by simpa [Lit.wf, IntKind.min, IntKind.max, IntKind.signed, IntKind.bits] using v3
      obtain ⟨e20, e21⟩ : 0 ≤ e2 ∧ e2 ≤ 65535 := by simpa [Lit.wf, IntKind.min, IntKind.max, IntKind.signed, IntKind.bits] using v7
      clear q hcell v0 v1 v2 v3 v4 v5 v6 v7 v8
      obtain ⟨M, B, B2, y, c', s1, s2, s3, s4, s5, s6, s7, s8, I2⟩ := hold_follow I.out HR.out HQA.out (by omega) dd sk st e off d0 d1 e0 e1
      obtain ⟨N, G, G2, z, d', u1, u2_, u3, u4, u5, u6, u7, u8, J2⟩ := hold_follow J.out HR2.out HQB.out (by omega) dd sk2 st2 e2 off2 d0 d1 e20 e21
      obtain ⟨a1, a2, a3, I3⟩ := hold_now I2 (by omega)
      obtain ⟨b1, b2, b3, J3⟩ := hold_now J2 (by omega)
      have bnds : 0 ≤ h ∧ h ≤ 4398046511104 ∧ 0 ≤ t ∧ t ≤ 4398046511104 ∧ 0 ≤ j ∧ j ≤ 4398046511104 := by
        obtain ⟨S, _, _, _, b0, b1, b2, b3⟩ := I.out
        obtain ⟨S', _, _, _, b4, b5, _, _⟩ := J.out
        have : (k : Int) * 8589934590 ≤ 30 * 8589934590 := by omega
        exact ⟨b0, by omega, b2, by omega, b4, by omega⟩
      obtain ⟨i0, i1, i2, i3, i4, i5⟩ := bnds
      obtain ⟨al, hal⟩ : ∃ al, ckLo c' (h + dd - B) = al := ⟨_, rfl⟩
      obtain ⟨ah, hah⟩ : ∃ ah, ckHi c' (h + dd - B) = ah := ⟨_, rfl⟩
      obtain ⟨bl, hbl⟩ : ∃ bl, ckLo d' (j + dd - G) = bl := ⟨_, rfl⟩
      obtain ⟨bh, hbh⟩ : ∃ bh, ckHi d' (j + dd - G) = bh := ⟨_, rfl⟩
      rw [hal] at a2; rw [hah] at a3; rw [hbl] at b2; rw [hbh] at b3
      have K1 := Lib.hid (show c'.ok by obtain ⟨S, RR, _⟩ := I2; exact RR.ok)
      have K2 := Lib.hid (show d'.ok by obtain ⟨S, RR, _⟩ := J2; exact RR.ok)
      have S1 := Lib.hid s1; have S2 := Lib.hid s2; have S3 := Lib.hid s3; have S4 := Lib.hid s4; have S5 := Lib.hid s5; have S6 := Lib.hid s6; have S7 := Lib.hid s7; have S8 := Lib.hid s8
      have U1 := Lib.hid u1; have U2 := Lib.hid u2_; have U3 := Lib.hid u3; have U4 := Lib.hid u4; have U5 := Lib.hid u5; have U6 := Lib.hid u6; have U7 := Lib.hid u7; have U8 := Lib.hid u8
      have AL := Lib.hid hal; have AH := Lib.hid hah; have BL := Lib.hid hbl; have BH := Lib.hid hbh
      have A1 := Lib.hid a1; have B1 := Lib.hid b1; have I4 := Lib.hid I3; have J4 := Lib.hid J3
      clear s1 s2 s3 s4 s5 s6 s7 s8 u1 u2_ u3 u4 u5 u6 u7 u8 hal hah hbl hbh a1 b1 I3 J3 I2 J2
      obtain ⟨r0, r1, r2, r3⟩ := R.out.c4
      have rl := R.out.lt
      go_wp2_with fail
      refine (follow_any (w5.heap.size + 1) c c' ra h t u dd sk st e off _ (C.out.alloc _) qa HQA.out.1 EA.out M B S1.out S2.out S3.out S4.out S5.out i0 i1 i2 i3 d0 d1 e0 e1 B2 y S6.out S7.out S8.out).mono ?_
      rintro e8 w8 ⟨rfl, hb8, hk8⟩
      have R8 := Lib.hid ((R.out.alloc _).keeps hk8 (show ¬ (w6.heap.size = w5.heap.size + 1) from fun h => n1 h.symm))
      have S8_ := Lib.hid ((S.out.alloc _).keeps hk8 (show ¬ (w7.heap.size = w5.heap.size + 1) from fun h => n3 h.symm))
      have D8 := Lib.hid ((D.out.alloc _).keeps hk8 (show ¬ (w6.heap.size + 1 + 1 = w5.heap.size + 1) from fun h => n2 h.symm))
      have X8 := Lib.hid ((Blk.new wo 61 #[.int .u32 dd, .int .u32 u, .int .i64 sk, .bool st, .int .u16 e, .int .i64 off, .int .u32 u2, .int .i64 sk2, .bool st2, .int .u16 e2, .int .i64 off2]).keeps hk8 (Nat.ne_of_gt C.out.lt))
      have C8 := Lib.hid hb8
      replace HB := Lib.hid (below_kp (below_alloc_ HB.out _) hk8 g1)
      have woR := R.out.lt; have woS := S.out.lt
      clear hb8 hk8 r0 r1 r2 r3 rl C D R S
      obtain ⟨r0, r1, r2, r3⟩ := R8.out.c4
      obtain ⟨s0, s1, s2, s3⟩ := S8_.out.c4
      obtain ⟨x0, x1, x2, x3, x4, x5, x6, x7, x8, x9, x10⟩ := X8.out.c11
      have f0 := R8.out.frozen 0; have f1 := R8.out.frozen 1; have f2 := R8.out.frozen 2; have f3 := R8.out.frozen 3
      have xne : wo.heap.size ≠ w6.heap.size := by omega
      have xne' : w6.heap.size ≠ wo.heap.size := by omega
      have sne : wo.heap.size ≠ w7.heap.size := by omega
      have n5' : w7.heap.size ≠ w6.heap.size := by omega
      go_wp2_with fail
      refine (follow_any (w6.heap.size + 1 + 1) d d' rb j t u2 dd sk2 st2 e2 off2 _ (blk_far4 D8.out (Ne.symm n4) _ _ _ _) qb HQB.out.1 EB.out N G U1.out U2.out U3.out U4.out U5.out i4 i5 i2 i3 d0 d1 e20 e21 G2 z U6.out U7.out U8.out).mono ?_
      rintro e9 w9 ⟨rfl, hb9', hk9⟩
      have R9 := Lib.hid ((blk_set4 R8.out (.pointer (some ⟨w5.heap.size + 1, 0, none⟩)) (.float .f64 ra) (.int .i64 (h + dd - B)) (.int .i64 (t + dd))).keeps hk9 (show ¬ (w6.heap.size = w6.heap.size + 1 + 1) from n4))
      have S9_ := Lib.hid ((blk_far4 S8_.out n5' _ _ _ _).keeps hk9 (show ¬ (w7.heap.size = w6.heap.size + 1 + 1) from fun h => n6 h.symm))
      have C9 := Lib.hid ((blk_far4 C8.out n1 _ _ _ _).keeps hk9 (show ¬ (w5.heap.size + 1 = w6.heap.size + 1 + 1) from n2))
      have D9 := Lib.hid hb9'
      replace HB := Lib.hid (below_kp (below_set4 HB.out g3 _ _ _ _) hk9 g2)
      clear hb9' hk9 r0 r1 r2 r3 s0 s1 s2 s3 x0 x1 x2 x3 x4 x5 x6 x7 x8 x9 x10 f0 f1 f2 f3 R8 S8_ C8 D8 X8
      obtain ⟨r0, r1, r2, r3⟩ := R9.out.c4
      obtain ⟨s0, s1, s2, s3⟩ := S9_.out.c4
      have f0 := S9_.out.frozen 0; have f1 := S9_.out.frozen 1; have f2 := S9_.out.frozen 2; have f3 := S9_.out.frozen 3
      go_wp2_with fail
      refine (cnow_is (c := c') (w5.heap.size + 1) (h + dd - B) _ K1.out (blk_far4 C9.out n3 _ _ _ _) A1.out AL.out AH.out rfl).mono ?_
      rintro e10 w10 ⟨rfl, hb10, hk10⟩
      have R10 := Lib.hid ((blk_far4 R9.out n5 _ _ _ _).keeps hk10 (show ¬ (w6.heap.size = w5.heap.size + 1) from fun h => n1 h.symm))
      have S10 := Lib.hid ((blk_set4 S9_.out (.pointer (some ⟨w6.heap.size + 1 + 1, 0, none⟩)) (.float .f64 rb) (.int .i64 (j + dd - G)) (.int .i64 (t + dd))).keeps hk10 (show ¬ (w7.heap.size = w5.heap.size + 1) from fun h => n3 h.symm))
      have D10 := Lib.hid ((blk_far4 D9.out n6 _ _ _ _).keeps hk10 (show ¬ (w6.heap.size + 1 + 1 = w5.heap.size + 1) from fun h => n2 h.symm))
      have C10 := Lib.hid hb10
      replace HB := Lib.hid (below_kp (below_set4 HB.out g4 _ _ _ _) hk10 g1)
      clear hb10 hk10 r0 r1 r2 r3 s0 s1 s2 s3 f0 f1 f2 f3 R9 S9_ C9 D9
      obtain ⟨s0, s1, s2, s3⟩ := S10.out.c4
      have sl := S10.out.lt
      go_wp2_with fail
      refine (cnow_is (c := d') (w6.heap.size + 1 + 1) (j + dd - G) _ K2.out (D10.out.alloc _) B1.out BL.out BH.out rfl).mono ?_
      rintro e11 w11 ⟨rfl, hb11, hk11⟩
      have R11 := Lib.hid ((R10.out.alloc _).keeps hk11 (show ¬ (w6.heap.size = w6.heap.size + 1 + 1) from n4))
      have S11 := Lib.hid ((S10.out.alloc _).keeps hk11 (show ¬ (w7.heap.size = w6.heap.size + 1 + 1) from fun h => n6 h.symm))
      have C11 := Lib.hid ((C10.out.alloc _).keeps hk11 (show ¬ (w5.heap.size + 1 = w6.heap.size + 1 + 1) from n2))
      have Y11 := Lib.hid ((Blk.new w10 39 #[.int .i64 al, .int .i64 ah]).keeps hk11 (Nat.ne_of_gt D10.out.lt))
      have D11 := Lib.hid hb11
      replace HB := Lib.hid (below_kp (below_alloc_ HB.out _) hk11 g2)
      clear hb11 hk11 s0 s1 s2 s3 sl R10 S10 C10 D10
      obtain ⟨y0, y1⟩ := Y11.out.c2
      have yl := Y11.out.lt
      rcases (show al ≤ m ∨ m < al by omega) with c1 | c1
      all_goals
        rcases (show bl ≤ o ∨ o < bl by omega) with c2 | c2
        all_goals
          have z1 : decide (bh < m) = false := by simp; omega
          have z2 : decide (bh < al) = false := by simp; omega
          have z3 : decide (ah < o) = false := by simp; omega
          have z4 : decide (ah < bl) = false := by simp; omega
          go_wp2_with fail
          go_roundw
          case rel => first | exact ⟨k + 1, _, _, _, _, t + dd, m, o, by omega, by omega, rfl, rfl, rfl, rfl, by go_num, by omega, by omega, I4, J4, Lib.hid (C11.out.alloc _), Lib.hid (D11.out.alloc _), Lib.hid (R11.out.alloc _), Lib.hid (S11.out.alloc _), Lib.hid (below_alloc_ HB.out _)⟩ | exact ⟨k + 1, _, _, _, _, t + dd, al, o, by omega, by omega, rfl, rfl, rfl, rfl, by go_num, by omega, by omega, I4, J4, Lib.hid (C11.out.alloc _), Lib.hid (D11.out.alloc _), Lib.hid (R11.out.alloc _), Lib.hid (S11.out.alloc _), Lib.hid (below_alloc_ HB.out _)⟩ | exact ⟨k + 1, _, _, _, _, t + dd, m, bl, by omega, by omega, rfl, rfl, rfl, rfl, by go_num, by omega, by omega, I4, J4, Lib.hid (C11.out.alloc _), Lib.hid (D11.out.alloc _), Lib.hid (R11.out.alloc _), Lib.hid (S11.out.alloc _), Lib.hid (below_alloc_ HB.out _)⟩ | exact ⟨k + 1, _, _, _, _, t + dd, al, bl, by omega, by omega, rfl, rfl, rfl, rfl, by go_num, by omega, by omega, I4, J4, Lib.hid (C11.out.alloc _), Lib.hid (D11.out.alloc _), Lib.hid (R11.out.alloc _), Lib.hid (S11.out.alloc _), Lib.hid (below_alloc_ HB.out _)⟩
          case measure => simp [intOf]; omega
    · rcases (show decide (k < xs.length) = false ∨ (k < xs.length ∧ decide ((k : Int) < 30) = false) by simp; omega) with hd | ⟨hd0, hd⟩
      all_goals
        go_wp2_with fail
        go_ret
        exact ⟨rfl, HB.out⟩
end Go.Proofs.Ytdemonageoagiaa
