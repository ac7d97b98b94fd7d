/- Runs of a clock: the contract of step. -/
import Derived.Test.YtdemonageoagiaaCkS
import Derived.Deep.RegionHeld3
import Derived.Deep.RegionWith
import Derived.Deep.DeepCutAuto
import Derived.Deep.DrawnRows
set_option linter.unusedSimpArgs false
set_option linter.unusedVariables false
namespace Go.Proofs.Ytdemonageoagiaa
open Go.RowKit Mo
attribute [local go_sem] run_store_float
attribute [local go_sem ↓] Go.wp_at_zero Go.wp_at_succ
theorem cs_far {w : World} {p q : Addr} {v : Value} (h : w.cell? p = some v) (hb : p.block ≠ q.block) (u : Value) : (w.setCell q u).cell? p = some v :=
  (World.cell?_of_block (w := w) (Below.heap_setCell w q u p.block hb)).trans h
theorem cs_far4 {w : World} {p q0 q1 q2 q3 : Addr} {v u0 u1 u2 u3 : Value} (h : w.cell? p = some v) (h0 : p.block ≠ q0.block) (h1 : p.block ≠ q1.block) (h2 : p.block ≠ q2.block) (h3 : p.block ≠ q3.block) : ((((w.setCell q0 u0).setCell q1 u1).setCell q2 u2).setCell q3 u3).cell? p = some v :=
  cs_far (cs_far (cs_far (cs_far h h0 u0) h1 u1) h2 u2) h3 u3
set_option maxRecDepth 100000 in
set_option maxHeartbeats 6000000 in
theorem step_any (g : Nat) (c c' : Ck) (r : Nat) (h t dh sk : Int) (st : Bool) (e off : Int) (w : World) (hs : Blk w g 77 c.cells) (hr9 : r < 18446744073709551616) (M B : Int) (hM : prodV dh r false = M) (hE : prodE dh r false = 0) (m0 : 0 ≤ M) (m1 : M ≤ dh) (hB : bro sk M = B)
    (h0 : 0 ≤ h) (h1 : h ≤ 4398046511104) (t0 : 0 ≤ t) (t1 : t ≤ 4398046511104) (d0 : 0 ≤ dh) (d1 : dh ≤ 4294967295) (e0 : 0 ≤ e) (e1 : e ≤ 65535) (B2 y : Int) (hB2 : bro off e = B2) (hy : max (t + dh + B + B2) 0 = y) (hc : (st = false ∧ c' = c) ∨ (st = true ∧ ckSetE c (h + dh) y e = 0 ∧ ckSet c (h + dh) y e = c')) :
    Calls Try.prog 19 #[.agg #[.pointer (some ⟨g, 0, none⟩), .float .f64 r, .int .i64 h, .int .i64 t], .agg #[.int .u32 dh, .int .i64 sk, .bool st, .int .u16 e, .int .i64 off]] w fun e' w' =>
      e' = .returned (.tuple #[.agg #[.pointer (some ⟨g, 0, none⟩), .float .f64 r, .int .i64 (h + dh), .int .i64 (t + dh + B)], .bool true]) ∧ Blk w' g 77 c'.cells ∧ Keeps (· = g) w w' := by
  have hg := hs.lt
  have HS := Lib.hid hs; clear hs
  have hb2 := bro_bnd (n := off) e0
  rw [hB2] at hb2
  obtain ⟨b3, b4⟩ := hb2
  have HB2 := Lib.hid hB2; have HC := Lib.hid hc; have HY := Lib.hid hy
  clear hB2 hc hy
  have hb := bro_bnd (n := sk) m0
  rw [hB] at hb
  obtain ⟨b1, b2⟩ := hb
  have HBR := Lib.hid hB; have HM := Lib.hid hM; have HE := Lib.hid hE
  clear hB hM hE
  have y1 : IntKind.i64.wrap dh = dh := IntWalk.i64_in _ (by omega)
  have y2 : IntKind.i64.wrap (h + dh) = h + dh := IntWalk.i64_in _ (by omega)
  have y3 : IntKind.i64.wrap (t + dh) = t + dh := IntWalk.i64_in _ (by omega)
  have y4 : IntKind.i64.wrap (t + dh + B) = t + dh + B := IntWalk.i64_in _ (by omega)
  go_enter Try.func19, Try.ntmps19
  go_wp2_with fail
  have hne : ∀ i, w.heap.size ≤ i → g ≠ i := fun i hi => by omega
  refine (rproduct_any dh r false _ (by omega) (by omega) hr9).mono ?_
  rintro e' w3 ⟨rfl, hb⟩
  rw [HM.out, HE.out]
  have R3 := Lib.hid (Blk.below (g := w.heap.size) (t := 49) (cs := #[.pointer (some ⟨g, 0, none⟩), .float .f64 r, .int .i64 h, .int .i64 t]) (by repeat (first | (refine Blk.new' ?_; simp; done) | (refine Blk.new' ?_; rfl) | refine Blk.alloc ?_ _ | refine Blk.drewN ?_ _ | refine Blk.drew ?_)) hb (by (first | omega | (simp; done) | (simp; omega))))
  have X3 := Lib.hid (Blk.below (g := w.heap.size + 1) (t := 56) (cs := #[.int .u32 dh, .int .i64 sk, .bool st, .int .u16 e, .int .i64 off]) (by repeat (first | (refine Blk.new' ?_; simp; done) | (refine Blk.new' ?_; rfl) | refine Blk.alloc ?_ _ | refine Blk.drewN ?_ _ | refine Blk.drew ?_)) hb (by (first | omega | (simp; done) | (simp; omega))))
  have Z3 := Lib.hid (Blk.below (g := w.heap.size + 1 + 1) (t := 49) (cs := #[.pointer none, .float .f64 0, .int .i64 0, .int .i64 0]) (by repeat (first | (refine Blk.new' ?_; simp; done) | (refine Blk.new' ?_; rfl) | refine Blk.alloc ?_ _ | refine Blk.drewN ?_ _ | refine Blk.drew ?_)) hb (by (first | omega | (simp; done) | (simp; omega))))
  have HB : Hid (Below w.heap.size w w3) := Lib.hid (below_then (w := w) (by repeat (first | exact Hid.out (by assumption) | exact Below.refl _ _ | refine below_alloc_ ?_ _ | refine below_drewN_ ?_ _ | refine Below.drew ?_ | refine below_set_ ?_ (by first | exact Nat.le_refl _ | (simp; done) | (simp; omega)) _)) hb)
  clear hb
  obtain ⟨r0, r1, r2, r3⟩ := R3.out.c4
  obtain ⟨x0, x1, x2, x3, x4⟩ := X3.out.c5
  obtain ⟨z0, z1, z2, z3⟩ := Z3.out.c4
  have f2 := R3.out.frozen 2; have f3 := R3.out.frozen 3
  have j0 := Z3.out.frozen 0; have j1 := Z3.out.frozen 1; have j2 := Z3.out.frozen 2; have j3 := Z3.out.frozen 3
  have l0 := R3.out.lt; have l1 := X3.out.lt; have l2 := Z3.out.lt
  go_wp2_with fail
  go_upto_region 3 with fail
  go_cut [4] (fun s4 wx => s4 = .pointer (some ⟨w.heap.size + 1 + 1, 0, none⟩) ∧ Blk wx w.heap.size 49 #[.pointer (some ⟨g, 0, none⟩), .float .f64 r, .int .i64 (h + dh), .int .i64 (t + dh + B)] ∧ Blk wx (w.heap.size + 1) 56 #[.int .u32 dh, .int .i64 sk, .bool st, .int .u16 e, .int .i64 off] ∧ Blk wx (w.heap.size + 1 + 1) 49 #[.pointer none, .float .f64 0, .int .i64 0, .int .i64 0] ∧ Below w.heap.size w wx)
  case first =>
    go_region_with (go_at_call 28; refine (brought_any _ _ _ m0 (by omega)).mono ?_; rintro e w1 ⟨rfl, rfl⟩; rw [HBR.out])
    all_goals
      go_wp2_with fail
      go_meet
      refine ⟨rfl, ?_, ?_, ?_, ?_⟩
      · exact Blk.drew (blk_upd (blk_upd R3.out rfl) rfl)
      · exact Blk.drew (Blk.far (Blk.far X3.out (Nat.succ_ne_self _) _) (Nat.succ_ne_self _) _)
      · exact Blk.drew (Blk.far (Blk.far Z3.out (by simp; omega) _) (by simp; omega) _)
      · exact Below.drew (below_set_ (below_set_ HB.out (Nat.le_refl _) _) (Nat.le_refl _) _)
  case rest =>
    clear r0 r1 r2 r3 x0 x1 x2 x3 x4 z0 z1 z2 z3 f2 f3 j0 j1 j2 j3 l0 l1 l2 R3 X3 Z3 HB
    obtain ⟨rfl, hR, hX, hZ, hB⟩ := hcut
    have R3 := Lib.hid hR; have X3 := Lib.hid hX; have Z3 := Lib.hid hZ; have HB := Lib.hid hB
    clear hR hX hZ hB
    have hgz : g ≠ w.heap.size + 1 + 1 := by omega
    have hle2 : w.heap.size ≤ w.heap.size + 1 + 1 := Nat.le_add_right _ 2
    obtain ⟨r0, r1, r2, r3⟩ := R3.out.c4
    obtain ⟨x0, x1, x2, x3, x4⟩ := X3.out.c5
    obtain ⟨z0, z1, z2, z3⟩ := Z3.out.c4
    have j0 := Z3.out.frozen 0; have j1 := Z3.out.frozen 1; have j2 := Z3.out.frozen 2; have j3 := Z3.out.frozen 3
    have l0 := R3.out.lt; have l1 := X3.out.lt; have l2 := Z3.out.lt
    cases st
    · obtain ⟨_, rfl⟩ : false = false ∧ c' = c := by rcases HC.out with h | ⟨h, _⟩ <;> first | exact h | cases h
      go_wp2_with fail
      refine bodyPost_ret (v := .tuple #[.agg #[.pointer (some ⟨g, 0, none⟩), .float .f64 r, .int .i64 (h + dh), .int .i64 (t + dh + B)], .bool true]) (via_blk (g := w.heap.size + 1 + 1) (T := 49) (cs := #[.pointer (some ⟨g, 0, none⟩), .float .f64 r, .int .i64 (h + dh), .int .i64 (t + dh + B)]) ?_ (fun W' hB => by obtain ⟨c0, c1, c2, c3⟩ := hB.c4; simp [results, Try.results19, go_sem, c0, c1, c2, c3])) rfl ⟨rfl, ?_, ?_⟩
      · exact blk_upd (blk_upd (blk_upd (blk_upd Z3.out rfl) rfl) rfl) rfl
      · exact Blk.far (Blk.far (Blk.far (Blk.far (HS.out.below HB.out hg) (hgz) _) (hgz) _) (hgz) _) (hgz) _
      · exact .of_below (below_set_ (below_set_ (below_set_ (below_set_ HB.out (Nat.le_add_right _ 2) _) (Nat.le_add_right _ 2) _) (Nat.le_add_right _ 2) _) (Nat.le_add_right _ 2) _)
    · have hcc : ckSetE c (h + dh) y e = 0 ∧ ckSet c (h + dh) y e = c' := by rcases HC.out with ⟨h, _⟩ | ⟨_, h⟩ <;> first | exact h | cases h
      have S1 := Lib.hid hcc.1; have S2 := Lib.hid hcc.2
      clear hcc
      have y5 : IntKind.i64.wrap e = e := IntWalk.i64_in _ (by omega)
      have y6 : IntKind.i64.wrap (t + dh + B + B2) = t + dh + B + B2 := IntWalk.i64_in _ (by omega)
      go_wp2_with fail
      go_upto_region 6 with fail
      go_cut [9] (fun s9 wx => s9 = .int .i64 (t + dh + B + B2) ∧ Blk wx w.heap.size 49 #[.pointer (some ⟨g, 0, none⟩), .float .f64 r, .int .i64 (h + dh), .int .i64 (t + dh + B)] ∧ Blk wx (w.heap.size + 1) 56 #[.int .u32 dh, .int .i64 sk, .bool true, .int .u16 e, .int .i64 off] ∧ Blk wx (w.heap.size + 1 + 1) 49 #[.pointer none, .float .f64 0, .int .i64 0, .int .i64 0] ∧ Below w.heap.size w wx)
      case first =>
        go_region_with (go_at_call 28; refine (brought_any _ _ _ e0 (by omega)).mono ?_; rintro e w1 ⟨rfl, rfl⟩; rw [HB2.out])
        all_goals
          go_wp2_with fail
          go_meet
          exact ⟨rfl, R3.out, X3.out, Z3.out, Below.drew HB.out⟩
      case rest =>
        clear r0 r1 r2 r3 x0 x1 x2 x3 x4 z0 z1 z2 z3 j0 j1 j2 j3 l0 l1 l2 R3 X3 Z3 HB
        obtain ⟨rfl, hR, hX, hZ, hB⟩ := hcut
        have R3 := Lib.hid hR; have X3 := Lib.hid hX; have Z3 := Lib.hid hZ; have HB := Lib.hid hB
        clear hR hX hZ hB
        obtain ⟨r0, r1, r2, r3⟩ := R3.out.c4
        obtain ⟨x0, x1, x2, x3, x4⟩ := X3.out.c5
        obtain ⟨z0, z1, z2, z3⟩ := Z3.out.c4
        have j0 := Z3.out.frozen 0; have j1 := Z3.out.frozen 1; have j2 := Z3.out.frozen 2; have j3 := Z3.out.frozen 3
        have l0 := R3.out.lt; have l1 := X3.out.lt; have l2 := Z3.out.lt
        have hr7 : ¬ (w.heap.size = g) := by omega
        have hz7 : ¬ (w.heap.size + 1 + 1 = g) := by omega
        have h02 : w.heap.size ≠ w.heap.size + 1 + 1 := by omega
        have h12 : w.heap.size + 1 ≠ w.heap.size + 1 + 1 := by omega
        have hx7 : w.heap.size + 1 ≠ g := by omega
        go_upto_if 49 with fail
        go_cut [9] (fun s9 wx => s9 = .int .i64 y ∧ wx = wc)
        case first =>
          rcases (show (t + dh + B + B2 < 0 ∧ y = 0) ∨ (0 ≤ t + dh + B + B2 ∧ y = t + dh + B + B2) by have := HY.out; omega) with ⟨h2, rfl⟩ | ⟨h2, rfl⟩
          all_goals
            go_wp2_with fail
            go_meet
            exact ⟨rfl, rfl⟩
        case rest =>
          obtain ⟨rfl, rfl⟩ := hcut
          go_wp2_with fail
          go_region_held3 (fun w' => w'.cell? ⟨w.heap.size, 0, none⟩ = some (.pointer (some ⟨g, 0, none⟩)) ∧ w'.cell? ⟨w.heap.size, 1, none⟩ = some (.float .f64 r) ∧ w'.cell? ⟨w.heap.size, 2, none⟩ = some (.int .i64 (h + dh)) ∧ w'.cell? ⟨w.heap.size, 3, none⟩ = some (.int .i64 (t + dh + B)) ∧ w'.cell? ⟨w.heap.size + 1, 3, none⟩ = some (.int .u16 e)) (first | exact ⟨r0, r1, r2, r3, x3⟩ | exact ⟨p0, p1, p2, p3, p4⟩ | exact ⟨cs_far4 p0 h02 h02 h02 h02, cs_far4 p1 h02 h02 h02 h02, cs_far4 p2 h02 h02 h02 h02, cs_far4 p3 h02 h02 h02 h02, cs_far4 p4 h12 h12 h12 h12⟩ | go_keep) ((go_at_call 14; refine (cset_is g (h + dh) _ e _ (HS.out.below (Below.drew HB.out) hg) S1.out S2.out).mono ?_; rintro e7 w7 ⟨rfl, hb7, hk7⟩; have R7 := Lib.hid (Blk.keeps (w := wc.drew) R3.out hk7 hr7); have Z7 := Lib.hid (Blk.keeps (w := wc.drew) Z3.out hk7 hz7); have C7 := Lib.hid hb7; have K7 := Lib.hid (Keeps.trans (S := (· = g)) (.of_below (Below.drew HB.out)) hk7); have hk7x := hk7; clear hb7 hk7; obtain ⟨p0, p1, p2, p3⟩ := R7.out.c4; have p4 := keep_cell (w1 := wc.drew) x3 hk7x hx7; clear hk7x; obtain ⟨z0, z1, z2, z3⟩ := Z7.out.c4; have j0 := Z7.out.frozen 0; have j1 := Z7.out.frozen 1; have j2 := Z7.out.frozen 2; have j3 := Z7.out.frozen 3; have l2 := Z7.out.lt))
          all_goals
            go_wp2_with fail
            refine bodyPost_ret (v := .tuple #[.agg #[.pointer (some ⟨g, 0, none⟩), .float .f64 r, .int .i64 (h + dh), .int .i64 (t + dh + B)], .bool true]) (via_blk (g := w.heap.size + 1 + 1) (T := 49) (cs := #[.pointer (some ⟨g, 0, none⟩), .float .f64 r, .int .i64 (h + dh), .int .i64 (t + dh + B)]) ?_ (fun W' hB => by obtain ⟨c0, c1, c2, c3⟩ := hB.c4; simp [results, Try.results19, go_sem, c0, c1, c2, c3])) rfl ⟨rfl, ?_, ?_⟩
            · exact Blk.drew (blk_upd (blk_upd (blk_upd (blk_upd Z7.out rfl) rfl) rfl) rfl)
            · exact Blk.drew (Blk.far (Blk.far (Blk.far (Blk.far C7.out (hgz) _) (hgz) _) (hgz) _) (hgz) _)
            · repeat (first | exact K7.out | refine Keeps.set_ (S := (· = g)) ?_ (Or.inr hle2) _ | refine Keeps.drew ?_)
end Go.Proofs.Ytdemonageoagiaa
