/- The document's clock: Now, told. -/
import Derived.Test.YtdemonageoagiaaCkQ4
import Derived.Deep.RegionLaw
import Derived.Deep.DrawnRows
set_option linter.unusedSimpArgs false
set_option linter.unusedVariables false
namespace Go.Proofs.Ytdemonageoagiaa
open Go.RowKit Mo
attribute [local go_sem] run_store_float
attribute [local go_sem ↓] Go.wp_at_zero Go.wp_at_succ
theorem reads_blk {w : World} {g : Nat} {T : TypeId} {cs : Array Value} {size : Nat} (h : Blk w g T cs) (hs : cs.size = size) : Reads w w.heap.size size (some ⟨g, 0, none⟩) 1 cs.toList := by
  refine ⟨by simp [hs], fun _ => ⟨_, rfl, h.lt, fun j u hu => ?_⟩⟩
  rw [Addr.add_lit]
  have := h.cell (0 + j)
  rw [this]
  simpa using hu
theorem via_blk2 {P : Program} {W : World} {α : Type} {prog : Sem α} {v : α} {g g2 : Nat} {T T2 : TypeId} {cs cs2 : Array Value} (B : Blk W g T cs) (B2 : Blk W g2 T2 cs2) (h : ∀ W', Blk W' g T cs → Blk W' g2 T2 cs2 → Sem.run P prog W' = .ok v W') : Sem.run P prog W = .ok v W := h W B B2
set_option maxRecDepth 100000 in
set_option maxHeartbeats 8000000 in
theorem rnow_ok (r : Nat) (A : Option Addr) (m c : Nat) (L : List Tk) (x : Tk) (hx : L[m]? = some x) (hh : Int) (hl : x.h ≤ hh) (w : World) (hn : L.length = m + 1) (hr : TkAt w A L) (hm : m + 1 ≤ 100) (x0 : inT hh = true) (a : Nat) (ha : atI L (m + 1) = a) (ham : a < m + 1) (b : Tk) (hb : L[a]? = some b) (b0 : 0 ≤ b.h) (b1 : b.h ≤ x.h) (b2 : 0 ≤ b.t) (b3 : b.t ≤ 1125899906842624) (b4 : 0 ≤ b.e) (b5 : b.e ≤ 1125899906842624) (hf : b.t + (hh - b.h) ≤ 1125899906842624) (F D : Int) (hF : flI L (m + 1) = F) (f0 : 0 ≤ F) (f1 : F ≤ 1125899906842624) (hr6 : rate6 r = true) (hD : (driftBy (hh - b.h) r : Int) = D) (lo hi : Int) (hlo : max (b.t + (hh - b.h) - b.e - D) F = lo) (hhi : max (min (b.t + (hh - b.h) + b.e + D) 1125899906842624) lo = hi) :
    Calls Try.prog 15 #[.agg #[.float .f64 r, .slice A (m + 1) c], .int .i64 hh] w (RNow w A r (L ++ [⟨hh, false, 0, 0, lo⟩]) lo hi 0) := by
  have X0 := Lib.hid x0
  have HN := Lib.hid hn
  have HR := Lib.hid (show Reads w w.heap.size 5 A (m + 1) (L.flatMap Tk.cells) by rw [← hn]; exact hr)
  have HA := Lib.hid ha; have HXX := Lib.hid hx; have HB0 := Lib.hid hb
  obtain ⟨h0, h1⟩ := inT_iff.1 x0
  clear x0 hr hn ha hx hb
  obtain ⟨z1, z2, z3, z4⟩ := drift_num (hh - b.h) r (rate6_ok hr6) (by omega) (by omega)
  have hD0 : 0 ≤ D := by omega
  have hD1 : D ≤ 1125899906842624 := by have := drift_le (hh - b.h) r (rate6_ok hr6); omega
  rw [hD] at z4
  have Z3 := Lib.hid z3; have Z4 := Lib.hid z4; have HF := Lib.hid hF
  have hr9 : r < 18446744073709551616 := by unfold rate6 at hr6; simp at hr6; omega
  have HLO := Lib.hid hlo; have HHI := Lib.hid hhi
  obtain ⟨i0, hi0, hz0, hz1, hz2⟩ := info_parts info_tk
  clear z1 z2 z3 z4 hD hF hr6 hlo hhi
  go_enter Try.func15, Try.ntmps15
  go_wp2_with (go_at_call 24; refine (rtime_any _ _).mono ?_; rintro e w1 ⟨rfl, rfl⟩; first | rw [X0.out])
  go_loop [8, 9, 10] (fun sa sf si => ∃ k : Nat, k ≤ m + 1 ∧ si = .int .i64 k ∧ sa = .int .i64 (atI L k) ∧ sf = .int .i64 (flI L k)) (fun _ _ si => m + 1 - (intOf si).toNat)
  case atStart => exact ⟨0, Nat.zero_le _, rfl, rfl, rfl⟩
  case round =>
    obtain ⟨k, hk, rfl, rfl, rfl⟩ := hrel
    by_cases hlt : k < m + 1
    · obtain ⟨ad, hA, hadb, hcell⟩ := HR.out.2 (by omega)
      subst hA
      have hkl : k < L.length := by rw [HN.out]; exact hlt
      have q := fun j (hj : j < 5) => (hcell (k * 5 + j) _ ((flatMap_at L Tk.cells 5 (fun _ => rfl) k j hkl hj).trans (List.getElem?_eq_getElem (by exact hj))))
      have q1 := q 1 (by omega); have q4 := q 4 (by omega); have q0 := q 0 (by omega)
      have e1 : atI L (k + 1) = if ((L[k]?.map Tk.s).getD false) = true then (k : Int) else atI L k := rfl
      have e2 : flI L (k + 1) = max (flI L k) ((L[k]?.map Tk.f).getD 0) := rfl
      rw [List.getElem?_eq_getElem hkl] at e1 e2
      simp only [Option.map_some, Option.getD_some] at e1 e2
      simp only [Tk.cells, List.getElem_cons_zero, List.getElem_cons_succ, Nat.add_zero] at q0 q1 q4
      generalize L[k] = x at *
      obtain ⟨xh, xs, xt, xe, xf⟩ := x
      simp only at q0 q1 q4 e1 e2
      replace q1 := cell_in _ 1 (by omega) q1; replace q4 := cell_in _ 4 (by omega) q4
      have hbl := World.block_lt_of_cell? w _ q0
      have hbl1 : (ad.add (k * 5)).block < w.heap.size + 1 := by omega
      have hbl2 : (ad.add (k * 5)).block < w.heap.size + 1 + 1 := by omega
      have hbl3 : (ad.add (k * 5)).block < w.heap.size + 1 + 1 + 1 := by omega
      obtain ⟨F, hF⟩ : ∃ F, flI L k = F := ⟨_, rfl⟩
      obtain ⟨G, hG⟩ : ∃ G, atI L k = G := ⟨_, rfl⟩
      rw [hF] at e2; rw [hG] at e1
      have E1 := Lib.hid e1; have E2 := Lib.hid e2
      rw [hF, hG]
      clear q q0 hcell e1 e2 hF hG
      cases xs
      all_goals
        rcases (show F < xf ∨ xf ≤ F by omega) with hf | hf
        all_goals
          go_wp2_with fail
          go_round
          case rel => exact ⟨k + 1, by omega, by go_num, by rw [E1.out]; rfl, by rw [E2.out]; first | rw [Int.max_eq_right (Int.le_of_lt hf)] | rw [Int.max_eq_left hf]⟩
          case measure => simp [intOf]; omega
    · obtain rfl : k = m + 1 := by omega
      rw [HA.out, HF.out]
      have ha0 : decide ((a : Int) < 0) = false := by simp
      obtain ⟨ad, rfl, hadb, hcell⟩ := HR.out.2 (by omega)
      have hml : m < L.length := by rw [HN.out]; omega
      have q0 := hcell (m * 5 + 0) _ ((flatMap_at L Tk.cells 5 (fun _ => rfl) m 0 hml (show 0 < 5 by decide)).trans (List.getElem?_eq_getElem (show 0 < 5 by decide)))
      have hxe : L[m] = x := by have := HXX.out; rw [List.getElem?_eq_getElem hml] at this; injection this
      simp only [Tk.cells, List.getElem_cons_zero, hxe, Nat.add_zero] at q0
      have hbl := World.block_lt_of_cell? w _ q0
      have hbl1 : (ad.add (m * 5)).block < w.heap.size + 1 := by omega
      have hbl2 : (ad.add (m * 5)).block < w.heap.size + 1 + 1 := by omega
      have hbl3 : (ad.add (m * 5)).block < w.heap.size + 1 + 1 + 1 := by omega
      have hd1 : decide (hh < x.h) = false := by simp; omega
      have hd2 : decide (1125899906842624 - b.t < hh - b.h) = false := by simp; omega
      have hdd : 0 ≤ hh - b.h := by omega
      have hdd1 : hh - b.h ≤ 1125899906842624 := by omega
      have hal : a < L.length := by rw [HN.out]; omega
      have qa := fun j (hj : j < 5) => (hcell (a * 5 + j) _ ((flatMap_at L Tk.cells 5 (fun _ => rfl) a j hal hj).trans (List.getElem?_eq_getElem (by exact hj))))
      have hbe : L[a] = b := by have := HB0.out; rw [List.getElem?_eq_getElem hal] at this; injection this
      have a0 := qa 0 (by omega); have a1 := qa 1 (by omega); have a2 := qa 2 (by omega); have a3 := qa 3 (by omega); have a4 := qa 4 (by omega)
      simp only [Tk.cells, List.getElem_cons_zero, List.getElem_cons_succ, hbe, Nat.add_zero] at a0 a1 a2 a3 a4
      replace a1 := cell_in _ 1 (by omega) a1; replace a2 := cell_in _ 2 (by omega) a2; replace a3 := cell_in _ 3 (by omega) a3; replace a4 := cell_in _ 4 (by omega) a4
      have hal0 := World.block_lt_of_cell? w _ a0
      have hal1 : (ad.add (a * 5)).block < w.heap.size + 1 := by omega
      have hal2 : (ad.add (a * 5)).block < w.heap.size + 1 + 1 := by omega
      have hal3 : (ad.add (a * 5)).block < w.heap.size + 1 + 1 + 1 := by omega
      have hai : (a : Int) < (m : Int) + 1 := by omega
      have hai2 : (0 : Int) ≤ (a : Int) := by omega
      clear hcell qa hxe hml hbe hal
      go_wp2_with fail
      refine (rproduct_any (hh - b.h) r true _ (by omega) (by omega) hr9).mono ?_
      rintro e6 w6 ⟨rfl, hbw⟩
      rw [Z3.out, Z4.out]
      have P6 := Lib.hid (Blk.below (g := w.heap.size) (t := 32) (cs := #[.float .f64 r, .slice (some ad) (m + 1) c]) (by repeat (first | (refine Blk.new' ?_; simp; done) | (refine Blk.new' ?_; rfl) | refine Blk.alloc ?_ _ | refine Blk.drewN ?_ _ | refine Blk.drew ?_)) hbw (by (first | omega | (simp; done) | (simp; omega))))
      have Z6 := Lib.hid (Blk.below (g := w.heap.size + 1) (t := 32) (cs := #[.float .f64 0, .slice none 0 0]) (by repeat (first | (refine Blk.new' ?_; simp; done) | (refine Blk.new' ?_; rfl) | refine Blk.alloc ?_ _ | refine Blk.drewN ?_ _ | refine Blk.drew ?_)) hbw (by (first | omega | (simp; done) | (simp; omega))))
      have Y6 := Lib.hid (Blk.below (g := w.heap.size + 1 + 1) (t := 39) (cs := #[.int .i64 0, .int .i64 0]) (by repeat (first | (refine Blk.new' ?_; simp; done) | (refine Blk.new' ?_; rfl) | refine Blk.alloc ?_ _ | refine Blk.drewN ?_ _ | refine Blk.drew ?_)) hbw (by (first | omega | (simp; done) | (simp; omega))))
      have B6 := Lib.hid (Blk.below (g := w.heap.size + 1 + 1 + 1 + 1) (t := 80) (cs := #[.int .i64 b.h, .bool b.s, .int .i64 b.t, .int .i64 b.e, .int .i64 b.f]) (by repeat (first | (refine Blk.new' ?_; simp; done) | (refine Blk.new' ?_; rfl) | refine Blk.alloc ?_ _ | refine Blk.drewN ?_ _ | refine Blk.drew ?_)) hbw (by (first | omega | (simp; done) | (simp; omega))))
      have W6 : Hid (Below w.heap.size w w6) := Lib.hid (below_then (w := w) (by repeat (first | exact Hid.out (by assumption) | exact Below.refl _ _ | refine below_alloc_ ?_ _ | refine below_drewN_ ?_ _ | refine Below.drew ?_ | refine below_set_ ?_ (by first | exact Nat.le_refl _ | (simp; done) | (simp; omega)) _)) hbw)
      clear hbw a0 a1 a2 a3 a4 q0
      obtain ⟨y0, y1, y2, y3, y4⟩ := B6.out.c5
      have yl := B6.out.lt
      obtain ⟨X, hX⟩ : ∃ X, b.t + (hh - b.h) - b.e - D = X := ⟨_, rfl⟩
      obtain ⟨Y, hY⟩ : ∃ Y, b.t + (hh - b.h) + b.e + D = Y := ⟨_, rfl⟩
      have e1 := HLO.out; have e2 := HHI.out
      rw [hX] at e1; rw [hY] at e2
      go_upto_if 112 with fail
      clear hX hY
      go_cut [15] (fun s wx => s = .pointer (some ⟨w6.heap.size, 0, none⟩) ∧ wx = w6.alloc (.cells #[.int .i64 lo, .int .i64 Y] 39))
      case first =>
        rcases (show (X < F ∧ lo = F) ∨ (F ≤ X ∧ lo = X) by omega) with ⟨g1, rfl⟩ | ⟨g1, rfl⟩
        all_goals
          go_wp2_with fail
          go_meet
          exact ⟨rfl, rfl⟩
      case rest =>
        obtain ⟨rfl, rfl⟩ := hcut
        obtain ⟨Z, hZ⟩ : ∃ Z, min Y 1125899906842624 = Z := ⟨_, rfl⟩
        rw [hZ] at e2
        have HZ := Lib.hid hZ
        clear hZ
        go_upto_if 117 with fail
        go_cut [15] (fun s wx => s = .pointer (some ⟨w6.heap.size, 0, none⟩) ∧ wx = w6.alloc (.cells #[.int .i64 lo, .int .i64 Z] 39))
        case first =>
          rcases (show (1125899906842624 < Y ∧ Z = 1125899906842624) ∨ (Y ≤ 1125899906842624 ∧ Z = Y) by have := HZ.out; omega) with ⟨g1, rfl⟩ | ⟨g1, rfl⟩
          all_goals
            go_wp2_with fail
            go_meet
            exact ⟨rfl, rfl⟩
        case rest =>
          obtain ⟨rfl, rfl⟩ := hcut
          have E2 := Lib.hid e2
          clear e1 e2 HZ
          go_upto_if 123 with fail
          go_cut [15] (fun s wx => s = .pointer (some ⟨w6.heap.size, 0, none⟩) ∧ wx = w6.alloc (.cells #[.int .i64 lo, .int .i64 hi] 39))
          case first =>
            rcases (show (Z < lo ∧ hi = lo) ∨ (lo ≤ Z ∧ hi = Z) by have := E2.out; omega) with ⟨g1, rfl⟩ | ⟨g1, rfl⟩
            all_goals
              go_wp2_with fail
              go_meet
              exact ⟨rfl, rfl⟩
          case rest =>
            obtain ⟨rfl, rfl⟩ := hcut
            clear E2 HLO HHI
            have S6 : Hid (Blk (w6.alloc (.cells #[.int .i64 lo, .int .i64 hi] 39)) w6.heap.size 39 #[.int .i64 lo, .int .i64 hi]) := Lib.hid (Blk.new w6 _ _)
            obtain ⟨p0, p1⟩ := P6.out.c2
            have pl := P6.out.lt
            have pf := P6.out.frozen 1
            have pl1 : w.heap.size < w6.heap.size + 1 := by omega
            have pl2 : w.heap.size < w6.heap.size + 1 + 1 := by omega
            have pl3 : w.heap.size < w6.heap.size + 1 + 1 + 1 := by omega
            have w6l := B6.out.lt
            have RD6 : Hid (Reads w6 w6.heap.size 5 (some ad) (m + 1) (L.flatMap Tk.cells)) := Lib.hid (Reads.kp (S := fun _ => False) HR.out (.of_below W6.out) (fun _ _ h => h))
            clear y0 y1 y2 y3 y4 yl
            have m0 : w.heap.size + 1 + 1 ≠ w.heap.size := by omega
            have m0' : w6.heap.size ≠ w.heap.size := by omega
            go_upto_region 28 with fail
            go_cut [15] (fun s wx => s = .pointer (some ⟨w6.heap.size, 0, none⟩) ∧ ∃ A' c', Blk wx w.heap.size 32 #[.float .f64 r, .slice A' (m + 1 + 1) c'] ∧ Blk wx (w.heap.size + 1) 32 #[.float .f64 0, .slice none 0 0] ∧ Blk wx (w.heap.size + 1 + 1) 39 #[.int .i64 0, .int .i64 0] ∧ Blk wx w6.heap.size 39 #[.int .i64 lo, .int .i64 hi] ∧ Reads wx wx.heap.size 5 A' (m + 1 + 1) (L.flatMap Tk.cells ++ Tk.cells ⟨hh, false, 0, 0, lo⟩) ∧ (∀ a, A' = some a → w6.heap.size + 1 ≤ a.block) ∧ Below w.heap.size w wx)
            case first =>
              go_wp2_with fail
              go_region_law (first
                | ((refine step_append_any ((((w6.alloc (.cells #[.int .i64 lo, .int .i64 hi] 39)).alloc (.cells #[.int .i64 hh, .bool false, .int .i64 0, .int .i64 0, .int .i64 lo] 80)).alloc (.cells #[] 80)).drew) (by rfl) (.tmp 127) (.tmp 129) 30 (by rfl) (w6.heap.size + 1) 80 i0 _ 5 40 Try.underlying30 hi0 hz0 hz1 hz2 rfl (by decide) (.slice (some ⟨w6.heap.size + 1 + 1, 0, none⟩) 0 0) 0 [] (by rfl) (by repeat (first | with_reducible exact own_empty5 (by simp) (by simp) | with_reducible refine own_al ?_ _ | with_reducible refine own_dr ?_)) _ (some ad) (m + 1) c (L.flatMap Tk.cells) (by rfl) (by repeat (first | with_reducible exact RD6.out | with_reducible refine Reads.al ?_ _ | with_reducible refine Reads.dr ?_)) (one_tks L) (by unfold maxLen; omega) (by omega) (by simp <;> omega) ?_);
                   intro v1 w1 ho1 hg1 hat1;
                   (simp only [Nat.zero_add, List.nil_append] at ho1);
                   have O1 := Lib.hid ho1;
                   have N1 : Hid (∀ k, v1.ownBlock = some k → w6.heap.size + 1 ≤ k) := Lib.hid (fun k hk => (ho1.lt k hk).1);
                   have S1 := Lib.hid (Blk.grown (g := w6.heap.size) (t := 39) (cs := #[.int .i64 lo, .int .i64 hi]) (by repeat (first | with_reducible exact S6.out | with_reducible refine Blk.alloc ?_ _ | with_reducible refine Blk.drew ?_)) hg1 (by simp [Value.ownBlock] <;> omega));
                   have P1 := Lib.hid (Blk.grown (g := w.heap.size) (t := 32) (cs := #[.float .f64 r, .slice (some ad) (m + 1) c]) (by repeat (first | with_reducible exact P6.out | with_reducible refine Blk.alloc ?_ _ | with_reducible refine Blk.drew ?_)) hg1 (by simp [Value.ownBlock] <;> omega));
                   have Z1 := Lib.hid (Blk.grown (g := w.heap.size + 1) (t := 32) (cs := #[.float .f64 0, .slice none 0 0]) (by repeat (first | with_reducible exact Z6.out | with_reducible refine Blk.alloc ?_ _ | with_reducible refine Blk.drew ?_)) hg1 (by simp [Value.ownBlock] <;> omega));
                   have Y1 := Lib.hid (Blk.grown (g := w.heap.size + 1 + 1) (t := 39) (cs := #[.int .i64 0, .int .i64 0]) (by repeat (first | with_reducible exact Y6.out | with_reducible refine Blk.alloc ?_ _ | with_reducible refine Blk.drew ?_)) hg1 (by simp [Value.ownBlock] <;> omega));
                   have L1 := Lib.hid hg1.size;
                   have T1 := Lib.hid (Blk.grown (w := (((w6.alloc (.cells #[.int .i64 lo, .int .i64 hi] 39)).alloc (.cells #[.int .i64 hh, .bool false, .int .i64 0, .int .i64 0, .int .i64 lo] 80)).alloc (.cells #[] 80)).drew) (g := w6.heap.size + 1) (t := 80) (cs := #[.int .i64 hh, .bool false, .int .i64 0, .int .i64 0, .int .i64 lo]) (Blk.drew (Blk.alloc (Blk.new' (by simp)) _)) hg1 (by simp [Value.ownBlock] <;> omega));
                   have W1 : Hid (Below w.heap.size w w1) := Lib.hid (Below.grown (by repeat (first | with_reducible exact W6.out | with_reducible refine below_alloc_ ?_ _ | with_reducible refine Below.drew ?_)) hg1 (by simp <;> omega) (fun k e => by simp [Value.ownBlock] at e; omega));
                   clear ho1 hg1 hat1;
                   obtain ⟨s0, s1⟩ := S1.out.c2;
                   have sl := S1.out.lt)
                | ((refine step_append_any ((((w6.alloc (.cells #[.int .i64 lo, .int .i64 hi] 39)).alloc (.cells #[] 80)).alloc (.cells #[.int .i64 hh, .bool false, .int .i64 0, .int .i64 0, .int .i64 lo] 80)).drew) (by rfl) (.tmp 127) (.tmp 129) 30 (by rfl) (w6.heap.size + 1) 80 i0 _ 5 40 Try.underlying30 hi0 hz0 hz1 hz2 rfl (by decide) (.slice (some ⟨w6.heap.size + 1, 0, none⟩) 0 0) 0 [] (by rfl) (by repeat (first | with_reducible exact own_empty5 (by simp) (by simp) | with_reducible refine own_al ?_ _ | with_reducible refine own_dr ?_)) _ (some ad) (m + 1) c (L.flatMap Tk.cells) (by rfl) (by repeat (first | with_reducible exact RD6.out | with_reducible refine Reads.al ?_ _ | with_reducible refine Reads.dr ?_)) (one_tks L) (by unfold maxLen; omega) (by omega) (by simp <;> omega) ?_);
                   intro v1 w1 ho1 hg1 hat1;
                   (simp only [Nat.zero_add, List.nil_append] at ho1);
                   have O1 := Lib.hid ho1;
                   have N1 : Hid (∀ k, v1.ownBlock = some k → w6.heap.size + 1 ≤ k) := Lib.hid (fun k hk => (ho1.lt k hk).1);
                   have S1 := Lib.hid (Blk.grown (g := w6.heap.size) (t := 39) (cs := #[.int .i64 lo, .int .i64 hi]) (by repeat (first | with_reducible exact S6.out | with_reducible refine Blk.alloc ?_ _ | with_reducible refine Blk.drew ?_)) hg1 (by simp [Value.ownBlock] <;> omega));
                   have P1 := Lib.hid (Blk.grown (g := w.heap.size) (t := 32) (cs := #[.float .f64 r, .slice (some ad) (m + 1) c]) (by repeat (first | with_reducible exact P6.out | with_reducible refine Blk.alloc ?_ _ | with_reducible refine Blk.drew ?_)) hg1 (by simp [Value.ownBlock] <;> omega));
                   have Z1 := Lib.hid (Blk.grown (g := w.heap.size + 1) (t := 32) (cs := #[.float .f64 0, .slice none 0 0]) (by repeat (first | with_reducible exact Z6.out | with_reducible refine Blk.alloc ?_ _ | with_reducible refine Blk.drew ?_)) hg1 (by simp [Value.ownBlock] <;> omega));
                   have Y1 := Lib.hid (Blk.grown (g := w.heap.size + 1 + 1) (t := 39) (cs := #[.int .i64 0, .int .i64 0]) (by repeat (first | with_reducible exact Y6.out | with_reducible refine Blk.alloc ?_ _ | with_reducible refine Blk.drew ?_)) hg1 (by simp [Value.ownBlock] <;> omega));
                   have L1 := Lib.hid hg1.size;
                   have T1 := Lib.hid (Blk.grown (w := (((w6.alloc (.cells #[.int .i64 lo, .int .i64 hi] 39)).alloc (.cells #[] 80)).alloc (.cells #[.int .i64 hh, .bool false, .int .i64 0, .int .i64 0, .int .i64 lo] 80)).drew) (g := w6.heap.size + 1 + 1) (t := 80) (cs := #[.int .i64 hh, .bool false, .int .i64 0, .int .i64 0, .int .i64 lo]) (Blk.drew (Blk.new' (by simp))) hg1 (by simp [Value.ownBlock] <;> omega));
                   have W1 : Hid (Below w.heap.size w w1) := Lib.hid (Below.grown (by repeat (first | with_reducible exact W6.out | with_reducible refine below_alloc_ ?_ _ | with_reducible refine Below.drew ?_)) hg1 (by simp <;> omega) (fun k e => by simp [Value.ownBlock] at e; omega));
                   clear ho1 hg1 hat1;
                   obtain ⟨s0, s1⟩ := S1.out.c2;
                   have sl := S1.out.lt)
                | ((refine step_append_any (((w6.alloc (.cells #[.int .i64 lo, .int .i64 hi] 39)).alloc (.cells #[] 80)).drew) (by rfl) (.tmp 127) (.tmp 129) 30 (by rfl) (w6.heap.size + 1) 80 i0 _ 5 40 Try.underlying30 hi0 hz0 hz1 hz2 rfl (by decide) (.slice (some ⟨w6.heap.size + 1, 0, none⟩) 0 0) 0 [] (by rfl) (by repeat (first | with_reducible exact own_empty5 (by simp) (by simp) | with_reducible refine own_al ?_ _ | with_reducible refine own_dr ?_)) _ (some ad) (m + 1) c (L.flatMap Tk.cells) (by rfl) (by repeat (first | with_reducible exact RD6.out | with_reducible refine Reads.al ?_ _ | with_reducible refine Reads.dr ?_)) (one_tks L) (by unfold maxLen; omega) (by omega) (by simp <;> omega) ?_);
                   intro v1 w1 ho1 hg1 hat1;
                   (simp only [Nat.zero_add, List.nil_append] at ho1);
                   have O1 := Lib.hid ho1;
                   have N1 : Hid (∀ k, v1.ownBlock = some k → w6.heap.size + 1 ≤ k) := Lib.hid (fun k hk => (ho1.lt k hk).1);
                   have S1 := Lib.hid (Blk.grown (g := w6.heap.size) (t := 39) (cs := #[.int .i64 lo, .int .i64 hi]) (by repeat (first | with_reducible exact S6.out | with_reducible refine Blk.alloc ?_ _ | with_reducible refine Blk.drew ?_)) hg1 (by simp [Value.ownBlock] <;> omega));
                   have P1 := Lib.hid (Blk.grown (g := w.heap.size) (t := 32) (cs := #[.float .f64 r, .slice (some ad) (m + 1) c]) (by repeat (first | with_reducible exact P6.out | with_reducible refine Blk.alloc ?_ _ | with_reducible refine Blk.drew ?_)) hg1 (by simp [Value.ownBlock] <;> omega));
                   have Z1 := Lib.hid (Blk.grown (g := w.heap.size + 1) (t := 32) (cs := #[.float .f64 0, .slice none 0 0]) (by repeat (first | with_reducible exact Z6.out | with_reducible refine Blk.alloc ?_ _ | with_reducible refine Blk.drew ?_)) hg1 (by simp [Value.ownBlock] <;> omega));
                   have Y1 := Lib.hid (Blk.grown (g := w.heap.size + 1 + 1) (t := 39) (cs := #[.int .i64 0, .int .i64 0]) (by repeat (first | with_reducible exact Y6.out | with_reducible refine Blk.alloc ?_ _ | with_reducible refine Blk.drew ?_)) hg1 (by simp [Value.ownBlock] <;> omega));
                   have L1 := Lib.hid hg1.size;
                   have W1 : Hid (Below w.heap.size w w1) := Lib.hid (Below.grown (by repeat (first | with_reducible exact W6.out | with_reducible refine below_alloc_ ?_ _ | with_reducible refine Below.drew ?_)) hg1 (by simp <;> omega) (fun k e => by simp [Value.ownBlock] at e; omega));
                   clear ho1 hg1 hat1;
                   obtain ⟨s0, s1⟩ := S1.out.c2;
                   have sl := S1.out.lt)
                | ((refine step_append_any w1 (by rfl) (.tmp 130) (.tmp 135) 30 (by rfl) (w6.heap.size + 1) 80 i0 _ 5 40 Try.underlying30 hi0 hz0 hz1 hz2 rfl (by decide) v1 (m + 1) (L.flatMap Tk.cells) (by rfl) (by repeat (first | with_reducible exact O1.out | with_reducible refine own_al ?_ _ | with_reducible refine own_dr ?_)) _ (some ⟨_, 0, none⟩) 1 1 (Tk.cells ⟨hh, false, 0, 0, lo⟩) (by rfl) (reads_blk T1.out rfl) (one_tk _) (by unfold maxLen; omega) (by omega) (by have := L1.out; simp at this ⊢; omega) ?_);
                   intro v2 w2 ho2 hg2 hat2;
                   obtain ⟨A', c', rfl, hrd, hblk⟩ := own_shape ho2;
                   have RD := Lib.hid hrd; have BK := Lib.hid hblk;
                   have S2 := Lib.hid (Blk.grown (g := w6.heap.size) (t := 39) (cs := #[.int .i64 lo, .int .i64 hi]) (S1.out) hg2 (fun h => by have := N1.out _ h.symm; omega));
                   have P2 := Lib.hid (Blk.grown (g := w.heap.size) (t := 32) (cs := #[.float .f64 r, .slice (some ad) (m + 1) c]) (P1.out) hg2 (fun h => by have := N1.out _ h.symm; omega));
                   have Z2 := Lib.hid (Blk.grown (g := w.heap.size + 1) (t := 32) (cs := #[.float .f64 0, .slice none 0 0]) (Z1.out) hg2 (fun h => by have := N1.out _ h.symm; omega));
                   have Y2 := Lib.hid (Blk.grown (g := w.heap.size + 1 + 1) (t := 39) (cs := #[.int .i64 0, .int .i64 0]) (Y1.out) hg2 (fun h => by have := N1.out _ h.symm; omega));
                   have W2 : Hid (Below w.heap.size w w2) := Lib.hid (Below.grown W1.out hg2 W1.out.size (fun k e => by have := N1.out k e; omega));
                   clear ho2 hg2 hat2 hrd hblk;
                   obtain ⟨p0, p1⟩ := P2.out.c2;
                   have pl := P2.out.lt; have pf := P2.out.frozen 1)
                | ((refine step_append_any (w1.alloc (.cells #[.int .i64 hh, .bool false, .int .i64 0, .int .i64 0, .int .i64 lo] 80)) (by rfl) (.tmp 130) (.tmp 135) 30 (by rfl) (w6.heap.size + 1) 80 i0 _ 5 40 Try.underlying30 hi0 hz0 hz1 hz2 rfl (by decide) v1 (m + 1) (L.flatMap Tk.cells) (by rfl) (by repeat (first | with_reducible exact O1.out | with_reducible refine own_al ?_ _ | with_reducible refine own_dr ?_)) _ (some ⟨_, 0, none⟩) 1 1 (Tk.cells ⟨hh, false, 0, 0, lo⟩) (by rfl) (reads_cells rfl rfl) (one_tk _) (by unfold maxLen; omega) (by omega) (by have := L1.out; simp at this ⊢; omega) ?_);
                   intro v2 w2 ho2 hg2 hat2;
                   obtain ⟨A', c', rfl, hrd, hblk⟩ := own_shape ho2;
                   have RD := Lib.hid hrd; have BK := Lib.hid hblk;
                   have S2 := Lib.hid (Blk.grown (g := w6.heap.size) (t := 39) (cs := #[.int .i64 lo, .int .i64 hi]) (S1.out.alloc _) hg2 (fun h => by have := N1.out _ h.symm; omega));
                   have P2 := Lib.hid (Blk.grown (g := w.heap.size) (t := 32) (cs := #[.float .f64 r, .slice (some ad) (m + 1) c]) (P1.out.alloc _) hg2 (fun h => by have := N1.out _ h.symm; omega));
                   have Z2 := Lib.hid (Blk.grown (g := w.heap.size + 1) (t := 32) (cs := #[.float .f64 0, .slice none 0 0]) (Z1.out.alloc _) hg2 (fun h => by have := N1.out _ h.symm; omega));
                   have Y2 := Lib.hid (Blk.grown (g := w.heap.size + 1 + 1) (t := 39) (cs := #[.int .i64 0, .int .i64 0]) (Y1.out.alloc _) hg2 (fun h => by have := N1.out _ h.symm; omega));
                   have W2 : Hid (Below w.heap.size w w2) := Lib.hid (Below.grown (below_alloc_ W1.out _) hg2 (Nat.le_trans W1.out.size (by simp)) (fun k e => by have := N1.out k e; omega));
                   clear ho2 hg2 hat2 hrd hblk;
                   obtain ⟨p0, p1⟩ := P2.out.c2;
                   have pl := P2.out.lt; have pf := P2.out.frozen 1)
                | fail)
              all_goals
                go_wp2_with fail
                go_meet
                exact ⟨rfl, A', c', blk_upd P2.out rfl, Blk.far Z2.out (Nat.succ_ne_self _) _, Blk.far Y2.out m0 _, Blk.far S2.out m0' _, Reads.kp RD.out (S := (· = w.heap.size)) (Keeps.set_ (S := (· = w.heap.size)) (Keeps.refl _ _) (Or.inl rfl) _) (fun a ha h => by have := BK.out a ha; omega), BK.out, below_set_ W2.out (Nat.le_refl _) _⟩
            case rest =>
              obtain ⟨rfl, A', c', hP, hZ, hY, hS, hR, hB, hW⟩ := hcut
              have P3 := Lib.hid hP; have Z3' := Lib.hid hZ; have Y3 := Lib.hid hY; have S3 := Lib.hid hS; have R3 := Lib.hid hR; have B3 := Lib.hid hB; have W3 := Lib.hid hW
              clear hP hZ hY hS hR hB hW p0 p1 pl pf pl1 pl2 pl3 P6 Z6 Y6 B6 S6 RD6 W6
              obtain ⟨p0, p1⟩ := P3.out.c2
              obtain ⟨z0, z1⟩ := Z3'.out.c2
              obtain ⟨y0, y1⟩ := Y3.out.c2
              obtain ⟨s0, s1⟩ := S3.out.c2
              have pl := P3.out.lt; have zl := Z3'.out.lt; have yl := Y3.out.lt; have sl := S3.out.lt
              have f0 := Z3'.out.frozen 0; have f1 := Z3'.out.frozen 1; have f2 := Y3.out.frozen 0; have f3 := Y3.out.frozen 1
              have m1 : w.heap.size ≠ w6.heap.size := by omega
              have m2 : w.heap.size + 1 ≠ w6.heap.size := by omega
              have m3 : w.heap.size + 1 + 1 ≠ w6.heap.size := by omega
              have m4 : w6.heap.size ≠ w.heap.size + 1 := by omega
              have m5 : w6.heap.size ≠ w.heap.size + 1 + 1 := by omega
              go_wp2_with fail
              go_region
              all_goals go_wp2_with fail
              have hS : Keeps (fun k => k = w.heap.size + 1 ∨ k = w.heap.size + 1 + 1) wc ((((wc.setCell ⟨w.heap.size + 1, 0, none⟩ (.float .f64 r)).setCell ⟨w.heap.size + 1, 1, none⟩ (.slice A' (m + 1 + 1) c')).setCell ⟨w.heap.size + 1 + 1, 0, none⟩ (.int .i64 lo)).setCell ⟨w.heap.size + 1 + 1, 1, none⟩ (.int .i64 hi)).drew := by
                refine Keeps.drew ?_
                refine Keeps.set_ ?_ (Or.inl (Or.inr rfl)) _
                refine Keeps.set_ ?_ (Or.inl (Or.inr rfl)) _
                refine Keeps.set_ ?_ (Or.inl (Or.inl rfl)) _
                exact Keeps.set_ (Keeps.refl _ _) (Or.inl (Or.inl rfl)) _
              refine bodyPost_ret (v := .tuple #[.agg #[.float .f64 r, .slice A' (m + 1 + 1) c'], .agg #[.int .i64 lo, .int .i64 hi], .int .i64 0]) (via_blk2 (g := w.heap.size + 1) (T := 32) (cs := #[.float .f64 r, .slice A' (m + 1 + 1) c']) (g2 := w.heap.size + 1 + 1) (T2 := 39) (cs2 := #[.int .i64 lo, .int .i64 hi]) ?_ ?_ (fun W' hB hB2 => by obtain ⟨c0, c1⟩ := hB.c2; obtain ⟨d0, d1⟩ := hB2.c2; simp [results, Try.results15, go_sem, c0, c1, d0, d1])) rfl ?_
              · exact Blk.drew (Blk.far (Blk.far (blk_upd (blk_upd Z3'.out rfl) rfl) (Nat.ne_of_lt (Nat.lt_succ_self _)) _) (Nat.ne_of_lt (Nat.lt_succ_self _)) _)
              · exact Blk.drew (blk_upd (blk_upd (Blk.far (Blk.far Y3.out (Nat.succ_ne_self _) _) (Nat.succ_ne_self _) _) rfl) rfl)
              · refine ⟨A', c', by rw [List.length_append, HN.out]; rfl, ?_, Below.drew (below_set_ (below_set_ (below_set_ (below_set_ W3.out (Nat.le_add_right _ 1) _) (Nat.le_add_right _ 1) _) (Nat.le_add_right _ 2) _) (Nat.le_add_right _ 2) _), fun a ha => .inr (by have := B3.out a ha; omega)⟩
                have h := Reads.kp R3.out hS (fun a ha hlt => by have := B3.out a ha; omega)
                unfold TkAt
                rw [List.length_append, HN.out, List.flatMap_append]
                simpa using h
end Go.Proofs.Ytdemonageoagiaa
