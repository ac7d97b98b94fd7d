/- The document's clock: Set refused, and Now. -/
import Derived.Test.YtdemonageoagiaaCkQ2
set_option linter.unusedSimpArgs false
set_option linter.unusedVariables false
namespace Go.Proofs.Ytdemonageoagiaa
open Go.RowKit Mo
attribute [local go_sem] run_store_float
set_option maxRecDepth 100000 in
set_option maxHeartbeats 1000000 in
theorem rset_back (r : Nat) (A : Option Addr) (n c : Nat) (L : List Tk) (x : Tk) (hx : L[n]? = some x) (hh t e : Int) (hl : hh < x.h) (w : World) (hn : L.length = n + 1) (hr : TkAt w A L) (hm : n + 1 ≤ 100) (x0 : inT hh = true) (x1 : inT t = true) (x2 : inT e = true) :
    Calls Try.prog 13 #[.agg #[.float .f64 r, .slice A (n + 1) c], .int .i64 hh, .int .i64 t, .int .i64 e] w (RSet w A r L 62) := by
  have X0 := Lib.hid x0; have X1 := Lib.hid x1; have X2 := Lib.hid x2
  have HN := Lib.hid hn
  have HR := Lib.hid (show Reads w w.heap.size 5 A (n + 1) (L.flatMap Tk.cells) by rw [← hn]; exact hr)
  clear x0 x1 x2 hr hn
  obtain ⟨ad, rfl, hadb, hcell⟩ := HR.out.2 (by omega)
  have hnl : n < L.length := by rw [HN.out]; omega
  have q0 := hcell (n * 5 + 0) _ ((flatMap_at L Tk.cells 5 (fun _ => rfl) n 0 hnl (show 0 < 5 by decide)).trans (List.getElem?_eq_getElem (show 0 < 5 by decide)))
  have hxe : L[n] = x := by rw [List.getElem?_eq_getElem hnl] at hx; injection hx
  simp only [Tk.cells, List.getElem_cons_zero, hxe, Nat.add_zero] at q0
  have hbl := World.block_lt_of_cell? w _ q0
  have hd1 : decide (hh < x.h) = true := by simp; omega
  have hpos : 0 < n + 1 := by omega
  have hb1 : decide ((0 : Int) < ((n + 1 : Nat) : Int)) = true := by first | (simp; done) | (simp; omega)
  clear hcell hx hxe hnl
  go_enter Try.func13, Try.ntmps13
  go_wp2_with (go_at_call 24; refine (rtime_any _ _).mono ?_; rintro e w1 ⟨rfl, rfl⟩; first | rw [X0.out] | rw [X1.out] | rw [X2.out])
  refine bodyPost_ret (v := .tuple #[.agg #[.float .f64 r, .slice (some ad) (n + 1) c], .int .i64 62]) (via_blk (g := w.heap.size + 1) (T := 32) (cs := #[.float .f64 r, .slice (some ad) (n + 1) c]) (by repeat (first | (refine Blk.new' ?_; simp; done) | (refine Blk.new' ?_; rfl) | refine Blk.alloc ?_ _ | refine Blk.drewN ?_ _ | refine Blk.drew ?_)) (fun W' hB => by obtain ⟨c0, c1⟩ := hB.c2; simp [results, Try.results13, go_sem, c0, c1])) rfl ?_
  have hbw : Below w.heap.size w ((w.alloc (.cells #[.float .f64 r, .slice (some ad) (n + 1) c] 32)).alloc (.cells #[.float .f64 r, .slice (some ad) (n + 1) c] 32)) := below_alloc_ (below_alloc_ (Below.refl _ _) _) _
  refine ⟨some ad, c, by rw [HN.out], ?_, hbw, fun a ha => .inl ha⟩
  unfold TkAt
  rw [HN.out]
  exact Reads.kp (S := fun _ => False) HR.out (.of_below hbw) (fun _ _ h => h)
/-- the place of the last Set ahead of a place; -1: there is none -/
def atI (L : List Tk) : Nat → Int
  | 0 => -1
  | k + 1 => if ((L[k]?.map Tk.s).getD false) = true then (k : Int) else atI L k
/-- the greatest floor ahead of a place -/
def flI (L : List Tk) : Nat → Int
  | 0 => 0
  | k + 1 => max (flI L k) ((L[k]?.map Tk.f).getD 0)
def RNow (w : World) (A : Option Addr) (r : Nat) (L : List Tk) (lo hi E : Int) (e' : Ending) (w' : World) : Prop := ∃ A' c', e' = .returned (.tuple #[.agg #[.float .f64 r, .slice A' L.length c'], .agg #[.int .i64 lo, .int .i64 hi], .int .i64 E]) ∧ TkAt w' A' L ∧ Below w.heap.size w w' ∧ ∀ a, A' = some a → A = some a ∨ w.heap.size ≤ a.block
set_option maxRecDepth 100000 in
set_option maxHeartbeats 1000000 in
theorem rnow_none (r : Nat) (A : Option Addr) (n c : Nat) (L : List Tk) (hh : Int) (w : World) (hn : L.length = n) (hr : TkAt w A L) (hm : n ≤ 100) (x0 : inT hh = true) (ha : atI L n < 0) :
    Calls Try.prog 15 #[.agg #[.float .f64 r, .slice A n c], .int .i64 hh] w (RNow w A r L 0 0 63) := by
  have X0 := Lib.hid x0
  have HN := Lib.hid hn
  have HR := Lib.hid (show Reads w w.heap.size 5 A n (L.flatMap Tk.cells) by rw [← hn]; exact hr)
  clear x0 hr hn
  go_enter Try.func15, Try.ntmps15
  go_wp2_with (go_at_call 24; refine (rtime_any _ _).mono ?_; rintro e w1 ⟨rfl, rfl⟩; first | rw [X0.out])
  go_loop [8, 9, 10] (fun sa sf si => ∃ k : Nat, k ≤ n ∧ si = .int .i64 k ∧ sa = .int .i64 (atI L k) ∧ sf = .int .i64 (flI L k)) (fun _ _ si => n - (intOf si).toNat)
  case atStart => exact ⟨0, Nat.zero_le _, rfl, rfl, rfl⟩
  case round =>
    obtain ⟨k, hk, rfl, rfl, rfl⟩ := hrel
    by_cases hlt : k < n
    · obtain ⟨ad, hA, hadb, hcell⟩ := HR.out.2 (by omega)
      subst hA
      have hkl : k < L.length := by rw [HN.out]; exact hlt
      have q := fun j (hj : j < 5) => (hcell (k * 5 + j) _ ((flatMap_at L Tk.cells 5 (fun _ => rfl) k j hkl hj).trans (List.getElem?_eq_getElem (by exact hj))))
      have q1 := q 1 (by omega); have q4 := q 4 (by omega); have q0 := q 0 (by omega)
      have e1 : atI L (k + 1) = if ((L[k]?.map Tk.s).getD false) = true then (k : Int) else atI L k := rfl
      have e2 : flI L (k + 1) = max (flI L k) ((L[k]?.map Tk.f).getD 0) := rfl
      rw [List.getElem?_eq_getElem hkl] at e1 e2
      simp only [Option.map_some, Option.getD_some] at e1 e2
      simp only [Tk.cells, List.getElem_cons_zero, List.getElem_cons_succ, Nat.add_zero] at q0 q1 q4
      generalize L[k] = x at *
      obtain ⟨xh, xs, xt, xe, xf⟩ := x
      simp only at q0 q1 q4 e1 e2
      replace q1 := cell_in _ 1 (by omega) q1; replace q4 := cell_in _ 4 (by omega) q4
      have hbl := World.block_lt_of_cell? w _ q0
      have hbl1 : (ad.add (k * 5)).block < w.heap.size + 1 := by omega
      have hbl2 : (ad.add (k * 5)).block < w.heap.size + 1 + 1 := by omega
      have hbl3 : (ad.add (k * 5)).block < w.heap.size + 1 + 1 + 1 := by omega
      obtain ⟨F, hF⟩ : ∃ F, flI L k = F := ⟨_, rfl⟩
      obtain ⟨G, hG⟩ : ∃ G, atI L k = G := ⟨_, rfl⟩
      rw [hF] at e2; rw [hG] at e1
      have E1 := Lib.hid e1; have E2 := Lib.hid e2
      rw [hF, hG]
      clear q q0 hcell e1 e2 hF hG
      cases xs
      all_goals
        rcases (show F < xf ∨ xf ≤ F by omega) with hf | hf
        all_goals
          go_wp2_with fail
          go_round
          case rel => exact ⟨k + 1, by omega, by go_num, by rw [E1.out]; rfl, by rw [E2.out]; first | rw [Int.max_eq_right (Int.le_of_lt hf)] | rw [Int.max_eq_left hf]⟩
          case measure => simp [intOf]; omega
    · obtain rfl : k = n := by omega
      go_wp2_with fail
      go_region
      all_goals go_wp2_with fail
      all_goals
        refine bodyPost_ret (v := .tuple #[.agg #[.float .f64 r, .slice A k c], .agg #[.int .i64 0, .int .i64 0], .int .i64 63]) (by simp [results, Try.results15, go_sem]) rfl ?_
        have hbw : Below w.heap.size w (((((w.alloc (.cells #[.float .f64 r, .slice A k c] 32)).alloc (.cells #[.float .f64 r, .slice A k c] 32)).alloc (.cells #[.int .i64 0, .int .i64 0] 39)).alloc (.cells #[.int .i64 0, .int .i64 0] 39)).drew) := Below.drew (below_alloc_ (below_alloc_ (below_alloc_ (below_alloc_ (Below.refl _ _) _) _) _) _)
        refine ⟨A, c, by rw [HN.out], ?_, hbw, fun a ha => .inl ha⟩
        unfold TkAt
        rw [HN.out]
        exact Reads.kp (S := fun _ => False) HR.out (.of_below hbw) (fun _ _ h => h)
set_option maxRecDepth 100000 in
set_option maxHeartbeats 1000000 in
theorem rnow_time (r : Nat) (A : Option Addr) (n c : Nat) (L : List Tk) (hh : Int) (w : World) (hn : L.length = n) (hr : TkAt w A L) (x0 : inT hh = false) :
    Calls Try.prog 15 #[.agg #[.float .f64 r, .slice A n c], .int .i64 hh] w (RNow w A r L 0 0 61) := by
  have X0 := Lib.hid x0
  have HN := Lib.hid hn
  have HR := Lib.hid (show Reads w w.heap.size 5 A n (L.flatMap Tk.cells) by rw [← hn]; exact hr)
  clear x0 hr hn
  go_enter Try.func15, Try.ntmps15
  go_wp2_with (go_at_call 24; refine (rtime_any _ _).mono ?_; rintro e w1 ⟨rfl, rfl⟩; first | rw [X0.out])
  go_region
  all_goals go_wp2_with fail
  all_goals
    refine bodyPost_ret (v := .tuple #[.agg #[.float .f64 r, .slice A n c], .agg #[.int .i64 0, .int .i64 0], .int .i64 61]) (by simp [results, Try.results15, go_sem]) rfl ?_
    have hbw : Below w.heap.size w (((((w.alloc (.cells #[.float .f64 r, .slice A n c] 32)).alloc (.cells #[.float .f64 r, .slice A n c] 32)).alloc (.cells #[.int .i64 0, .int .i64 0] 39)).alloc (.cells #[.int .i64 0, .int .i64 0] 39)).drew) := Below.drew (below_alloc_ (below_alloc_ (below_alloc_ (below_alloc_ (Below.refl _ _) _) _) _) _)
    refine ⟨A, c, by rw [HN.out], ?_, hbw, fun a ha => .inl ha⟩
    unfold TkAt
    rw [HN.out]
    exact Reads.kp (S := fun _ => False) HR.out (.of_below hbw) (fun _ _ h => h)
set_option maxRecDepth 100000 in
set_option maxHeartbeats 1000000 in
theorem rnow_back (r : Nat) (A : Option Addr) (m c : Nat) (L : List Tk) (x : Tk) (hx : L[m]? = some x) (hh : Int) (hl : hh < x.h) (w : World) (hn : L.length = m + 1) (hr : TkAt w A L) (hm : m + 1 ≤ 100) (x0 : inT hh = true) (a : Nat) (ha : atI L (m + 1) = a) :
    Calls Try.prog 15 #[.agg #[.float .f64 r, .slice A (m + 1) c], .int .i64 hh] w (RNow w A r L 0 0 62) := by
  have X0 := Lib.hid x0
  have HN := Lib.hid hn
  have HR := Lib.hid (show Reads w w.heap.size 5 A (m + 1) (L.flatMap Tk.cells) by rw [← hn]; exact hr)
  have HA := Lib.hid ha; have HXX := Lib.hid hx
  clear x0 hr hn ha hx
  go_enter Try.func15, Try.ntmps15
  go_wp2_with (go_at_call 24; refine (rtime_any _ _).mono ?_; rintro e w1 ⟨rfl, rfl⟩; first | rw [X0.out])
  go_loop [8, 9, 10] (fun sa sf si => ∃ k : Nat, k ≤ m + 1 ∧ si = .int .i64 k ∧ sa = .int .i64 (atI L k) ∧ sf = .int .i64 (flI L k)) (fun _ _ si => m + 1 - (intOf si).toNat)
  case atStart => exact ⟨0, Nat.zero_le _, rfl, rfl, rfl⟩
  case round =>
    obtain ⟨k, hk, rfl, rfl, rfl⟩ := hrel
    by_cases hlt : k < m + 1
    · obtain ⟨ad, hA, hadb, hcell⟩ := HR.out.2 (by omega)
      subst hA
      have hkl : k < L.length := by rw [HN.out]; exact hlt
      have q := fun j (hj : j < 5) => (hcell (k * 5 + j) _ ((flatMap_at L Tk.cells 5 (fun _ => rfl) k j hkl hj).trans (List.getElem?_eq_getElem (by exact hj))))
      have q1 := q 1 (by omega); have q4 := q 4 (by omega); have q0 := q 0 (by omega)
      have e1 : atI L (k + 1) = if ((L[k]?.map Tk.s).getD false) = true then (k : Int) else atI L k := rfl
      have e2 : flI L (k + 1) = max (flI L k) ((L[k]?.map Tk.f).getD 0) := rfl
      rw [List.getElem?_eq_getElem hkl] at e1 e2
      simp only [Option.map_some, Option.getD_some] at e1 e2
      simp only [Tk.cells, List.getElem_cons_zero, List.getElem_cons_succ, Nat.add_zero] at q0 q1 q4
      generalize L[k] = x at *
      obtain ⟨xh, xs, xt, xe, xf⟩ := x
      simp only at q0 q1 q4 e1 e2
      replace q1 := cell_in _ 1 (by omega) q1; replace q4 := cell_in _ 4 (by omega) q4
      have hbl := World.block_lt_of_cell? w _ q0
      have hbl1 : (ad.add (k * 5)).block < w.heap.size + 1 := by omega
      have hbl2 : (ad.add (k * 5)).block < w.heap.size + 1 + 1 := by omega
      have hbl3 : (ad.add (k * 5)).block < w.heap.size + 1 + 1 + 1 := by omega
      obtain ⟨F, hF⟩ : ∃ F, flI L k = F := ⟨_, rfl⟩
      obtain ⟨G, hG⟩ : ∃ G, atI L k = G := ⟨_, rfl⟩
      rw [hF] at e2; rw [hG] at e1
      have E1 := Lib.hid e1; have E2 := Lib.hid e2
      rw [hF, hG]
      clear q q0 hcell e1 e2 hF hG
      cases xs
      all_goals
        rcases (show F < xf ∨ xf ≤ F by omega) with hf | hf
        all_goals
          go_wp2_with fail
          go_round
          case rel => exact ⟨k + 1, by omega, by go_num, by rw [E1.out]; rfl, by rw [E2.out]; first | rw [Int.max_eq_right (Int.le_of_lt hf)] | rw [Int.max_eq_left hf]⟩
          case measure => simp [intOf]; omega
    · obtain rfl : k = m + 1 := by omega
      rw [HA.out]
      have ha0 : decide ((a : Int) < 0) = false := by simp
      obtain ⟨ad, rfl, hadb, hcell⟩ := HR.out.2 (by omega)
      have hml : m < L.length := by rw [HN.out]; omega
      have q0 := hcell (m * 5 + 0) _ ((flatMap_at L Tk.cells 5 (fun _ => rfl) m 0 hml (show 0 < 5 by decide)).trans (List.getElem?_eq_getElem (show 0 < 5 by decide)))
      have hxe : L[m] = x := by have := HXX.out; rw [List.getElem?_eq_getElem hml] at this; injection this
      simp only [Tk.cells, List.getElem_cons_zero, hxe, Nat.add_zero] at q0
      have hbl := World.block_lt_of_cell? w _ q0
      have hbl1 : (ad.add (m * 5)).block < w.heap.size + 1 := by omega
      have hbl2 : (ad.add (m * 5)).block < w.heap.size + 1 + 1 := by omega
      have hbl3 : (ad.add (m * 5)).block < w.heap.size + 1 + 1 + 1 := by omega
      have hd1 : decide (hh < x.h) = true := by simp; omega
      clear hcell hxe hml
      go_wp2_with fail
      go_region
      all_goals go_wp2_with fail
      all_goals
        refine bodyPost_ret (v := .tuple #[.agg #[.float .f64 r, .slice (some ad) (m + 1) c], .agg #[.int .i64 0, .int .i64 0], .int .i64 62]) (by simp [results, Try.results15, go_sem]) rfl ?_
        have hbw : Below w.heap.size w (((((w.alloc (.cells #[.float .f64 r, .slice (some ad) (m + 1) c] 32)).alloc (.cells #[.float .f64 r, .slice (some ad) (m + 1) c] 32)).alloc (.cells #[.int .i64 0, .int .i64 0] 39)).alloc (.cells #[.int .i64 0, .int .i64 0] 39)).drew) := Below.drew (below_alloc_ (below_alloc_ (below_alloc_ (below_alloc_ (Below.refl _ _) _) _) _) _)
        refine ⟨some ad, c, by rw [HN.out], ?_, hbw, fun a ha => .inl ha⟩
        unfold TkAt
        rw [HN.out]
        exact Reads.kp (S := fun _ => False) HR.out (.of_below hbw) (fun _ _ h => h)
end Go.Proofs.Ytdemonageoagiaa
