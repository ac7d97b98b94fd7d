/- Leases: the contracts of a holder. -/
import Derived.Test.YtajojpfenlafbaaLsA
import Derived.Test.YtajojpfenlafbaaLsS
import Derived.Deep.RegionHeld3
import Derived.Deep.RegionWith
import Derived.Deep.RegionLaw
set_option linter.unusedSimpArgs false
set_option linter.unusedVariables false
namespace Go.Proofs.Ytajojpfenlafbaa
open Go.RowKit Mo
attribute [local go_sem ↓] Go.wp_at_zero Go.wp_at_succ
theorem check_t {lo hi : Int} (w : World) (h : isS lo hi = true) : Calls Try.prog 28 #[.agg #[.int .i64 lo, .int .i64 hi]] w fun e w' => e = .returned (.int .i64 0) ∧ w' = w.alloc (.cells #[.int .i64 lo, .int .i64 hi] 33) := by
  have := check_any lo hi w
  rw [h] at this
  exact this
theorem check_f {lo hi : Int} (w : World) (h : isS lo hi = false) : Calls Try.prog 28 #[.agg #[.int .i64 lo, .int .i64 hi]] w fun e w' => e = .returned (.int .i64 50) ∧ w' = w.alloc (.cells #[.int .i64 lo, .int .i64 hi] 33) := by
  have := check_any lo hi w
  rw [h] at this
  exact this
def hcells (n : Nat) (us : List Int) : Array Value := ((Value.int .i64 n) :: us.map (Value.int .i64)).toArray
theorem len5 {us : List Int} (h : us.length = 5) : ∃ a b c d e, us = [a, b, c, d, e] := by
  match us, h with
  | [a, b, c, d, e], _ => exact ⟨a, b, c, d, e, rfl⟩
theorem newHolder_ok (n : Nat) (w : World) (h1 : 1 ≤ n) (h2 : n ≤ 5) : Calls Try.prog 8 #[.int .i64 n] w fun e w' => e = .returned (.tuple #[.pointer (some ⟨w.heap.size, 0, none⟩), .int .i64 0]) ∧ w.alloc (.cells (hcells n [0, 0, 0, 0, 0]) 72) = w' := by
  rcases (show n = 1 ∨ n = 2 ∨ n = 3 ∨ n = 4 ∨ n = 5 by omega) with rfl | rfl | rfl | rfl | rfl
  all_goals
    go_enter Try.func8, Try.ntmps8
    go_wp2
    go_ret2
    exact ⟨rfl, rfl⟩
theorem newHolder_bad (n : Int) (w : World) (h : n < 1 ∨ 5 < n) : Calls Try.prog 8 #[.int .i64 n] w fun e w' => e = .returned (.tuple #[.pointer none, .int .i64 242]) ∧ w = w' := by
  rcases (show n < 1 ∨ (1 ≤ n ∧ 5 < n) by omega) with h | ⟨h, h'⟩
  all_goals
    go_enter Try.func8, Try.ntmps8
    go_wp2
    go_ret2
    exact ⟨rfl, rfl⟩
/-- up to when more than half granted -/
def unt (n : Nat) (us : List Int) : Int := (srt us n).getD ((n - 1) / 2) 0
set_option maxHeartbeats 1000000 in
theorem until_any (g n : Nat) (us : List Int) (w : World) (hl : us.length = 5) (h1 : 1 ≤ n) (h2 : n ≤ 5) (hs : Blk w g 72 (hcells n us)) :
    Calls Try.prog 14 #[.pointer (some ⟨g, 0, none⟩)] w fun e w' => e = .returned (.int .i64 (unt n us)) ∧ Below w.heap.size w w' := by
  obtain ⟨a, b, c, d, f, rfl⟩ := len5 hl
  have q0 := hs.cell 0; have q1 := hs.cell 1; have q2 := hs.cell 2; have q3 := hs.cell 3; have q4 := hs.cell 4; have q5 := hs.cell 5
  have hg := hs.lt
  simp [hcells] at q0 q1 q2 q3 q4 q5
  have HS := Lib.hid hs
  clear hs
  obtain ⟨U, hU⟩ : ∃ U, unt n [a, b, c, d, f] = U := ⟨_, rfl⟩
  rw [hU]
  unfold unt at hU
  obtain ⟨v, hv⟩ : ∃ v, srt [a, b, c, d, f] n = v := ⟨_, rfl⟩
  have hvl : v.length = 5 := by rw [← hv, srt_len]; rfl
  rw [hv] at hU
  have HV := Lib.hid hv; have HU := Lib.hid hU
  clear hU hv
  rcases (show n = 1 ∨ n = 2 ∨ n = 3 ∨ n = 4 ∨ n = 5 by omega) with rfl | rfl | rfl | rfl | rfl
  all_goals
    go_enter Try.func14, Try.ntmps14
    go_wp2_with fail
    refine (sort_any w.heap.size 47 [a, b, c, d, f] _ 5 _ (Blk.new w _ _) (by simp) (by simp) (by omega)).mono ?_
    rintro e w1 ⟨rfl, hb1, hk1⟩
    rw [HV.out] at hb1
    have G1 := Lib.hid ((HS.out.alloc _).keeps hk1 (by exact Nat.ne_of_lt hg))
    have p0 := G1.out.cell 0
    simp [hcells] at p0
    have pl := G1.out.lt
    have hB : Hid (Below w.heap.size w w1) := Lib.hid (below_kp (below_alloc_ (Below.refl _ _) _) hk1 (Nat.le_refl _))
    have r0 := arr_at hb1 0 (by omega); have r1 := arr_at hb1 1 (by omega); have r2 := arr_at hb1 2 (by omega)
    have bl := hb1.lt
    clear hb1 hk1 q0 q1 q2 q3 q4 q5
    have HU2 := HU.out
    simp only [Nat.reduceSub, Nat.reduceDiv] at HU2
    first | rw [HU2] at r0 | rw [HU2] at r1 | rw [HU2] at r2
    clear HU2
    go_wp2_with fail
    go_ret
    exact ⟨rfl, hB.out⟩
set_option maxHeartbeats 1000000 in
theorem heard_ok (g n v : Nat) (us : List Int) (x : Int) (w : World) (hl : us.length = 5) (h1 : v < n) (h2 : n ≤ 5) (hx0 : 0 ≤ x) (hx1 : x ≤ 1125899906842624) (hs : Blk w g 72 (hcells n us)) :
    Calls Try.prog 11 #[.pointer (some ⟨g, 0, none⟩), .int .i64 v, .int .i64 x] w fun e w' => e = .returned (.int .i64 0) ∧ Blk w' g 72 (hcells n (us.set v (max (us.getD v 0) x))) ∧ Keeps (· = g) w w' := by
  obtain ⟨a, b, c, d, f, rfl⟩ := len5 hl
  have q0 := hs.cell 0; have q1 := hs.cell 1; have q2 := hs.cell 2; have q3 := hs.cell 3; have q4 := hs.cell 4; have q5 := hs.cell 5
  have hg := hs.lt
  have f1 := hs.frozen 1; have f2 := hs.frozen 2; have f3 := hs.frozen 3; have f4 := hs.frozen 4; have f5 := hs.frozen 5
  simp [hcells] at q0 q1 q2 q3 q4 q5
  have HS := Lib.hid hs
  clear hs
  have hd : decide ((n : Int) ≤ (v : Int)) = false := by simp; omega
  have hd2 : decide (n ≤ v) = false := by simp; omega
  have hd3 : decide (x < 0) = false := by simp; omega
  have hd4 : decide (1125899906842624 < x) = false := by simp; omega
  have hd5 : decide (n = 0) = false := by simp; omega
  rcases (show v = 0 ∨ v = 1 ∨ v = 2 ∨ v = 3 ∨ v = 4 by omega) with rfl | rfl | rfl | rfl | rfl
  all_goals
    first | rw [show ((0 : Nat) : Int) = 0 from rfl] at * | rw [show ((1 : Nat) : Int) = 1 from rfl] at * | rw [show ((2 : Nat) : Int) = 2 from rfl] at * | rw [show ((3 : Nat) : Int) = 3 from rfl] at * | rw [show ((4 : Nat) : Int) = 4 from rfl] at *
    go_enter Try.func11, Try.ntmps11
    go_wp2_with fail
    go_region
    all_goals
      go_wp2_with fail
      go_ret
      exact ⟨rfl, blk_upd HS.out.drew rfl, Keeps.set_ (S := (· = g)) (Keeps.refl _ _).drew (Or.inl rfl) _⟩
theorem heard_bad (g n : Nat) (v : Int) (us : List Int) (x : Int) (w : World) (h : v < 0 ∨ (n : Int) ≤ v) (hn : n ≤ 5) (hs : Blk w g 72 (hcells n us)) :
    Calls Try.prog 11 #[.pointer (some ⟨g, 0, none⟩), .int .i64 v, .int .i64 x] w fun e w' => e = .returned (.int .i64 242) ∧ w = w' := by
  have q0 := hs.cell 0
  have hg := hs.lt
  simp [hcells] at q0
  clear hs
  rcases (show v < 0 ∨ (0 ≤ v ∧ (n : Int) ≤ v) by omega) with h | ⟨h, h'⟩
  · have hd : decide (v < 0) = true := by simp; omega
    go_enter Try.func11, Try.ntmps11
    go_wp2_with fail
    go_ret
    exact ⟨rfl, rfl⟩
  · have hd : decide (v < 0) = false := by simp; omega
    have hd2 : decide ((n : Int) ≤ v) = true := by simp; omega
    go_enter Try.func11, Try.ntmps11
    go_wp2_with fail
    go_ret
    exact ⟨rfl, rfl⟩
theorem heard_late (g n v : Nat) (us : List Int) (x : Int) (w : World) (hv : v < n) (hn : n ≤ 5) (h : x < 0 ∨ 1125899906842624 < x) (hs : Blk w g 72 (hcells n us)) :
    Calls Try.prog 11 #[.pointer (some ⟨g, 0, none⟩), .int .i64 v, .int .i64 x] w fun e w' => e = .returned (.int .i64 240) ∧ w = w' := by
  have q0 := hs.cell 0
  have hg := hs.lt
  simp [hcells] at q0
  clear hs
  have hd1 : decide ((n : Int) ≤ (v : Int)) = false := by simp; omega
  have hd2 : decide (n ≤ v) = false := by simp; omega
  rcases (show x < 0 ∨ (0 ≤ x ∧ 1125899906842624 < x) by omega) with h | ⟨h, h'⟩
  · have hd : decide (x < 0) = true := by simp; omega
    go_enter Try.func11, Try.ntmps11
    go_wp2_with fail
    go_ret
    exact ⟨rfl, rfl⟩
  · have hd : decide (x < 0) = false := by simp; omega
    have hd3 : decide (1125899906842624 < x) = true := by simp; omega
    go_enter Try.func11, Try.ntmps11
    go_wp2_with fail
    go_ret
    exact ⟨rfl, rfl⟩
set_option maxHeartbeats 1000000 in
theorem holds_any (g n : Nat) (us : List Int) (lo hi : Int) (w : World) (hl : us.length = 5) (h1 : 1 ≤ n) (h2 : n ≤ 5) (hs : Blk w g 72 (hcells n us)) :
    Calls Try.prog 16 #[.pointer (some ⟨g, 0, none⟩), .agg #[.int .i64 lo, .int .i64 hi]] w fun e w' => e = .returned (.bool (isS lo hi && decide (hi < unt n us))) ∧ Below w.heap.size w w' := by
  cases h : isS lo hi
  · have HS := Lib.hid h
    clear h hs
    rw [Bool.false_and]
    go_enter Try.func16, Try.ntmps16
    go_wp2_with fail
    first | (go_region_with (go_at_call 28; refine (check_f _ HS.out).mono ?_; rintro e w1 ⟨rfl, rfl⟩)) | fail
    all_goals
      go_wp2_with fail
      go_ret
      exact ⟨rfl, by repeat (first | exact Hid.out (by assumption) | exact Below.refl _ _ | refine below_alloc_ ?_ _ | refine below_drewN_ ?_ _ | refine Below.drew ?_ | refine below_set_ ?_ (by first | exact Nat.le_refl _ | (simp; done) | (simp; omega)) _)⟩
  · have HS := Lib.hid h
    have HG := Lib.hid hs
    have BX := Lib.hid (Blk.new w 33 #[.int .i64 lo, .int .i64 hi])
    obtain ⟨U, hU⟩ : ∃ U, unt n us = U := ⟨_, rfl⟩
    rw [hU, Bool.true_and]
    have HU := Lib.hid hU
    have HL := Lib.hid hl
    clear h hs hU hl
    go_enter Try.func16, Try.ntmps16
    go_wp2_with fail
    go_region_held3 (fun w' => w'.cell? ⟨w.heap.size, 0, none⟩ = some (.int .i64 lo) ∧ w'.cell? ⟨w.heap.size, 1, none⟩ = some (.int .i64 hi)) (first | exact ⟨b0, b1⟩ | go_keep) (first
      | (go_at_call 28; refine (check_t _ HS.out).mono ?_; rintro e w1 ⟨rfl, rfl⟩)
      | (go_at_call 14; refine (until_any g n us _ HL.out h1 h2 (by repeat (first | with_reducible exact HG.out | with_reducible refine Blk.alloc ?_ _ | with_reducible refine Blk.drew ?_))).mono ?_; rintro e w1 ⟨rfl, hb⟩; rw [HU.out]; have B1 := Lib.hid (Blk.below (g := w.heap.size) (t := 33) (cs := #[.int .i64 lo, .int .i64 hi]) (by repeat (first | with_reducible exact BX.out | with_reducible refine Blk.alloc ?_ _ | with_reducible refine Blk.drew ?_)) hb (by simp <;> omega)); have W1 : Hid (Below w.heap.size w w1) := Lib.hid (below_then (w := w) (by repeat (first | exact Below.refl _ _ | refine below_alloc_ ?_ _ | refine Below.drew ?_)) hb); clear hb; obtain ⟨b0, b1⟩ := B1.out.c2))
    all_goals
      go_wp2_with fail
      go_ret
      exact ⟨rfl, by first | exact W1.out | exact Below.drew W1.out⟩
end Go.Proofs.Ytajojpfenlafbaa
