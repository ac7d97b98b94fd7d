/- The clock: the contract of Past, and the chapter's example. -/
import Derived.Test.YtdemonageoagiaaCkB
set_option linter.unusedSimpArgs false
set_option linter.unusedVariables false
namespace Go.Proofs.Ytdemonageoagiaa
open Go.RowKit Mo
set_option maxHeartbeats 1000000 in
theorem cpast_is {c c' : Ck} {E lo hi : Int} {p : Bool} (g : Nat) (t hh : Int) (w : World) (k : c.ok) (hs : Blk w g 77 c.cells) (e1 : ckNowE c hh = E) (e2 : ckLo c hh = lo) (e3 : ckHi c hh = hi) (e4 : ckNow c hh = c') (e5 : (decide (E = 0) && decide (t < lo)) = p) :
    Calls Try.prog 17 #[.pointer (some ⟨g, 0, none⟩), .int .i64 t, .int .i64 hh] w fun e' w' =>
      e' = .returned (.tuple #[.bool p, .int .i64 E]) ∧ Blk w' g 77 c'.cells ∧ Keeps (· = g) w w' := by
  have H := Lib.hid (cnow_is g hh w k hs e1 e2 e3 e4)
  have hg := hs.lt
  clear hs e1 e2 e3 e4 k
  by_cases h0 : E = 0
  · subst h0
    simp only [decide_true, Bool.true_and] at e5
    have H5 := Lib.hid e5
    clear e5
    go_enter Try.func17, Try.ntmps17
    go_wp2_with (go_at_call 16; refine H.out.mono ?_; rintro e w1 ⟨rfl, hb, hk⟩; have HB := Lib.hid hb; have HK := Lib.hid hk; clear hb hk)
    go_ret2
    exact ⟨by rw [H5.out]; rfl, HB.out.alloc _, HK.out.alloc _⟩
  · have h0' : (E == 0) = false := by simpa using h0
    rw [decide_eq_false h0] at e5
    simp only [Bool.false_and] at e5
    subst e5
    clear h0
    go_enter Try.func17, Try.ntmps17
    go_wp2_with (go_at_call 16; refine H.out.mono ?_; rintro e w1 ⟨rfl, hb, hk⟩; have HB := Lib.hid hb; have HK := Lib.hid hk; clear hb hk)
    go_ret2
    exact ⟨rfl, HB.out.alloc _, HK.out.alloc _⟩
theorem below_ks {w a b : World} (h : Below w.heap.size w a) (k : Keeps (· = w.heap.size) a b) : Below w.heap.size w b := below_kp h k (Nat.le_refl _)
def c6a : Ck := ⟨10, 1000, 3, true, 4576918229304087675, 10, 0⟩
def c6b : Ck := ⟨10, 1000, 3, true, 4576918229304087675, 10, 997⟩
def c6c : Ck := ⟨10, 1000, 3, true, 4576918229304087675, 110, 1095⟩
theorem c6_ok : (ckNew 4576918229304087675).ok ∧ c6a.ok ∧ c6b.ok ∧ c6c.ok := by
  refine ⟨ckNew_ok (by decide), ?_, ?_, ?_⟩ <;> (constructor <;> decide)
theorem c6_set : ckSetE (ckNew 4576918229304087675) 10 1000 3 = 0 ∧ ckSet (ckNew 4576918229304087675) 10 1000 3 = c6a := by
  have h : ckSetE (ckNew 4576918229304087675) 10 1000 3 = 0 := by decide
  exact ⟨h, by unfold ckSet; rw [if_pos h]; rfl⟩
theorem c6_now : ckNowE c6a 10 = 0 ∧ ckLo c6a 10 = 997 ∧ ckHi c6a 10 = 1003 ∧ ckNow c6a 10 = c6b := by
  have h : ckNowE c6a 10 = 0 := by decide
  have h2 : ckLo c6a 10 = 997 := by decide +kernel
  exact ⟨h, h2, by decide +kernel, by unfold ckNow; rw [if_pos h, h2]; rfl⟩
theorem c6_now2 : ckNowE c6b 110 = 0 ∧ ckLo c6b 110 = 1095 ∧ ckHi c6b 110 = 1105 ∧ ckNow c6b 110 = c6c := by
  have h : ckNowE c6b 110 = 0 := by decide
  have h2 : ckLo c6b 110 = 1095 := by decide +kernel
  exact ⟨h, h2, by decide +kernel, by unfold ckNow; rw [if_pos h, h2]; rfl⟩
theorem c6_now3 : ckNowE c6c 110 = 0 ∧ ckLo c6c 110 = 1095 ∧ ckHi c6c 110 = 1105 ∧ ckNow c6c 110 = c6c := by
  have h : ckNowE c6c 110 = 0 := by decide
  have h2 : ckLo c6c 110 = 1095 := by decide +kernel
  exact ⟨h, h2, by decide +kernel, by unfold ckNow; rw [if_pos h, h2]; rfl⟩
set_option maxHeartbeats 1000000 in
theorem awake06_any (w : World) : Calls Try.prog 11 #[] w fun e w' => e = .returned (.bool true) ∧ Below w.heap.size w w' := by
  obtain ⟨k0, k1, k2, k3⟩ := c6_ok
  have K1 := Lib.hid k1; have K2 := Lib.hid k2; have K3 := Lib.hid k3
  clear k0 k1 k2 k3
  go_enter Try.func11, Try.ntmps11
  go_wp2_with (go_at_call 10; refine (cnew_ok _ _ (by decide) (by decide)).mono ?_; rintro e w1 ⟨rfl, rfl⟩)
  refine (cset_is (c := ckNew 4576918229304087675) (c' := c6a) (E := 0) w.heap.size 10 1000 3 _ (Blk.new w _ _) c6_set.1 c6_set.2).mono ?_
  rintro e w2 ⟨rfl, hb2, hk2⟩
  have H2 := Lib.hid hb2
  have HB := Lib.hid (below_ks (w := w) (by repeat (first | exact Hid.out (by assumption) | exact Below.refl _ _ | refine below_alloc_ ?_ _ | refine below_drewN_ ?_ _ | refine Below.drew ?_ | refine below_set_ ?_ (by first | exact Nat.le_refl _ | (simp; done) | (simp; omega)) _)) hk2)
  clear hb2 hk2
  go_wp2_with fail
  refine (cnow_is w.heap.size 10 _ K1.out H2.out c6_now.1 c6_now.2.1 c6_now.2.2.1 c6_now.2.2.2).mono ?_
  rintro e w3 ⟨rfl, hb2, hk2⟩
  have H3 := Lib.hid hb2
  replace HB := Lib.hid (below_ks HB.out hk2)
  clear hb2 hk2
  go_wp2_with fail
  refine (cnow_is w.heap.size 110 _ K2.out (H3.out.alloc _) c6_now2.1 c6_now2.2.1 c6_now2.2.2.1 c6_now2.2.2.2).mono ?_
  rintro e w4 ⟨rfl, hb2, hk2⟩
  have A4 := Lib.hid ((Blk.new w3 39 #[.int .i64 997, .int .i64 1003]).keeps hk2 (Nat.ne_of_gt H3.out.lt))
  have H4 := Lib.hid hb2
  replace HB := Lib.hid (below_ks (below_alloc_ HB.out _) hk2)
  clear hb2 hk2
  go_wp2_with fail
  refine (cpast_is w.heap.size 1000 110 _ K3.out (H4.out.alloc _) c6_now3.1 c6_now3.2.1 c6_now3.2.2.1 c6_now3.2.2.2 (p := true) (by decide)).mono ?_
  rintro e w5 ⟨rfl, hb2, hk2⟩
  have A5 := Lib.hid ((A4.out.alloc _).keeps hk2 (Nat.ne_of_gt H3.out.lt))
  have B5 := Lib.hid ((Blk.new w4 39 #[.int .i64 1095, .int .i64 1105]).keeps hk2 (Nat.ne_of_gt H4.out.lt))
  replace HB := Lib.hid (below_ks (below_alloc_ HB.out _) hk2)
  clear hb2 hk2
  obtain ⟨a0, a1⟩ := A5.out.c2
  obtain ⟨b0, b1⟩ := B5.out.c2
  go_wp2_with fail
  go_ret
  exact ⟨rfl, by repeat (first | exact Hid.out (by assumption) | exact Below.refl _ _ | refine below_alloc_ ?_ _ | refine below_drewN_ ?_ _ | refine Below.drew ?_ | refine below_set_ ?_ (by first | exact Nat.le_refl _ | (simp; done) | (simp; omega)) _)⟩
end Go.Proofs.Ytdemonageoagiaa
