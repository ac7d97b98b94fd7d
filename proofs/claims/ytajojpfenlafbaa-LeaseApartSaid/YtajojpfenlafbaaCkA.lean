/- The clock: what it is, in plain words, and the contracts of clock.New and Set. -/
import Derived.Test.YtajojpfenlafbaaSpc
import Derived.Test.YtajojpfenlafbaaWordB
import Derived.Test.YtajojpfenlafbaaStampI
import Derived.RegionTactic
import Derived.ChangeAlike
set_option linter.unusedSimpArgs false
set_option linter.unusedVariables false
namespace Go.Proofs.Ytajojpfenlafbaa
open Go.RowKit Mo
/-- a clock's fields -/
structure Ck where
  bh : Int
  bt : Int
  be : Int
  st : Bool
  rt : Nat
  la : Int
  fl : Int
def Ck.cells (c : Ck) : Array Value := #[.int .i64 c.bh, .int .i64 c.bt, .int .i64 c.be, .bool c.st, .float .f64 c.rt, .int .i64 c.la, .int .i64 c.fl]
/-- may a clock have a rate? -/
def rate6 (b : Nat) : Bool := decide (b ≤ 4576918229304087675) || decide (b = 9223372036854775808)
theorem rate6_ok {b : Nat} (h : rate6 b = true) : rateOk b = true := by unfold rate6 at h; unfold rateOk; simp at h ⊢; omega
theorem rate6_cls (b : Nat) (hb : b < 18446744073709551616) : (rate6 b = true ∧ 3 ≤ cls b ∧ (FloatKind.f64.format.order b 4576918229304087675 == some Ordering.gt) = false) ∨ (rate6 b = false ∧ cls b < 3) ∨ (rate6 b = false ∧ 3 ≤ cls b ∧ (FloatKind.f64.format.order b 4576918229304087675 == some Ordering.gt) = true) := by
  have e1 : isNaN 4576918229304087675 = false := by decide
  have e2 : ikey 4576918229304087675 = 4576918229304087675 := by decide
  rw [f_gt hb (by decide), e1, e2]
  unfold rate6 cls ikey isNaN isNeg rung
  by_cases h : b < 9223372036854775808
  · have h2 : b % 9223372036854775808 = b := by omega
    rw [h2]
    have h3 : ¬ 9223372036854775808 ≤ b := by omega
    simp only [h3, decide_false, if_false, Bool.false_eq_true]
    rcases (show b ≤ 4576918229304087675 ∨ (4576918229304087675 < b ∧ b ≤ 9218868437227405312) ∨ 9218868437227405312 < b by omega) with g | ⟨g, g'⟩ | g
    · left; simp [g]; (try split) <;> (try omega) <;> (try split) <;> omega
    · right; right; simp; refine ⟨by omega, ?_, by omega, by omega⟩; (try split) <;> (try omega) <;> (try split) <;> (try omega) <;> (try split) <;> omega
    · right; left; simp; refine ⟨by omega, ?_⟩; rw [if_pos (by omega)]; decide
  · have h2 : b % 9223372036854775808 = b - 9223372036854775808 := by omega
    rw [h2]
    have h3 : 9223372036854775808 ≤ b := by omega
    simp only [h3, decide_true, if_true]
    rcases (show b = 9223372036854775808 ∨ 9223372036854775808 < b by omega) with g | g
    · subst g; left; decide
    · right; left; simp; refine ⟨by omega, ?_⟩; (try split) <;> (try omega) <;> (try split) <;> omega
def inT (n : Int) : Bool := decide (0 ≤ n) && decide (n ≤ 1125899906842624)
theorem inT_iff {n : Int} : inT n = true ↔ 0 ≤ n ∧ n ≤ 1125899906842624 := by unfold inT; simp
theorem inT_not {n : Int} : inT n = false ↔ n < 0 ∨ 1125899906842624 < n := by rw [← Bool.not_eq_true, inT_iff]; omega
structure Ck.ok (c : Ck) : Prop where
  h0 : 0 ≤ c.bh
  h1 : c.bh ≤ c.la
  h2 : c.la ≤ 1125899906842624
  t0 : 0 ≤ c.bt
  t1 : c.bt ≤ 1125899906842624
  e0 : 0 ≤ c.be
  e1 : c.be ≤ 1125899906842624
  f0 : 0 ≤ c.fl
  f1 : c.fl ≤ 1125899906842624
  r : rate6 c.rt = true
def ckNew (r : Nat) : Ck := ⟨0, 0, 0, false, r, 0, 0⟩
theorem ckNew_ok {r : Nat} (h : rate6 r = true) : (ckNew r).ok := by constructor <;> first | exact h | (simp [ckNew]) | decide
def ckSetE (c : Ck) (h t e : Int) : Int := if (inT h && inT t && inT e) = true then (if h < c.la then 62 else 0) else 61
def ckSet (c : Ck) (h t e : Int) : Ck := if ckSetE c h t e = 0 then ⟨h, t, e, true, c.rt, h, c.fl⟩ else c
def ckNowE (c : Ck) (h : Int) : Int := if inT h = true then (if c.st = true then (if h < c.la then 62 else if 1125899906842624 < c.bt + (h - c.bh) then 64 else 0) else 63) else 61
def ckD (c : Ck) (h : Int) : Int := (driftBy (h - c.bh) c.rt : Nat)
def ckLo (c : Ck) (h : Int) : Int := if ckNowE c h = 0 then max (max (max (c.bt + (h - c.bh) - c.be) 0 - ckD c h) 0) c.fl else 0
def ckHi (c : Ck) (h : Int) : Int := if ckNowE c h = 0 then max (min (min (c.bt + (h - c.bh) + c.be) 1125899906842624 + ckD c h) 1125899906842624) (ckLo c h) else 0
def ckNow (c : Ck) (h : Int) : Ck := if ckNowE c h = 0 then ⟨c.bh, c.bt, c.be, c.st, c.rt, h, ckLo c h⟩ else c
theorem ckSet_ok {c : Ck} (k : c.ok) (h t e : Int) : (ckSet c h t e).ok := by
  unfold ckSet
  split
  · rename_i g
    unfold ckSetE at g
    split at g
    · rename_i g2
      simp only [Bool.and_eq_true, inT_iff] at g2
      split at g
      · cases g
      · have := k.h2
        exact ⟨by simp; omega, by simp, by simp; omega, by simp; omega, by simp; omega, by simp; omega, by simp; omega, k.f0, k.f1, k.r⟩
    · cases g
  · exact k
theorem ckNow_ok {c : Ck} (k : c.ok) (h : Int) : (ckNow c h).ok := by
  unfold ckNow
  split
  · rename_i g
    have hl : ckLo c h ≤ 1125899906842624 ∧ 0 ≤ ckLo c h := by
      unfold ckLo
      rw [if_pos g]
      have := k.t1; have := k.e0; have := k.f1; have := k.f0
      have hd : 0 ≤ ckD c h := by unfold ckD; omega
      unfold ckNowE at g
      split at g
      · split at g
        · split at g
          · cases g
          · split at g
            · cases g
            · omega
        · cases g
      · cases g
    unfold ckNowE at g
    split at g
    · rename_i g2
      have g2 := inT_iff.1 g2
      split at g
      · split at g
        · cases g
        · have := k.h1; have := k.h0
          exact ⟨k.h0, by simp; omega, by simp; omega, k.t0, k.t1, k.e0, k.e1, hl.2, hl.1, k.r⟩
      · cases g
    · cases g
  · exact k
theorem cnew_ok (r : Nat) (w : World) (hb : r < 18446744073709551616) (h : rate6 r = true) : Calls Try.prog 31 #[.float .f64 r] w fun e w' => e = .returned (.tuple #[.pointer (some ⟨w.heap.size, 0, none⟩), .int .i64 0]) ∧ w.alloc (.cells (ckNew r).cells 105) = w' := by
  rcases rate6_cls r hb with ⟨k1, k2, k3⟩ | ⟨k1, k2⟩ | ⟨k1, k2, k3⟩
  rotate_left
  · rw [k1] at h; cases h
  · rw [k1] at h; cases h
  obtain ⟨c, hc⟩ : ∃ c, cls r = c := ⟨_, rfl⟩
  have HC := Lib.hid hc
  rw [hc] at k2
  have hd : decide (c < 3) = false := by simp; omega
  clear hc h k1
  go_enter Try.func31, Try.ntmps31
  go_wp2_with (go_at_call 40; refine (class_any _ _ hb).mono ?_; rintro e w1 ⟨rfl, rfl⟩; rw [HC.out])
  go_ret2
  exact ⟨rfl, rfl⟩
theorem cnew_bad (r : Nat) (w : World) (hb : r < 18446744073709551616) (h : rate6 r = false) : Calls Try.prog 31 #[.float .f64 r] w fun e w' => e = .returned (.tuple #[.pointer none, .int .i64 60]) ∧ w = w' := by
  rcases rate6_cls r hb with ⟨k1, k2, k3⟩ | ⟨k1, k2⟩ | ⟨k1, k2, k3⟩
  · rw [k1] at h; cases h
  · obtain ⟨c, hc⟩ : ∃ c, cls r = c := ⟨_, rfl⟩
    have HC := Lib.hid hc
    rw [hc] at k2
    clear hc h k1
    go_enter Try.func31, Try.ntmps31
    go_wp2_with (go_at_call 40; refine (class_any _ _ hb).mono ?_; rintro e w1 ⟨rfl, rfl⟩; rw [HC.out])
    go_ret2
    exact ⟨rfl, rfl⟩
  · obtain ⟨c, hc⟩ : ∃ c, cls r = c := ⟨_, rfl⟩
    have HC := Lib.hid hc
    rw [hc] at k2
    have hd : decide (c < 3) = false := by simp; omega
    clear hc h k1
    go_enter Try.func31, Try.ntmps31
    go_wp2_with (go_at_call 40; refine (class_any _ _ hb).mono ?_; rintro e w1 ⟨rfl, rfl⟩; rw [HC.out])
    go_ret2
    exact ⟨rfl, rfl⟩
theorem cin_any (n : Int) (w : World) : Calls Try.prog 41 #[.int .i64 n] w fun e w' => e = .returned (.bool (inT n)) ∧ w = w' := by
  rcases (show n < 0 ∨ (0 ≤ n ∧ n ≤ 1125899906842624) ∨ (0 ≤ n ∧ 1125899906842624 < n) by omega) with h | ⟨h, h'⟩ | ⟨h, h'⟩
  · have e : inT n = false := inT_not.2 (by omega)
    rw [e]; clear e
    go_enter Try.func41, Try.ntmps41
    go_wp2
    go_ret
    exact ⟨rfl, rfl⟩
  · have e : inT n = true := inT_iff.2 (by omega)
    rw [e]; clear e
    go_enter Try.func41, Try.ntmps41
    go_wp2
    go_ret
    exact ⟨ret_bool (by first | rfl | (simp; done) | (simp; omega)), rfl⟩
  · have e : inT n = false := inT_not.2 (by omega)
    rw [e]; clear e
    go_enter Try.func41, Try.ntmps41
    go_wp2
    go_ret
    exact ⟨ret_bool (by first | rfl | (simp; done) | (simp; omega)), rfl⟩
set_option maxHeartbeats 1000000 in
theorem cset_any (g : Nat) (c : Ck) (hh t e : Int) (w : World) (hs : Blk w g 105 c.cells) :
    Calls Try.prog 32 #[.pointer (some ⟨g, 0, none⟩), .int .i64 hh, .int .i64 t, .int .i64 e] w fun e' w' =>
      e' = .returned (.int .i64 (ckSetE c hh t e)) ∧ Blk w' g 105 (ckSet c hh t e).cells ∧ Keeps (· = g) w w' := by
  obtain ⟨bh, bt, be, st, rt, la, fl⟩ := c
  have HS := Lib.hid hs
  unfold Ck.cells at hs
  simp only at hs
  obtain ⟨⟨q0, q1, q2, q3, q4, q5, q6⟩, hg⟩ := hs.c7
  have f0 := hs.frozen 0; have f1 := hs.frozen 1; have f2 := hs.frozen 2; have f3 := hs.frozen 3; have f5 := hs.frozen 5
  clear hs
  obtain ⟨E, hE⟩ : ∃ E, ckSetE ⟨bh, bt, be, st, rt, la, fl⟩ hh t e = E := ⟨_, rfl⟩
  unfold ckSet
  rw [hE]
  unfold ckSetE at hE
  obtain ⟨x, hx⟩ : ∃ x, inT hh = x := ⟨_, rfl⟩
  obtain ⟨y, hy⟩ : ∃ y, inT t = y := ⟨_, rfl⟩
  obtain ⟨z, hz⟩ : ∃ z, inT e = z := ⟨_, rfl⟩
  rw [hx, hy, hz] at hE
  have HX := Lib.hid hx; have HY := Lib.hid hy; have HZ := Lib.hid hz
  rcases (show x = false ∨ (x = true ∧ y = false) ∨ (x = true ∧ y = true ∧ z = false) ∨ (x = true ∧ y = true ∧ z = true) by cases x <;> cases y <;> cases z <;> simp) with rfl | ⟨rfl, rfl⟩ | ⟨rfl, rfl, rfl⟩ | ⟨rfl, rfl, rfl⟩
  · obtain rfl : E = 61 := by rw [← hE]; simp
    clear hE hx hy hz
    go_enter Try.func32, Try.ntmps32
    go_wp2_with (go_at_call 41; refine (cin_any _ _).mono ?_; rintro e w1 ⟨rfl, rfl⟩; first | rw [HX.out] | rw [HY.out] | rw [HZ.out])
    go_ret
    exact ⟨rfl, HS.out, Keeps.refl _ _⟩
  · obtain rfl : E = 61 := by rw [← hE]; simp
    clear hE hx hy hz
    go_enter Try.func32, Try.ntmps32
    go_wp2_with (go_at_call 41; refine (cin_any _ _).mono ?_; rintro e w1 ⟨rfl, rfl⟩; first | rw [HX.out] | rw [HY.out] | rw [HZ.out])
    go_ret
    exact ⟨rfl, HS.out, Keeps.refl _ _⟩
  · obtain rfl : E = 61 := by rw [← hE]; simp
    clear hE hx hy hz
    go_enter Try.func32, Try.ntmps32
    go_wp2_with (go_at_call 41; refine (cin_any _ _).mono ?_; rintro e w1 ⟨rfl, rfl⟩; first | rw [HX.out] | rw [HY.out] | rw [HZ.out])
    go_ret
    exact ⟨rfl, HS.out, Keeps.refl _ _⟩
  · obtain ⟨h0, h1⟩ := inT_iff.1 hx
    simp only [Bool.and_self, if_true] at hE
    by_cases hl : hh < la
    · obtain rfl : E = 62 := by rw [← hE, if_pos hl]
      clear hE hx hy hz
      go_enter Try.func32, Try.ntmps32
      go_wp2_with (go_at_call 41; refine (cin_any _ _).mono ?_; rintro e w1 ⟨rfl, rfl⟩; first | rw [HX.out] | rw [HY.out] | rw [HZ.out])
      go_ret
      exact ⟨rfl, HS.out, Keeps.refl _ _⟩
    · obtain rfl : E = 0 := by rw [← hE, if_neg hl]
      clear hE hx hy hz
      go_enter Try.func32, Try.ntmps32
      go_wp2_with (go_at_call 41; refine (cin_any _ _).mono ?_; rintro e w1 ⟨rfl, rfl⟩; first | rw [HX.out] | rw [HY.out] | rw [HZ.out])
      go_ret
      refine ⟨rfl, ?_, ?_⟩
      · exact blk_upd (blk_upd (blk_upd (blk_upd (blk_upd HS.out rfl) rfl) rfl) rfl) rfl
      · repeat (first | exact Keeps.refl _ _ | refine Keeps.set_ (S := (· = g)) ?_ (Or.inl rfl) _)
end Go.Proofs.Ytajojpfenlafbaa
