/- Joined: LgA, LgM, LgE, WordB, LgB, LgO. -/
import Derived.Test.YtjhhpcjnhjbpdaaGreatPN
import Derived.Test.YtjhhpcjnhjbpdaaGreatStampI
import Derived.Deep.QuietTactic
import Derived.BigQuiet
import Derived.LoopTactic
import Derived.Maps.OwnSet
import Derived.Maps.Views
import Derived.Maps.Ext
import Derived.Maps.RangeWalk
import Derived.WideKeyEntry
import Derived.Test.YtjhhpcjnhjbpdaaGreatWords
import Derived.WalkKit
import Derived.Lib.Hide
/- The amount package, as the ledger reaches it: Check, Total, Add, Rate, Fee. -/
set_option linter.unusedSimpArgs false
set_option linter.unusedVariables false
namespace Go.Proofs.YtjhhpcjnhjbpdaaGreat
open Go.RowKit Mo
def isA (n : Int) : Bool := decide (0 ≤ n) && decide (n ≤ 1000000000000000)
theorem isA_iff {n : Int} : isA n = true ↔ 0 ≤ n ∧ n ≤ 1000000000000000 := by unfold isA; simp
theorem isA_not {n : Int} : isA n = false ↔ n < 0 ∨ 1000000000000000 < n := by
  rw [← Bool.not_eq_true, isA_iff]; omega
def errA (b : Bool) : Int := if b then 0 else 40
set_option maxHeartbeats 400000 in
theorem acheck_any (n : Int) (w : World) : Calls Tryz.prog 34 #[.int .i64 n] w fun e w' => e = .returned (.int .i64 (errA (isA n))) ∧ w = w' := by
  rcases (show (n < 0) ∨ (0 ≤ n ∧ 1000000000000000 < n) ∨ (0 ≤ n ∧ n ≤ 1000000000000000) by omega) with h | ⟨h, h2⟩ | ⟨h, h2⟩
  · have e : isA n = false := isA_not.2 (by omega)
    rw [e]; clear e
    go_enter Tryz.func34, Tryz.ntmps34
    go_wp2
    go_ret
    exact ⟨rfl, rfl⟩
  · have e : isA n = false := isA_not.2 (by omega)
    rw [e]; clear e
    go_enter Tryz.func34, Tryz.ntmps34
    go_wp2
    go_ret
    exact ⟨rfl, rfl⟩
  · have e : isA n = true := isA_iff.2 ⟨h, h2⟩
    rw [e]; clear e
    have d1 : decide (1000000000000000 < n) = false := by simp; omega
    go_enter Tryz.func34, Tryz.ntmps34
    go_wp2
    go_ret
    exact ⟨rfl, rfl⟩
/-- what numbers come to -/
def sumA : List Int → Int | [] => 0 | x :: l => x + sumA l
theorem sumA_append (a b : List Int) : sumA (a ++ b) = sumA a + sumA b := by
  induction a with
  | nil => simp [sumA]
  | cons x a ih => simp only [List.cons_append, sumA, ih]; omega
theorem sumA_take (l : List Int) (k : Nat) (h : k < l.length) : sumA (l.take (k + 1)) = sumA (l.take k) + l[k] := by
  rw [List.take_succ_eq_append_getElem h, sumA_append]; simp [sumA]
theorem allA_take (l : List Int) (k : Nat) (h : k < l.length) : (l.take (k + 1)).all isA = ((l.take k).all isA && isA l[k]) := by
  rw [List.take_succ_eq_append_getElem h, List.all_append]; simp
theorem sumA_nonneg (l : List Int) (h : l.all isA = true) : 0 ≤ sumA l := by
  induction l with
  | nil => simp [sumA]
  | cons x l ih =>
    simp only [List.all_cons, Bool.and_eq_true] at h
    have h1 := isA_iff.1 h.1
    have h2 := ih h.2
    simp only [sumA]; omega
theorem sumA_le (l : List Int) (k : Nat) (h : l.all isA = true) : sumA (l.take k) ≤ sumA l := by
  have h1 := sumA_append (l.take k) (l.drop k)
  rw [List.take_append_drop] at h1
  have h2 := sumA_nonneg (l.drop k) (by
    rw [List.all_eq_true] at h ⊢
    exact fun x hx => h x (List.mem_of_mem_drop hx))
  omega
def totOk (l : List Int) : Bool := l.all isA && decide (sumA l ≤ 1000000000000000)
def totV (l : List Int) : Int := if totOk l then sumA l else 0
theorem tot_bad {l : List Int} (k : Nat) (hk : k < l.length) (h : isA l[k] = false) : totOk l = false ∧ totV l = 0 := by
  have h1 : l.all isA = false := by
    rw [← Bool.not_eq_true, List.all_eq_true]
    intro hh
    have := hh l[k] (List.getElem_mem hk)
    rw [h] at this; exact Bool.noConfusion this
  have h2 : totOk l = false := by unfold totOk; rw [h1]; rfl
  exact ⟨h2, by unfold totV; rw [h2]; rfl⟩
theorem tot_over {l : List Int} (k : Nat) (h : 1000000000000000 < sumA (l.take k)) : totOk l = false ∧ totV l = 0 := by
  have h2 : totOk l = false := by
    unfold totOk
    cases ha : l.all isA
    · rfl
    · have := sumA_le l k ha
      rw [Bool.true_and, decide_eq_false_iff_not]; omega
  exact ⟨h2, by unfold totV; rw [h2]; rfl⟩
theorem tot_fine {l : List Int} (ha : l.all isA = true) (h : sumA l ≤ 1000000000000000) : totOk l = true ∧ totV l = sumA l := by
  have h2 : totOk l = true := by unfold totOk; rw [ha]; simpa using h
  exact ⟨h2, by unfold totV; rw [h2]; rfl⟩
set_option maxHeartbeats 2000000 in
theorem total_any (w : World) (A : Option Addr) (c : Nat) (xs : List Int) (hr : Reads w w.heap.size 1 A xs.length (xs.map (Value.int .i64))) (hm : xs.length ≤ 9223372036854775807) (hx : ∀ u ∈ xs, (Lit.int .i64 u).wf = true) :
    Calls Tryz.prog 54 #[.slice A xs.length c] w fun e w' => e = .returned (.tuple #[.int .i64 (totV xs), .int .i64 (errA (totOk xs))]) ∧ w = w' := by
  have HR := Lib.hid hr; have HX := Lib.hid hx
  clear hr hx
  go_enter Tryz.func54, Tryz.ntmps54
  go_wp2_with fail
  go_loop [4, 9] (fun o i => ∃ (k : Nat) (s : Int), k ≤ xs.length ∧ i = .int .i64 k ∧ o = .int .i64 s ∧ 0 ≤ s ∧ s ≤ 2000000000000000 ∧ Hid ((xs.take k).all isA = true) ∧ Hid ((sumA (xs.take k) ≤ 1000000000000000 ∧ s = sumA (xs.take k)) ∨ (1000000000000000 < sumA (xs.take k) ∧ 1000000000000000 < s))) (fun _ i => xs.length - (intOf i).toNat)
  case atStart => exact ⟨0, 0, Nat.zero_le _, rfl, rfl, by omega, by omega, Lib.hid (by simp), Lib.hid (.inl (by simp [sumA]))⟩
  case round =>
    obtain ⟨k, s, hk, rfl, rfl, hs1, hs2, HAL, HS⟩ := hrel
    by_cases hlt : k < xs.length
    · have hd : decide ((k : Int) < xs.length) = true := by simp; omega
      obtain ⟨ad, u, rfl, hadb, hu, hcell⟩ := HR.out.at_ hlt
      have hw := i64_wf (HX.out xs[k] (List.getElem_mem hlt))
      have ht := sumA_take xs k hlt
      have ha := allA_take xs k hlt
      obtain ⟨g, hg⟩ : ∃ g, isA xs[k] = g := ⟨_, rfl⟩
      have HBAD := Lib.hid (show isA xs[k] = false → totOk xs = false ∧ totV xs = 0 from fun h => tot_bad k hlt h)
      rw [hg] at HBAD
      rw [HAL.out, hg] at ha
      obtain rfl : u = .int .i64 xs[k] := by simp [hlt] at hu; rw [← hu]
      clear hu
      generalize xs[k] = x at *
      have HT := Lib.hid ht; have HA := Lib.hid ha; have HG := Lib.hid hg
      clear ht ha
      cases g
      · obtain ⟨b1, b2⟩ := HBAD.out rfl
        have B1 := Lib.hid b1; have B2 := Lib.hid b2
        clear b1 b2 hg
        go_wp2_with (go_at_call 34; refine (acheck_any _ _).mono ?_; rintro e w1 ⟨rfl, rfl⟩; rw [HG.out, show errA false = 40 from rfl])
        go_ret2
        rw [B1.out, B2.out]
        exact ⟨rfl, rfl⟩
      · obtain ⟨x1, x2⟩ := isA_iff.1 hg
        clear hg
        rcases (show s ≤ 1000000000000000 ∨ 1000000000000000 < s by omega) with h | h
        · go_wp2_with (go_at_call 34; refine (acheck_any _ _).mono ?_; rintro e w1 ⟨rfl, rfl⟩; rw [HG.out, show errA true = 0 from rfl])
          go_round
          case rel => exact ⟨k + 1, s + x, by omega, by go_num, rfl, by omega, by omega, Lib.hid HA.out, Lib.hid (by rw [HT.out]; have := HS.out; omega)⟩
          case measure => simp [intOf]; omega
        · have hd2 : decide (s ≤ 1000000000000000) = false := by simp; omega
          go_wp2_with (go_at_call 34; refine (acheck_any _ _).mono ?_; rintro e w1 ⟨rfl, rfl⟩; rw [HG.out, show errA true = 0 from rfl])
          go_round
          case rel => exact ⟨k + 1, s, by omega, by go_num, rfl, by omega, by omega, Lib.hid HA.out, Lib.hid (by rw [HT.out]; have := HS.out; omega)⟩
          case measure => simp [intOf]; omega
    · have hd : decide ((k : Int) < xs.length) = false := by simp; omega
      have hk9 : k = xs.length := by omega
      have hal := HAL.out
      have hss := HS.out
      rw [hk9, List.take_length] at hal hss
      rcases hss with ⟨h1, h2⟩ | ⟨h1, h2⟩
      · obtain ⟨b1, b2⟩ := tot_fine hal h1
        have g : isA s = true := isA_iff.2 (by omega)
        rw [← h2] at b2
        have B1 := Lib.hid b1; have B2 := Lib.hid b2; have HG := Lib.hid g
        clear b1 b2 g h1 h2 hal hk9 HS HAL
        go_wp2_with (go_at_call 34; refine (acheck_any _ _).mono ?_; rintro e w1 ⟨rfl, rfl⟩; rw [HG.out, show errA true = 0 from rfl])
        go_ret2
        rw [B1.out, B2.out]
        exact ⟨rfl, rfl⟩
      · obtain ⟨b1, b2⟩ := tot_over (l := xs) xs.length (by rw [List.take_length]; exact h1)
        have g : isA s = false := isA_not.2 (by omega)
        have B1 := Lib.hid b1; have B2 := Lib.hid b2; have HG := Lib.hid g
        clear b1 b2 g h1 h2 hal hk9 HS HAL
        go_wp2_with (go_at_call 34; refine (acheck_any _ _).mono ?_; rintro e w1 ⟨rfl, rfl⟩; rw [HG.out, show errA false = 40 from rfl])
        go_ret2
        rw [B1.out, B2.out]
        exact ⟨rfl, rfl⟩
theorem reads_lits (w : World) (t : TypeId) (b : Nat) (hb : w.heap.size = b) (xs : List Int) : Reads (w.alloc (.cells (xs.map (Value.int .i64)).toArray t)) (w.alloc (.cells (xs.map (Value.int .i64)).toArray t)).heap.size 1 (some ⟨b, 0, none⟩) xs.length (xs.map (Value.int .i64)) := by
  subst hb
  refine ⟨by simp, fun _ => ⟨_, rfl, by simp, fun j u hu => ?_⟩⟩
  rw [Addr.add_lit, World.cell?_alloc_new]
  simpa using hu
theorem reads_two (w : World) (t : TypeId) (b : Nat) (hb : w.heap.size = b) (x y : Int) : Reads (w.alloc (.cells #[.int .i64 x, .int .i64 y] t)) (w.alloc (.cells #[.int .i64 x, .int .i64 y] t)).heap.size 1 (some ⟨b, 0, none⟩) [x, y].length ([x, y].map (Value.int .i64)) := reads_lits w t b hb [x, y]
theorem total_two (w : World) (t : TypeId) (b : Nat) (hb : w.heap.size = b) (x y V K : Int) (hV : totV [x, y] = V) (hK : errA (totOk [x, y]) = K) (hx : ∀ u ∈ [x, y], (Lit.int .i64 u).wf = true) :
    Calls Tryz.prog 54 #[.slice (some ⟨b, 0, none⟩) 2 2] (w.alloc (.cells #[.int .i64 x, .int .i64 y] t)) fun e w' => e = .returned (.tuple #[.int .i64 V, .int .i64 K]) ∧ w.alloc (.cells #[.int .i64 x, .int .i64 y] t) = w' := by
  have := total_any _ _ 2 [x, y] (reads_two w t b hb x y) (by simp) hx
  rw [hV, hK] at this
  exact this
set_option maxHeartbeats 1000000 in
theorem add_any (a b : Int) (w : World) (wa : (Lit.int .i64 a).wf = true) (wb : (Lit.int .i64 b).wf = true) : Calls Tryz.prog 40 #[.int .i64 a, .int .i64 b] w fun e w' => e = .returned (.tuple #[.int .i64 (totV [a, b]), .int .i64 (errA (totOk [a, b]))]) ∧ Below w.heap.size w w' := by
  have HX := Lib.hid (show ∀ u ∈ [a, b], (Lit.int .i64 u).wf = true by intro u hu; simp at hu; rcases hu with rfl | rfl <;> assumption)
  clear wa wb
  obtain ⟨V, hV⟩ : ∃ V, totV [a, b] = V := ⟨_, rfl⟩
  obtain ⟨K, hK⟩ : ∃ K, errA (totOk [a, b]) = K := ⟨_, rfl⟩
  rw [hV, hK]
  have HV := Lib.hid hV; have HK := Lib.hid hK
  clear hV hK
  go_enter Tryz.func40, Tryz.ntmps40
  go_wp2_with (go_at_call 54; refine (total_two _ _ _ (by simp) _ _ _ _ HV.out HK.out HX.out).mono ?_; rintro e w1 ⟨rfl, rfl⟩)
  go_ret2
  exact ⟨rfl, by repeat (first | exact Below.refl _ _ | refine below_alloc_ ?_ _ | refine Below.drew ?_)⟩
theorem cls_cases (b : Nat) (hb : b < 18446744073709551616) :
    (cls b = 0 ∧ isNaN b = true ∧ keyN b = 0) ∨
    (isNaN b = false ∧ ((cls b = 1 ∧ keyN b = 4503599627370495 ∧ ikey b = -9218868437227405312) ∨
      (cls b = 2 ∧ 4503599627370495 < keyN b ∧ keyN b < 9223372036854775807 ∧ ikey b = (keyN b : Int) - 9223372036854775807) ∨
      (cls b = 3 ∧ keyN b = 9223372036854775807 ∧ ikey b = 0) ∨ (cls b = 4 ∧ keyN b = 9223372036854775808 ∧ ikey b = 0) ∨
      (cls b = 5 ∧ 9223372036854775808 < keyN b ∧ keyN b < 18442240474082181120 ∧ ikey b = (keyN b : Int) - 9223372036854775808) ∨
      (cls b = 6 ∧ keyN b = 18442240474082181120 ∧ ikey b = 9218868437227405312))) := by
  have hw := word_of b hb
  cases hn : isNaN b
  · right
    refine ⟨rfl, ?_⟩
    have hr : rung b ≤ 9218868437227405312 := by unfold isNaN at hn; simpa using hn
    unfold cls keyN ikey
    rw [hn]
    cases hg : isNeg b
    · rw [hg] at hw
      simp only [Bool.false_eq_true, if_false, Nat.zero_add] at hw ⊢
      rcases (show rung b = 0 ∨ rung b = 9218868437227405312 ∨ (0 < rung b ∧ rung b < 9218868437227405312) by omega) with h | h | ⟨h, h'⟩
      · rw [if_pos h]; right; right; right; left; refine ⟨rfl, by omega, by omega⟩
      · rw [if_neg (by omega), if_pos h]; right; right; right; right; right; refine ⟨rfl, by omega, by omega⟩
      · rw [if_neg (by omega), if_neg (by omega)]; right; right; right; right; left; refine ⟨rfl, by omega, by omega, by omega⟩
    · rw [hg] at hw
      simp only [Bool.false_eq_true, if_false, if_true] at hw ⊢
      rcases (show rung b = 0 ∨ rung b = 9218868437227405312 ∨ (0 < rung b ∧ rung b < 9218868437227405312) by omega) with h | h | ⟨h, h'⟩
      · rw [if_pos h]; right; right; left; refine ⟨rfl, by omega, by omega⟩
      · rw [if_neg (by omega), if_pos h]; left; refine ⟨rfl, by omega, by omega⟩
      · rw [if_neg (by omega), if_neg (by omega)]; right; left; refine ⟨rfl, by omega, by omega, by omega⟩
  · left
    unfold cls keyN; rw [hn]; exact ⟨rfl, rfl, rfl⟩
theorem rate_cmp (b : Nat) (hb : b < 18446744073709551616) : (rateOk b = true ∧ 3 ≤ cls b ∧ cmpN b 4607182418800017408 ≤ 0) ∨ (rateOk b = false ∧ cls b < 3) ∨ (rateOk b = false ∧ 3 ≤ cls b ∧ 0 < cmpN b 4607182418800017408) := by
  have hk : keyN 4607182418800017408 = 13830554455654793216 := by decide
  have hc := cls_cases b hb
  have hw := word_of b hb
  unfold cmpN
  rw [hk]
  have hrr : rateOk b = true ↔ (b ≤ 4607182418800017408 ∨ b = 9223372036854775808) := by unfold rateOk; simp
  have hkey : isNaN b = false → isNeg b = false → keyN b = b + 9223372036854775808 := by intro h1 h2; unfold keyN; rw [h1, h2]; rfl
  have hkey2 : isNaN b = false → isNeg b = true → keyN b = 18446744073709551615 - b := by intro h1 h2; unfold keyN; rw [h1, h2]; rfl
  have hneg : isNeg b = true ↔ 9223372036854775808 ≤ b := by unfold isNeg; simp
  have hnan : isNaN b = true → rateOk b = false := by
    intro h
    rw [← Bool.not_eq_true, hrr]
    unfold isNaN rung at h
    simp at h; omega
  rcases hc with ⟨p1, p2, p3⟩ | ⟨p0, hc⟩
  · right; left; exact ⟨hnan p2, by rw [p1]; decide⟩
  · cases hg : isNeg b
    · have h1 := hkey p0 hg
      have h2 : ¬ 9223372036854775808 ≤ b := fun h => by rw [hneg.2 h] at hg; cases hg
      by_cases hr : b ≤ 4607182418800017408
      · left
        refine ⟨hrr.2 (.inl hr), by omega, ?_⟩
        split
        · decide
        · rw [if_neg (by omega)]; decide
      · right; right
        refine ⟨by rw [← Bool.not_eq_true, hrr]; omega, by omega, ?_⟩
        rw [if_neg (by omega), if_pos (by omega)]; decide
    · have h1 := hkey2 p0 hg
      have h2 := hneg.1 hg
      by_cases hr : b = 9223372036854775808
      · left
        refine ⟨hrr.2 (.inr hr), by omega, ?_⟩
        rw [if_pos (by omega)]; decide
      · right; left
        refine ⟨by rw [← Bool.not_eq_true, hrr]; omega, by omega⟩
def errR (b : Bool) : Int := if b then 0 else 43
set_option maxHeartbeats 1000000 in
theorem arate_any (b : Nat) (w : World) (hb : b < 18446744073709551616) : Calls Tryz.prog 51 #[.float .f64 b] w fun e w' => e = .returned (.int .i64 (errR (rateOk b))) ∧ w = w' := by
  have hc := rate_cmp b hb
  obtain ⟨c, hcc⟩ : ∃ c, cls b = c := ⟨_, rfl⟩
  obtain ⟨z, hz⟩ : ∃ z, cmpN b 4607182418800017408 = z := ⟨_, rfl⟩
  rw [hcc, hz] at hc
  have HC := Lib.hid hcc; have HZ := Lib.hid hz
  clear hcc hz
  rcases hc with ⟨k, h, l⟩ | ⟨k, h⟩ | ⟨k, h, l⟩
  · rw [k]; clear k
    have d1 : decide (c < 3) = false := by simp; omega
    have d2 : decide (0 < z) = false := by simp; omega
    go_enter Tryz.func51, Tryz.ntmps51
    go_wp2_with (first | (go_at_call 63; refine (class_any _ _ hb).mono ?_; rintro e w1 ⟨rfl, rfl⟩; rw [HC.out]) | (go_at_call 64; refine (cmp_any _ _ _ hb (by decide)).mono ?_; rintro e w1 ⟨rfl, rfl⟩; rw [HZ.out]))
    go_ret
    exact ⟨rfl, rfl⟩
  · rw [k]; clear k
    go_enter Tryz.func51, Tryz.ntmps51
    go_wp2_with (first | (go_at_call 63; refine (class_any _ _ hb).mono ?_; rintro e w1 ⟨rfl, rfl⟩; rw [HC.out]) | (go_at_call 64; refine (cmp_any _ _ _ hb (by decide)).mono ?_; rintro e w1 ⟨rfl, rfl⟩; rw [HZ.out]))
    go_ret
    exact ⟨rfl, rfl⟩
  · rw [k]; clear k
    have d1 : decide (c < 3) = false := by simp; omega
    go_enter Tryz.func51, Tryz.ntmps51
    go_wp2_with (first | (go_at_call 63; refine (class_any _ _ hb).mono ?_; rintro e w1 ⟨rfl, rfl⟩; rw [HC.out]) | (go_at_call 64; refine (cmp_any _ _ _ hb (by decide)).mono ?_; rintro e w1 ⟨rfl, rfl⟩; rw [HZ.out]))
    go_ret
    exact ⟨rfl, rfl⟩
/-- a fee, or why there is none -/
def FeeIs (n : Int) (b : Nat) (V E : Int) : Prop := (isA n = false ∧ V = 0 ∧ E = 40) ∨ (isA n = true ∧ rateOk b = false ∧ V = 0 ∧ E = 43) ∨ (isA n = true ∧ rateOk b = true ∧ V = prodV n b false ∧ E = prodE n b false)
theorem fee_of (n : Int) (b : Nat) : ∃ V E, FeeIs n b V E := by
  unfold FeeIs
  cases isA n
  · exact ⟨_, _, .inl ⟨rfl, rfl, rfl⟩⟩
  · cases rateOk b
    · exact ⟨_, _, .inr (.inl ⟨rfl, rfl, rfl, rfl⟩)⟩
    · exact ⟨_, _, .inr (.inr ⟨rfl, rfl, rfl, rfl⟩)⟩
set_option maxHeartbeats 1000000 in
theorem fee_any (n : Int) (b : Nat) (V E : Int) (w : World) (h : FeeIs n b V E) (n1 : -9223372036854775808 ≤ n) (n2 : n ≤ 9223372036854775807) (hb : b < 18446744073709551616) :
    Calls Tryz.prog 39 #[.int .i64 n, .float .f64 b] w fun e w' => e = .returned (.tuple #[.int .i64 V, .int .i64 E]) ∧ w = w' := by
  rcases h with ⟨h, rfl, rfl⟩ | ⟨h, k, rfl, rfl⟩ | ⟨h, k, hV, hE⟩
  · have HH := Lib.hid h; clear h
    go_enter Tryz.func39, Tryz.ntmps39
    go_wp2_with (go_at_call 34; refine (acheck_any _ _).mono ?_; rintro e w1 ⟨rfl, rfl⟩; rw [HH.out, show errA false = 40 from rfl])
    go_ret2
    exact ⟨rfl, rfl⟩
  · have HH := Lib.hid h; have HK := Lib.hid k; clear h k
    go_enter Tryz.func39, Tryz.ntmps39
    go_wp2_with (first | (go_at_call 34; refine (acheck_any _ _).mono ?_; rintro e w1 ⟨rfl, rfl⟩; rw [HH.out, show errA true = 0 from rfl]) | (go_at_call 51; refine (arate_any _ _ hb).mono ?_; rintro e w1 ⟨rfl, rfl⟩; rw [HK.out, show errR false = 43 from rfl]))
    go_ret2
    exact ⟨rfl, rfl⟩
  · have HH := Lib.hid h; have HK := Lib.hid k; have HV := Lib.hid hV.symm; have HE := Lib.hid hE.symm; clear h k hV hE
    go_enter Tryz.func39, Tryz.ntmps39
    go_wp2_with (first | (go_at_call 34; refine (acheck_any _ _).mono ?_; rintro e w1 ⟨rfl, rfl⟩; rw [HH.out, show errA true = 0 from rfl]) | (go_at_call 51; refine (arate_any _ _ hb).mono ?_; rintro e w1 ⟨rfl, rfl⟩; rw [HK.out, show errR true = 0 from rfl]) | (go_at_call 53; refine (times_any n _ _ n1 n2 hb).mono ?_; rintro e w1 ⟨rfl, rfl⟩; rw [HV.out, HE.out]))
    go_ret2
    exact ⟨rfl, rfl⟩
theorem mag_le {r s : Nat} (h : r ≤ s) : mag r ≤ mag s := by
  rcases (show r < s ∨ r = s by omega) with g | rfl
  · exact Nat.le_of_lt (mag_lt g)
  · exact Nat.le_refl _
/-- a part, laid out to the least place -/
theorem part_mag (b : Nat) (h : expf b ≤ 1023) (N : Nat) : N * Mo.part b / 2 ^ (1075 - expf b) = N * mag (rung b) / 2 ^ 1074 := by
  have hm : mag (rung b) = Mo.part b * 2 ^ (expf b - 1) := by
    unfold mag Mo.part expf
    by_cases h0 : rung b < 4503599627370496
    · rw [if_pos h0, if_pos h0, if_pos h0]; simp
    · rw [if_neg h0, if_neg h0, if_neg h0]
  have he : 1 ≤ expf b := by unfold expf; split <;> omega
  generalize hK : 1074 = K
  have hp : 2 ^ K = 2 ^ (1075 - expf b) * 2 ^ (expf b - 1) := by rw [← Nat.pow_add]; congr 1; omega
  rw [hm, hp, ← Nat.mul_assoc, Nat.mul_div_mul_right _ _ (Nat.two_pow_pos _)]
theorem fee_val (n : Int) (b : Nat) (h0 : 0 ≤ n) (h1 : n ≤ 1000000000000000) (h : rateOk b = true) : prodE n b false = 0 ∧ prodV n b false = (n.natAbs * mag (rung b) / 2 ^ 1074 : Nat) ∧ prodV n b false ≤ n := by
  obtain ⟨r1, r2, r3⟩ := rate_parts b h
  have hsq : sq (n.natAbs * Mo.part b) (expf b) = n.natAbs * Mo.part b / 2 ^ (1075 - expf b) := by unfold sq; rw [if_neg (by omega)]
  have hle : n.natAbs * Mo.part b / 2 ^ (1075 - expf b) ≤ n.natAbs := by
    have h2 : n.natAbs * Mo.part b ≤ n.natAbs * 2 ^ (1075 - expf b) := Nat.mul_le_mul_left _ r3
    have h3 := Nat.div_le_div_right (c := 2 ^ (1075 - expf b)) h2
    rw [Nat.mul_div_cancel _ (Nat.two_pow_pos _)] at h3
    exact h3
  have hb : isNeg b = false ∨ Mo.part b = 0 := by
    unfold rateOk at h; simp at h
    rcases h with h | rfl
    · left; unfold isNeg; simp; omega
    · right; decide
  have hpn : decide (n < 0) = false := by simp; omega
  have hq : pabs n b false = n.natAbs * Mo.part b / 2 ^ (1075 - expf b) ∧ (pneg n b = true → pabs n b false = 0) := by
    rcases hb with hb | hb
    · have hg : pneg n b = false := by unfold pneg; rw [hpn, hb]; rfl
      unfold pabs
      rw [hsq, hg]
      simp
    · unfold pabs
      rw [hsq, hb]
      simp [sl]
  obtain ⟨q1, q2⟩ := hq
  have hE : prodE n b false = 0 := by
    unfold prodE
    rw [if_neg (by omega), if_neg (by omega), if_pos]
    unfold pfit
    rw [q1]
    split <;> simp <;> omega
  have hV : prodV n b false = (n.natAbs * Mo.part b / 2 ^ (1075 - expf b) : Nat) := by
    unfold prodV
    rw [if_pos hE]
    cases hg : pneg n b
    · rw [q1]; simp
    · have := q2 hg
      rw [this] at q1 ⊢
      rw [← q1]; simp
  refine ⟨hE, ?_, ?_⟩
  · rw [hV, part_mag b r2]
  · rw [hV]
    omega
end Go.Proofs.YtjhhpcjnhjbpdaaGreat

/- Accounts: a map of them, as a function. -/
set_option linter.unusedSimpArgs false
set_option linter.unusedVariables false
namespace Go.Proofs.YtjhhpcjnhjbpdaaGreat
open Go.RowKit Mo
open Go.ChangeMaps
/-- how an account reads -/
def accR : Value → Option (DataW Unit × List MemPlace)
  | .agg cs => match cs.toList with
    | [.int .i64 a, .int .i64 b] => some (.agg [.lit (.int .i64 a), .lit (.int .i64 b)], [])
    | _ => none
  | _ => none
def accD (p : Int × Int) : DataW Unit := .agg [.lit (.int .i64 p.1), .lit (.int .i64 p.2)]
def accV (p : Int × Int) : Value := .agg #[.int .i64 p.1, .int .i64 p.2]
theorem accR_mk (p : Int × Int) : accR (accV p) = some (accD p, []) := rfl
theorem accR_inv {v : Value} {p : Int × Int} {ps : List MemPlace} (h : accR v = some (accD p, ps)) : v = accV p := by
  unfold accR at h
  split at h
  · rename_i cs
    split at h
    · rename_i a b e
      simp only [accD, Option.some.injEq, Prod.mk.injEq, DataW.agg.injEq, List.cons.injEq, DataW.lit.injEq, Lit.int.injEq, true_and, and_true] at h
      obtain ⟨⟨h1, h2⟩, _⟩ := h
      subst h1; subst h2
      rw [show cs = #[.int .i64 p.1, .int .i64 p.2] from Array.ext' e]
      rfl
    · cases h
  · cases h
theorem int_law : Maps.Keyed Tryz.prog 3 := Maps.int_keyed Tryz.underlying3
theorem acc_zero (w : World) : (zeroValue 74).run Tryz.prog w = .ok (accV (0, 0)) w := by kernel_rfl
theorem key_int {k : Int} (h : (Lit.int .i64 k).wf = true) : keyOf Tryz.prog 3 (.int .i64 k) = some (.int .i64 k) := Maps.keyOf_int_mk Tryz.underlying3 h
/-- block m is a map of accounts that is f -/
def MapF (w : World) (m n : Nat) (f : Int → Option (Int × Int)) : Prop :=
  ∃ D : DataW Unit, w.ownsMap Tryz.prog 3 accR m n D ∧ ∀ k, Maps.has D (.int .i64 k) = (f k).isSome ∧ D.atKey (.int .i64 k) (accD (0, 0)) = accD ((f k).getD (0, 0))
def fput (f : Int → Option (Int × Int)) (k : Int) (p : Int × Int) : Int → Option (Int × Int) := fun i => if i = k then some p else f i
variable {w w' : World} {m n : Nat} {f : Int → Option (Int × Int)}
theorem MapF.made (w : World) : MapF (w.alloc (.map #[] 0)) w.heap.size 0 (fun _ => none) :=
  ⟨_, World.ownsMap_made w _ _ _, fun k => ⟨rfl, rfl⟩⟩
theorem MapF.lt (h : MapF w m n f) : m < w.heap.size := by obtain ⟨D, h, _⟩ := h; exact h.lt
theorem MapF.alloc (h : MapF w m n f) (o : Obj) : MapF (w.alloc o) m n f := by obtain ⟨D, h, e⟩ := h; exact ⟨D, h.alloc o, e⟩
theorem MapF.drew (h : MapF w m n f) : MapF w.drew m n f := by obtain ⟨D, h, e⟩ := h; exact ⟨D, h.drew, e⟩
theorem MapF.look (h : MapF w m n f) {k : Int} (hk : (Lit.int .i64 k).wf = true) : (Instr.lookup 76 (.map (some m)) (.int .i64 k) true).run Tryz.prog w = .ok (.tuple #[accV ((f k).getD (0, 0)), .bool (f k).isSome]) w := by
  obtain ⟨D, h, e⟩ := h
  obtain ⟨v, ps, hrun, hv⟩ := h.look_ok int_law Tryz.underlying76 (acc_zero w) (accR_mk _) (key_int hk)
  rw [(e k).1] at hrun
  rw [(e k).2] at hv
  rw [accR_inv hv] at hrun
  exact hrun
theorem MapF.look1 (h : MapF w m n f) {k : Int} (hk : (Lit.int .i64 k).wf = true) : (Instr.lookup 76 (.map (some m)) (.int .i64 k) false).run Tryz.prog w = .ok (accV ((f k).getD (0, 0))) w := by
  obtain ⟨D, h, e⟩ := h
  obtain ⟨v, ps, hrun, hv⟩ := h.lookup int_law Tryz.underlying76 (acc_zero w) (accR_mk _) (key_int hk)
  rw [(e k).2] at hv
  rw [accR_inv hv] at hrun
  exact hrun
theorem MapF.store (h : MapF w m n f) (hn : n < maxLen) {k : Int} (hk : (Lit.int .i64 k).wf = true) (p : Int × Int) : ∃ w', (Instr.mapUpdate 76 (.map (some m)) (.int .i64 k) (accV p)).run Tryz.prog w = .ok () w' ∧ MapF w' m (n + 1) (fput f k p) ∧ w.grownBy w' (some m) := by
  obtain ⟨D, h, e⟩ := h
  have hm := h.isMap
  obtain ⟨w', hrun, h1, h2⟩ := h.update int_law Tryz.underlying76 hn (key_int hk) (accR_mk p)
  refine ⟨w', hrun, ⟨_, h1, fun i => ?_⟩, h2⟩
  unfold fput
  by_cases hi : i = k
  · subst hi
    rw [if_pos rfl]
    have hkl : WideAt.IsKeyLit (.int .i64 i) := trivial
    exact ⟨Maps.has_put_same hm hkl _, Maps.atKey_put_same hm hkl _ _⟩
  · rw [if_neg hi]
    have hne : (Lit.int .i64 i) ≠ .int .i64 k := fun h => hi (Lit.int.inj h).2
    rw [Maps.has_put_other hne, Maps.atKey_put_other hne]
    exact e i
end Go.Proofs.YtjhhpcjnhjbpdaaGreat

/- Accounts: an entry, and what is stored there. -/
set_option linter.unusedSimpArgs false
set_option linter.unusedVariables false
namespace Go.Proofs.YtjhhpcjnhjbpdaaGreat
open Go.RowKit Mo
open Go.ChangeMaps Go.MapKept Go.WideElems Go.WideShapes Go.ChangeShapes
theorem setBlock_self {w : World} {b : Nat} {o : Obj} (h : w.heap[b]? = some o) : setBlock w b o = w := by
  have e : w.heap.setIfInBounds b o = w.heap := by
    apply Array.ext (by simp)
    intro i h1 h2
    rw [Array.getElem_setIfInBounds (by simpa using h2)]
    split
    · rename_i e; subst e
      obtain ⟨_, h3⟩ := Array.getElem?_eq_some_iff.1 h
      exact h3.symm
    · rfl
  unfold setBlock
  rw [e]
theorem MapF.entry {w : World} {m n : Nat} {f : Int → Option (Int × Int)} (h : MapF w m n f) (hn : n < maxLen) {k : Int} (hk : (Lit.int .i64 k).wf = true) (hf : (f k).isSome = true) :
    ∃ (v : Value) (st : Nat), (Instr.mapEntry 76 (.map (some m)) (.int .i64 k)).run Tryz.prog w = .ok (.tuple #[v, .int .i64 st]) w ∧
      ∀ p, ∃ w', (Instr.entryStore 76 (.map (some m)) (.int .i64 st) (accV p)).run Tryz.prog w = .ok () w' ∧ MapF w' m (n + 1) (fput f k p) ∧ w.grownBy w' (some m) := by
  have h0 := h
  have st := fun p => h0.store hn hk p
  obtain ⟨D, h, e⟩ := h
  have hD := e k
  obtain ⟨es, clock, hb, F, hs, rfl⟩ := h
  have K := int_law
  have hkey := key_int hk
  have ht := Tryz.underlying76
  obtain ⟨s1, s2, _⟩ := F.stamped
  rcases K.find w hkey es.toList F.keys with ⟨h1, h2⟩ | ⟨j, e0, h1, h2, h3⟩
  · exfalso
    have l1 := h0.look hk
    rw [hf] at l1
    have l2 : (Instr.lookup 76 (.map (some m)) (.int .i64 k) true).run Tryz.prog w = .ok (.tuple #[accV (0, 0), .bool false]) w := by
      simp [Instr.lookup, run_underlying ht, MapKept.run_getObj_map hb, K.check w _ hkey, h1, acc_zero, Result.andThen]
      try rfl
    rw [l1] at l2
    simp at l2
  · have hj : es[j]? = some e0 := by simpa using h2
    have hsame : es.modify j (fun e => { e with key := .int .i64 k }) = es := by
      apply Array.ext'
      rw [Array.toList_modify, modify_eq_set _ _ _ _ h2]
      have : ({ e0 with key := .int .i64 k } : MapEntry) = e0 := by rw [← h3]
      rw [this]
      exact set_self _ _ _ h2
    refine ⟨e0.val, e0.born, ?_, fun p => ?_⟩
    · simp [Instr.mapEntry, run_underlying ht, MapKept.run_getObj_map hb, K.check w false hkey, h1, hj, h3, K.stays w hkey, hsame, MapKept.run_setObj_map _ hb, Result.andThen, setBlock_self hb, goInt]
      exact setBlock_self hb
    · obtain ⟨w', hrun, hM, hg⟩ := st p
      refine ⟨w', ?_, hM, hg⟩
      have hidx : es.findIdx? (fun e => ((e.born : Nat) : Int) == ((e0.born : Nat) : Int)) = some j := by
        rw [findIdx_arr]
        exact findIdx_born s2 h2
      have hmod : es.modify j (fun e => { e with val := accV p }) = es.modify j (fun e' => { e' with key := .int .i64 k, val := accV p }) := by
        apply Array.ext'
        rw [Array.toList_modify, Array.toList_modify, modify_eq_set _ _ _ _ h2, modify_eq_set _ _ _ _ h2, ← h3]
      rw [← hrun]
      simp [Instr.entryStore, Instr.mapUpdate, run_underlying ht, K.check w false hkey, h1, hj, h3, K.stays w hkey, MapKept.run_getObj_map hb, asInt, asIntOf, goInt, hidx, hmod, MapKept.run_setObj_map _ hb, Result.andThen, setBlock]
end Go.Proofs.YtjhhpcjnhjbpdaaGreat

/- More words for memory: what stands behind calls that make memory. -/
set_option linter.unusedSimpArgs false
set_option linter.unusedVariables false
namespace Go.Proofs.YtjhhpcjnhjbpdaaGreat
open Go.RowKit
theorem below_cell {w1 w2 : World} {p : Addr} {v : Value} (h : w1.cell? p = some v) (hb : Below w1.heap.size w1 w2) : w2.cell? p = some v :=
  (hb.cell (World.block_lt_of_cell? w1 p h)).trans h
theorem blk_pass {w1 w2 w3 : World} {g : Nat} {t : TypeId} {cs : Array Value} (h : Blk w1 g t cs) (k : Below w1.heap.size w1 w2) (hb : Below w2.heap.size w2 w3) : Blk w3 g t cs :=
  (h.keeps (S := fun _ => False) (.of_below k) id).keeps (S := fun _ => False) (.of_below hb) id
theorem keep2 {w w1 w2 : World} {p0 p1 : Addr} {v0 v1 : Value} (h : w1.cell? p0 = some v0 ∧ w1.cell? p1 = some v1 ∧ Hid (Below w.heap.size w w1)) (hb : Below w1.heap.size w1 w2) : w2.cell? p0 = some v0 ∧ w2.cell? p1 = some v1 ∧ Hid (Below w.heap.size w w2) := by
  obtain ⟨h0, h1, hB⟩ := h
  exact ⟨below_cell h0 hb, below_cell h1 hb, Lib.hid (below_then hB.out hb)⟩
theorem keep4 {w w1 w2 : World} {p0 p1 p2 p3 : Addr} {v0 v1 v2 v3 : Value} (h : w1.cell? p0 = some v0 ∧ w1.cell? p1 = some v1 ∧ w1.cell? p2 = some v2 ∧ w1.cell? p3 = some v3 ∧ Hid (Below w.heap.size w w1)) (hb : Below w1.heap.size w1 w2) : w2.cell? p0 = some v0 ∧ w2.cell? p1 = some v1 ∧ w2.cell? p2 = some v2 ∧ w2.cell? p3 = some v3 ∧ Hid (Below w.heap.size w w2) := by
  obtain ⟨h0, h1, h2, h3, hB⟩ := h
  exact ⟨below_cell h0 hb, below_cell h1 hb, below_cell h2 hb, below_cell h3 hb, Lib.hid (below_then hB.out hb)⟩
theorem keep6 {w w1 w2 : World} {p0 p1 p2 p3 p4 p5 : Addr} {v0 v1 v2 v3 v4 v5 : Value} (h : w1.cell? p0 = some v0 ∧ w1.cell? p1 = some v1 ∧ w1.cell? p2 = some v2 ∧ w1.cell? p3 = some v3 ∧ w1.cell? p4 = some v4 ∧ w1.cell? p5 = some v5 ∧ Hid (Below w.heap.size w w1)) (hb : Below w1.heap.size w1 w2) : w2.cell? p0 = some v0 ∧ w2.cell? p1 = some v1 ∧ w2.cell? p2 = some v2 ∧ w2.cell? p3 = some v3 ∧ w2.cell? p4 = some v4 ∧ w2.cell? p5 = some v5 ∧ Hid (Below w.heap.size w w2) := by
  obtain ⟨h0, h1, h2, h3, h4, h5, hB⟩ := h
  exact ⟨below_cell h0 hb, below_cell h1 hb, below_cell h2 hb, below_cell h3 hb, below_cell h4 hb, below_cell h5 hb, Lib.hid (below_then hB.out hb)⟩
theorem keep8 {w w1 w2 : World} {p0 p1 p2 p3 p4 p5 p6 p7 : Addr} {v0 v1 v2 v3 v4 v5 v6 v7 : Value} (h : w1.cell? p0 = some v0 ∧ w1.cell? p1 = some v1 ∧ w1.cell? p2 = some v2 ∧ w1.cell? p3 = some v3 ∧ w1.cell? p4 = some v4 ∧ w1.cell? p5 = some v5 ∧ w1.cell? p6 = some v6 ∧ w1.cell? p7 = some v7 ∧ Hid (Below w.heap.size w w1)) (hb : Below w1.heap.size w1 w2) : w2.cell? p0 = some v0 ∧ w2.cell? p1 = some v1 ∧ w2.cell? p2 = some v2 ∧ w2.cell? p3 = some v3 ∧ w2.cell? p4 = some v4 ∧ w2.cell? p5 = some v5 ∧ w2.cell? p6 = some v6 ∧ w2.cell? p7 = some v7 ∧ Hid (Below w.heap.size w w2) := by
  obtain ⟨h0, h1, h2, h3, h4, h5, h6, h7, hB⟩ := h
  exact ⟨below_cell h0 hb, below_cell h1 hb, below_cell h2 hb, below_cell h3 hb, below_cell h4 hb, below_cell h5 hb, below_cell h6 hb, below_cell h7 hb, Lib.hid (below_then hB.out hb)⟩
theorem last8 {a0 a1 a2 a3 a4 a5 a6 a7 : Prop} {P : Prop} (h : a0 ∧ a1 ∧ a2 ∧ a3 ∧ a4 ∧ a5 ∧ a6 ∧ a7 ∧ Hid P) : P := h.2.2.2.2.2.2.2.2.out
theorem via_blk {P : Program} {W : World} {α : Type} {prog : Sem α} {v : α} {g : Nat} {T : TypeId} {cs : Array Value} (B : Blk W g T cs) (h : ∀ W', Blk W' g T cs → Sem.run P prog W' = .ok v W') : Sem.run P prog W = .ok v W := h W B
theorem blk_s0 {w : World} {g : Nat} {T : TypeId} {a b u : Value} (h : Blk w g T #[a, b]) : Blk (w.setCell ⟨g, 0, none⟩ u) g T #[u, b] := h.set_ 0 u
theorem blk_s1 {w : World} {g : Nat} {T : TypeId} {a b u : Value} (h : Blk w g T #[a, b]) : Blk (w.setCell ⟨g, 1, none⟩ u) g T #[a, u] := h.set_ 1 u
theorem Blk.c3 {w : World} {g : Nat} {t : TypeId} {a b c : Value} (h : Blk w g t #[a, b, c]) : (w.cell? ⟨g, 0, none⟩ = some a ∧ w.cell? ⟨g, 1, none⟩ = some b ∧ w.cell? ⟨g, 2, none⟩ = some c) ∧ g < w.heap.size := by
  have h0 := h.cell 0; have h1 := h.cell 1; have h2 := h.cell 2
  exact ⟨⟨by simpa using h0, by simpa using h1, by simpa using h2⟩, h.lt⟩
theorem Blk.c7 {w : World} {g : Nat} {t : TypeId} {a0 a1 a2 a3 a4 a5 a6 : Value} (h : Blk w g t #[a0, a1, a2, a3, a4, a5, a6]) :
    (w.cell? ⟨g, 0, none⟩ = some a0 ∧ w.cell? ⟨g, 1, none⟩ = some a1 ∧ w.cell? ⟨g, 2, none⟩ = some a2 ∧ w.cell? ⟨g, 3, none⟩ = some a3 ∧ w.cell? ⟨g, 4, none⟩ = some a4 ∧ w.cell? ⟨g, 5, none⟩ = some a5 ∧ w.cell? ⟨g, 6, none⟩ = some a6) ∧ g < w.heap.size := by
  have h0 := h.cell 0; have h1 := h.cell 1; have h2 := h.cell 2; have h3 := h.cell 3; have h4 := h.cell 4; have h5 := h.cell 5; have h6 := h.cell 6
  exact ⟨⟨by simpa using h0, by simpa using h1, by simpa using h2, by simpa using h3, by simpa using h4, by simpa using h5, by simpa using h6⟩, h.lt⟩
theorem Blk.c4 {w : World} {g : Nat} {t : TypeId} {a0 a1 a2 a3 : Value} (h : Blk w g t #[a0, a1, a2, a3]) :
    w.cell? ⟨g, 0, none⟩ = some a0 ∧ w.cell? ⟨g, 1, none⟩ = some a1 ∧ w.cell? ⟨g, 2, none⟩ = some a2 ∧ w.cell? ⟨g, 3, none⟩ = some a3 := by
  have h0 := h.cell 0; have h1 := h.cell 1; have h2 := h.cell 2; have h3 := h.cell 3
  exact ⟨by simpa using h0, by simpa using h1, by simpa using h2, by simpa using h3⟩
theorem Blk.c5 {w : World} {g : Nat} {t : TypeId} {a0 a1 a2 a3 a4 : Value} (h : Blk w g t #[a0, a1, a2, a3, a4]) :
    w.cell? ⟨g, 0, none⟩ = some a0 ∧ w.cell? ⟨g, 1, none⟩ = some a1 ∧ w.cell? ⟨g, 2, none⟩ = some a2 ∧ w.cell? ⟨g, 3, none⟩ = some a3 ∧ w.cell? ⟨g, 4, none⟩ = some a4 := by
  have h0 := h.cell 0; have h1 := h.cell 1; have h2 := h.cell 2; have h3 := h.cell 3; have h4 := h.cell 4
  exact ⟨by simpa using h0, by simpa using h1, by simpa using h2, by simpa using h3, by simpa using h4⟩
theorem blk_upd {w : World} {g : Nat} {t : TypeId} {cs ds : Array Value} {i : Nat} {u : Value} (h : Blk w g t cs) (e : cs.setIfInBounds i u = ds) : Blk (w.setCell ⟨g, i, none⟩ u) g t ds := e ▸ h.set_ i u
theorem below_drewN_ {w a : World} (h : Below w.heap.size w a) (n : Nat) : Below w.heap.size w (a.drewN n) := Keeps.below ((Keeps.of_below h).drewN n)
theorem below_set_ {w a : World} (h : Below w.heap.size w a) {p : Addr} (hp : w.heap.size ≤ p.block) (u : Value) : Below w.heap.size w (a.setCell p u) := h.setCell hp u
theorem cellB {w w' : World} {p : Addr} {v : Value} (hb : Below w.heap.size w w') (h : p.block < w.heap.size) (q : w.cell? p = some v) : w'.cell? p = some v := (hb.cell h).trans q
theorem below_frozen {w1 w2 : World} {p : Addr} {v : Value} (h : w1.frozen? p = false) (c : w1.cell? p = some v) (hb : Below w1.heap.size w1 w2) : w2.frozen? p = false :=
  (hb.frozen (World.block_lt_of_cell? w1 p c)).trans h
theorem last2 {a0 a1 : Prop} {P : Prop} (h : a0 ∧ a1 ∧ Hid P) : P := h.2.2.out
theorem last4 {a0 a1 a2 a3 : Prop} {P : Prop} (h : a0 ∧ a1 ∧ a2 ∧ a3 ∧ Hid P) : P := h.2.2.2.2.out
theorem last6 {a0 a1 a2 a3 a4 a5 : Prop} {P : Prop} (h : a0 ∧ a1 ∧ a2 ∧ a3 ∧ a4 ∧ a5 ∧ Hid P) : P := h.2.2.2.2.2.2.out
theorem below_kp {w a b : World} {g : Nat} (h : Below w.heap.size w a) (k : Keeps (· = g) a b) (hg : w.heap.size ≤ g) : Below w.heap.size w b :=
  ⟨k.os.trans h.os, k.tape.trans h.tape, k.output.trans h.output, Nat.le_trans h.size k.size, fun i hi => (k.block i (Nat.lt_of_lt_of_le hi h.size) (by omega)).trans (h.block i hi)⟩
theorem keep_cell {w1 w2 : World} {g : Nat} {p : Addr} {v : Value} (h : w1.cell? p = some v) (k : Keeps (· = g) w1 w2) (hg : p.block ≠ g) : w2.cell? p = some v :=
  (k.cell (World.block_lt_of_cell? w1 p h) hg).trans h
end Go.Proofs.YtjhhpcjnhjbpdaaGreat

/- The book: New, Has, Paid, Open. -/
set_option linter.unusedSimpArgs false
set_option linter.unusedVariables false
namespace Go.Proofs.YtjhhpcjnhjbpdaaGreat
open Go.RowKit Mo
/-- block b is a book by a rate, of accounts f -/
structure Bk (w : World) (b r m n : Nat) (f : Int → Option (Int × Int)) : Prop where
  b : Blk w b 78 #[.float .f64 r, .map (some m)]
  m : MapF w m n f
theorem run_mm : ∀ W : World, (Instr.makeMap 76 none).run Tryz.prog W = .ok (.map (some W.heap.size)) (W.alloc (.map #[] 0)) := fun W => by kernel_rfl
theorem is_any (a : Int) (w : World) : Calls Tryz.prog 38 #[.int .i64 a] w fun e w' => e = .returned (.bool (decide (0 ≤ a) && decide (a < 4096))) ∧ w = w' := by
  rcases (show a < 0 ∨ (0 ≤ a ∧ a < 4096) ∨ (0 ≤ a ∧ 4096 ≤ a) by omega) with h | ⟨h, h'⟩ | ⟨h, h'⟩
  · have d : decide (0 ≤ a) = false := by simp; omega
    go_enter Tryz.func38, Tryz.ntmps38
    go_wp2
    go_ret
    exact ⟨by rw [d]; rfl, rfl⟩
  · have d : decide (0 ≤ a) = true := by simp; omega
    have d1 : decide (a < 4096) = true := by simp; omega
    go_enter Tryz.func38, Tryz.ntmps38
    go_wp2
    go_ret
    exact ⟨by rw [d, d1]; rfl, rfl⟩
  · have d : decide (0 ≤ a) = true := by simp; omega
    have d1 : decide (a < 4096) = false := by simp; omega
    go_enter Tryz.func38, Tryz.ntmps38
    go_wp2
    go_ret
    exact ⟨by rw [d, d1]; rfl, rfl⟩
theorem new_bad (r : Nat) (w : World) (hr : r < 18446744073709551616) (h : rateOk r = false) : Calls Tryz.prog 31 #[.float .f64 r] w fun e w' => e = .returned (.tuple #[.pointer none, .int .i64 140]) ∧ w = w' := by
  have HK := Lib.hid h; clear h
  go_enter Tryz.func31, Tryz.ntmps31
  go_wp2_with (go_at_call 51; refine (arate_any _ _ hr).mono ?_; rintro e w1 ⟨rfl, rfl⟩; rw [HK.out, show errR false = 43 from rfl])
  go_ret2
  exact ⟨rfl, rfl⟩
theorem new_ok (r : Nat) (w : World) (hr : r < 18446744073709551616) (h : rateOk r = true) : Calls Tryz.prog 31 #[.float .f64 r] w fun e w' => e = .returned (.tuple #[.pointer (some ⟨w.heap.size + 1, 0, none⟩), .int .i64 0]) ∧ w' = (w.alloc (.map #[] 0)).alloc (.cells #[.float .f64 r, .map (some w.heap.size)] 78) := by
  have HK := Lib.hid h; clear h
  have hmm := run_mm
  go_enter Tryz.func31, Tryz.ntmps31
  go_wp2_with (go_at_call 51; refine (arate_any _ _ hr).mono ?_; rintro e w1 ⟨rfl, rfl⟩; rw [HK.out, show errR true = 0 from rfl])
  go_ret2
  exact ⟨rfl, rfl⟩
theorem bk_new (r : Nat) (w : World) : Bk ((w.alloc (.map #[] 0)).alloc (.cells #[.float .f64 r, .map (some w.heap.size)] 78)) (w.heap.size + 1) r w.heap.size 0 (fun _ => none) :=
  ⟨Blk.new' (by simp), (MapF.made w).alloc _⟩
end Go.Proofs.YtjhhpcjnhjbpdaaGreat

/- The book: Open. -/
set_option linter.unusedSimpArgs false
set_option linter.unusedVariables false
namespace Go.Proofs.YtjhhpcjnhjbpdaaGreat
open Go.RowKit Mo
theorem MapF.keeps {S : Nat → Prop} {w w' : World} {m n : Nat} {f : Int → Option (Int × Int)} (h : MapF w m n f) (hk : Keeps S w w') (hs : ¬ S m) : MapF w' m n f := by
  have hl := h.lt
  obtain ⟨D, ⟨es, clock, hb, r⟩, e⟩ := h
  exact ⟨D, ⟨es, clock, (hk.block m hl hs).trans hb, r⟩, e⟩
theorem MapF.mono {w : World} {m n n' : Nat} {f : Int → Option (Int × Int)} (h : MapF w m n f) (hn : n ≤ n') : MapF w m n' f := by
  obtain ⟨D, h, e⟩ := h
  exact ⟨D, h.mono hn, e⟩
theorem Bk.keeps {S : Nat → Prop} {w w' : World} {b r m n : Nat} {f : Int → Option (Int × Int)} (h : Bk w b r m n f) (hk : Keeps S w w') (hb : ¬ S b) (hs : ¬ S m) : Bk w' b r m n f := ⟨h.b.keeps hk hb, h.m.keeps hk hs⟩
/-- a book's block is no map -/
theorem Bk.ne {w : World} {b r m n : Nat} {f : Int → Option (Int × Int)} (h : Bk w b r m n f) : b ≠ m := by
  rintro rfl
  obtain ⟨D, ⟨es, clock, hb, _⟩, _⟩ := h.m
  have := h.b
  unfold Blk at this
  rw [this] at hb
  cases hb
def isAc (a : Int) : Bool := decide (0 ≤ a) && decide (a < 4096)
/-- what Open answers, and what the accounts are behind it -/
def OpIs (f : Int → Option (Int × Int)) (a n E : Int) (f' : Int → Option (Int × Int)) : Prop :=
  (isAc a = false ∧ E = 141 ∧ f = f') ∨ (isAc a = true ∧ (f a).isSome = true ∧ E = 142 ∧ f = f') ∨ (isAc a = true ∧ (f a).isSome = false ∧ isA n = false ∧ E = 143 ∧ f = f') ∨
  (isAc a = true ∧ (f a).isSome = false ∧ isA n = true ∧ E = 0 ∧ f' = fput f a (n, 0))
theorem op_of (f : Int → Option (Int × Int)) (a n : Int) : ∃ E f', OpIs f a n E f' := by
  unfold OpIs
  cases isAc a
  · exact ⟨_, _, .inl ⟨rfl, rfl, rfl⟩⟩
  · cases (f a).isSome
    · cases isA n
      · exact ⟨_, _, .inr (.inr (.inl ⟨rfl, rfl, rfl, rfl, rfl⟩))⟩
      · exact ⟨_, _, .inr (.inr (.inr ⟨rfl, rfl, rfl, rfl, rfl⟩))⟩
    · exact ⟨_, _, .inr (.inl ⟨rfl, rfl, rfl, rfl⟩)⟩
set_option maxRecDepth 100000 in
set_option maxHeartbeats 2000000 in
theorem open_any (b r m k : Nat) (f : Int → Option (Int × Int)) (a n E : Int) (f' : Int → Option (Int × Int)) (w : World) (ha : (Lit.int .i64 a).wf = true) (hn : (Lit.int .i64 n).wf = true) (hk : k < maxLen) (h : Bk w b r m k f) (hO : OpIs f a n E f') :
    Calls Tryz.prog 32 #[.pointer (some ⟨b, 0, none⟩), .int .i64 a, .int .i64 n] w fun e w' => e = .returned (.int .i64 E) ∧ Bk w' b r m (k + 1) f' ∧ Keeps (· = m) w w' := by
  obtain ⟨q0, q1⟩ := h.b.c2
  have bl := h.b.lt
  have hl := h.m.look ha
  have HH := Lib.hid h
  have bw := Lib.hid h.ne
  unfold accV at hl
  have ga : ∀ W : World, W = w.alloc (.cells #[.int .i64 ((f a).getD (0, 0)).1, .int .i64 ((f a).getD (0, 0)).2] 74) → Bk W b r m (k + 1) f ∧ Keeps (· = m) w W := fun W e => by
    subst e
    exact ⟨⟨HH.out.b.alloc _, (HH.out.m.alloc _).mono (by omega)⟩, (Keeps.refl _ _).alloc _⟩
  have GA := Lib.hid ga
  clear ga
  rcases hO with ⟨h1, rfl, rfl⟩ | ⟨h1, h2, rfl, rfl⟩ | ⟨h1, h2, h3, rfl, rfl⟩ | ⟨h1, h2, h3, rfl, rfl⟩
  · have H1 := Lib.hid h1
    unfold isAc at H1
    generalize (f a).getD (0, 0) = p at *
    generalize (f a).isSome = s at *
    obtain ⟨x, y⟩ := p
    simp only at hl GA
    clear h h1
    go_enter Tryz.func32, Tryz.ntmps32
    go_wp2_with (go_at_call 38; refine (is_any _ _).mono ?_; rintro e w1 ⟨rfl, rfl⟩; rw [H1.out])
    go_ret
    exact ⟨rfl, GA.out _ rfl⟩
  · have H1 := Lib.hid h1
    unfold isAc at H1
    generalize (f a).getD (0, 0) = p at *
    rw [h2] at hl
    obtain ⟨x, y⟩ := p
    simp only at hl GA
    clear h h1 h2
    go_enter Tryz.func32, Tryz.ntmps32
    go_wp2_with (go_at_call 38; refine (is_any _ _).mono ?_; rintro e w1 ⟨rfl, rfl⟩; rw [H1.out])
    go_ret
    exact ⟨rfl, GA.out _ rfl⟩
  · have H1 := Lib.hid h1; have H3 := Lib.hid h3
    unfold isAc at H1
    generalize (f a).getD (0, 0) = p at *
    rw [h2] at hl
    obtain ⟨x, y⟩ := p
    simp only at hl GA
    clear h h1 h2 h3
    go_enter Tryz.func32, Tryz.ntmps32
    go_wp2_with (first | (go_at_call 38; refine (is_any _ _).mono ?_; rintro e w1 ⟨rfl, rfl⟩; rw [H1.out]) | (go_at_call 34; refine (acheck_any _ _).mono ?_; rintro e w1 ⟨rfl, rfl⟩; rw [H3.out, show errA false = 40 from rfl]))
    go_ret
    exact ⟨rfl, GA.out _ rfl⟩
  · have H1 := Lib.hid h1; have H3 := Lib.hid h3
    unfold isAc at H1
    have hz : (f a).getD (0, 0) = (0, 0) := by
      cases e : f a
      · rfl
      · rw [e] at h2; cases h2
    rw [hz, h2] at hl
    rw [hz] at GA
    simp only at hl GA
    obtain ⟨w2, hst, hM, hg⟩ := (h.m.alloc (.cells #[.int .i64 0, .int .i64 0] 74)).store hk ha (n, 0)
    unfold accV at hst
    simp only at hst
    have HM := Lib.hid hM
    have HG := Lib.hid (((Keeps.refl (· = m) w).alloc (.cells #[.int .i64 0, .int .i64 0] 74)).grown hg (fun k hk => .inl (Option.some.inj hk).symm))
    clear h h1 h2 h3 hz hM hg
    go_enter Tryz.func32, Tryz.ntmps32
    go_wp2_with (first | (go_at_call 38; refine (is_any _ _).mono ?_; rintro e w1 ⟨rfl, rfl⟩; rw [H1.out]) | (go_at_call 34; refine (acheck_any _ _).mono ?_; rintro e w1 ⟨rfl, rfl⟩; rw [H3.out, show errA true = 0 from rfl]))
    go_ret
    exact ⟨rfl, ⟨HH.out.b.keeps HG.out bw.out, HM.out⟩, HG.out⟩
end Go.Proofs.YtjhhpcjnhjbpdaaGreat
