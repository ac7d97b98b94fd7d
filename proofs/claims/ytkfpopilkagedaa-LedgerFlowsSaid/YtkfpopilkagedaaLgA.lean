/- The amount package, as the ledger reaches it: Check, Total, Add, Rate, Fee. -/
import Derived.Test.YtkfpopilkagedaaKeyK
import Derived.Test.YtkfpopilkagedaaRate
import Derived.Test.YtkfpopilkagedaaStampI
import Derived.Deep.QuietTactic
import Derived.BigQuiet
import Derived.LoopTactic
set_option linter.unusedSimpArgs false
set_option linter.unusedVariables false
namespace Go.Proofs.Ytkfpopilkagedaa
open Go.RowKit Mo
def isA (n : Int) : Bool := decide (0 ≤ n) && decide (n ≤ 1000000000000000)
theorem isA_iff {n : Int} : isA n = true ↔ 0 ≤ n ∧ n ≤ 1000000000000000 := by unfold isA; simp
theorem isA_not {n : Int} : isA n = false ↔ n < 0 ∨ 1000000000000000 < n := by
  rw [← Bool.not_eq_true, isA_iff]; omega
def errA (b : Bool) : Int := if b then 0 else 40
set_option maxHeartbeats 400000 in
theorem acheck_any (n : Int) (w : World) : Calls Try.prog 24 #[.int .i64 n] w fun e w' => e = .returned (.int .i64 (errA (isA n))) ∧ w = w' := by
  rcases (show (n < 0) ∨ (0 ≤ n ∧ 1000000000000000 < n) ∨ (0 ≤ n ∧ n ≤ 1000000000000000) by omega) with h | ⟨h, h2⟩ | ⟨h, h2⟩
  · have e : isA n = false := isA_not.2 (by omega)
    rw [e]; clear e
    go_enter Try.func24, Try.ntmps24
    go_wp2
    go_ret
    exact ⟨rfl, rfl⟩
  · have e : isA n = false := isA_not.2 (by omega)
    rw [e]; clear e
    go_enter Try.func24, Try.ntmps24
    go_wp2
    go_ret
    exact ⟨rfl, rfl⟩
  · have e : isA n = true := isA_iff.2 ⟨h, h2⟩
    rw [e]; clear e
    have d1 : decide (1000000000000000 < n) = false := by simp; omega
    go_enter Try.func24, Try.ntmps24
    go_wp2
    go_ret
    exact ⟨rfl, rfl⟩
/-- what numbers come to -/
def sumA : List Int → Int | [] => 0 | x :: l => x + sumA l
theorem sumA_append (a b : List Int) : sumA (a ++ b) = sumA a + sumA b := by
  induction a with
  | nil => simp [sumA]
  | cons x a ih => simp only [List.cons_append, sumA, ih]; omega
theorem sumA_take (l : List Int) (k : Nat) (h : k < l.length) : sumA (l.take (k + 1)) = sumA (l.take k) + l[k] := by
  rw [List.take_succ_eq_append_getElem h, sumA_append]; simp [sumA]
theorem allA_take (l : List Int) (k : Nat) (h : k < l.length) : (l.take (k + 1)).all isA = ((l.take k).all isA && isA l[k]) := by
  rw [List.take_succ_eq_append_getElem h, List.all_append]; simp
theorem sumA_nonneg (l : List Int) (h : l.all isA = true) : 0 ≤ sumA l := by
  induction l with
  | nil => simp [sumA]
  | cons x l ih =>
    simp only [List.all_cons, Bool.and_eq_true] at h
    have h1 := isA_iff.1 h.1
    have h2 := ih h.2
    simp only [sumA]; omega
theorem sumA_le (l : List Int) (k : Nat) (h : l.all isA = true) : sumA (l.take k) ≤ sumA l := by
  have h1 := sumA_append (l.take k) (l.drop k)
  rw [List.take_append_drop] at h1
  have h2 := sumA_nonneg (l.drop k) (by
    rw [List.all_eq_true] at h ⊢
    exact fun x hx => h x (List.mem_of_mem_drop hx))
  omega
def totOk (l : List Int) : Bool := l.all isA && decide (sumA l ≤ 1000000000000000)
def totV (l : List Int) : Int := if totOk l then sumA l else 0
theorem tot_bad {l : List Int} (k : Nat) (hk : k < l.length) (h : isA l[k] = false) : totOk l = false ∧ totV l = 0 := by
  have h1 : l.all isA = false := by
    rw [← Bool.not_eq_true, List.all_eq_true]
    intro hh
    have := hh l[k] (List.getElem_mem hk)
    rw [h] at this; exact Bool.noConfusion this
  have h2 : totOk l = false := by unfold totOk; rw [h1]; rfl
  exact ⟨h2, by unfold totV; rw [h2]; rfl⟩
theorem tot_over {l : List Int} (k : Nat) (h : 1000000000000000 < sumA (l.take k)) : totOk l = false ∧ totV l = 0 := by
  have h2 : totOk l = false := by
    unfold totOk
    cases ha : l.all isA
    · rfl
    · have := sumA_le l k ha
      rw [Bool.true_and, decide_eq_false_iff_not]; omega
  exact ⟨h2, by unfold totV; rw [h2]; rfl⟩
theorem tot_fine {l : List Int} (ha : l.all isA = true) (h : sumA l ≤ 1000000000000000) : totOk l = true ∧ totV l = sumA l := by
  have h2 : totOk l = true := by unfold totOk; rw [ha]; simpa using h
  exact ⟨h2, by unfold totV; rw [h2]; rfl⟩
set_option maxHeartbeats 2000000 in
theorem total_any (w : World) (A : Option Addr) (c : Nat) (xs : List Int) (hr : Reads w w.heap.size 1 A xs.length (xs.map (Value.int .i64))) (hm : xs.length ≤ 9223372036854775807) (hx : ∀ u ∈ xs, (Lit.int .i64 u).wf = true) :
    Calls Try.prog 33 #[.slice A xs.length c] w fun e w' => e = .returned (.tuple #[.int .i64 (totV xs), .int .i64 (errA (totOk xs))]) ∧ w = w' := by
  have HR := Lib.hid hr; have HX := Lib.hid hx
  clear hr hx
  go_enter Try.func33, Try.ntmps33
  go_wp2_with fail
  go_loop [4, 9] (fun o i => ∃ (k : Nat) (s : Int), k ≤ xs.length ∧ i = .int .i64 k ∧ o = .int .i64 s ∧ 0 ≤ s ∧ s ≤ 2000000000000000 ∧ Hid ((xs.take k).all isA = true) ∧ Hid ((sumA (xs.take k) ≤ 1000000000000000 ∧ s = sumA (xs.take k)) ∨ (1000000000000000 < sumA (xs.take k) ∧ 1000000000000000 < s))) (fun _ i => xs.length - (intOf i).toNat)
  case atStart => exact ⟨0, 0, Nat.zero_le _, rfl, rfl, by omega, by omega, Lib.hid (by simp), Lib.hid (.inl (by simp [sumA]))⟩
  case round =>
    obtain ⟨k, s, hk, rfl, rfl, hs1, hs2, HAL, HS⟩ := hrel
    by_cases hlt : k < xs.length
    · have hd : decide ((k : Int) < xs.length) = true := by simp; omega
      obtain ⟨ad, u, rfl, hadb, hu, hcell⟩ := HR.out.at_ hlt
      have hw := i64_wf (HX.out xs[k] (List.getElem_mem hlt))
      have ht := sumA_take xs k hlt
      have ha := allA_take xs k hlt
      obtain ⟨g, hg⟩ : ∃ g, isA xs[k] = g := ⟨_, rfl⟩
      have HBAD := Lib.hid (show isA xs[k] = false → totOk xs = false ∧ totV xs = 0 from fun h => tot_bad k hlt h)
      rw [hg] at HBAD
      rw [HAL.out, hg] at ha
      obtain rfl : u = .int .i64 xs[k] := by simp [hlt] at hu; rw [← hu]
      clear hu
      generalize xs[k] = x at *
      have HT := Lib.hid ht; have HA := Lib.hid ha; have HG := Lib.hid hg
      clear ht ha
      cases g
      · obtain ⟨b1, b2⟩ := HBAD.out rfl
        have B1 := Lib.hid b1; have B2 := Lib.hid b2
        clear b1 b2 hg
        go_wp2_with (go_at_call 24; refine (acheck_any _ _).mono ?_; rintro e w1 ⟨rfl, rfl⟩; rw [HG.out, show errA false = 40 from rfl])
        go_ret2
        rw [B1.out, B2.out]
        exact ⟨rfl, rfl⟩
      · obtain ⟨x1, x2⟩ := isA_iff.1 hg
        clear hg
        rcases (show s ≤ 1000000000000000 ∨ 1000000000000000 < s by omega) with h | h
        · go_wp2_with (go_at_call 24; refine (acheck_any _ _).mono ?_; rintro e w1 ⟨rfl, rfl⟩; rw [HG.out, show errA true = 0 from rfl])
          go_round
          case rel => exact ⟨k + 1, s + x, by omega, by go_num, rfl, by omega, by omega, Lib.hid HA.out, Lib.hid (by rw [HT.out]; have := HS.out; omega)⟩
          case measure => simp [intOf]; omega
        · have hd2 : decide (s ≤ 1000000000000000) = false := by simp; omega
          go_wp2_with (go_at_call 24; refine (acheck_any _ _).mono ?_; rintro e w1 ⟨rfl, rfl⟩; rw [HG.out, show errA true = 0 from rfl])
          go_round
          case rel => exact ⟨k + 1, s, by omega, by go_num, rfl, by omega, by omega, Lib.hid HA.out, Lib.hid (by rw [HT.out]; have := HS.out; omega)⟩
          case measure => simp [intOf]; omega
    · have hd : decide ((k : Int) < xs.length) = false := by simp; omega
      have hk9 : k = xs.length := by omega
      have hal := HAL.out
      have hss := HS.out
      rw [hk9, List.take_length] at hal hss
      rcases hss with ⟨h1, h2⟩ | ⟨h1, h2⟩
      · obtain ⟨b1, b2⟩ := tot_fine hal h1
        have g : isA s = true := isA_iff.2 (by omega)
        rw [← h2] at b2
        have B1 := Lib.hid b1; have B2 := Lib.hid b2; have HG := Lib.hid g
        clear b1 b2 g h1 h2 hal hk9 HS HAL
        go_wp2_with (go_at_call 24; refine (acheck_any _ _).mono ?_; rintro e w1 ⟨rfl, rfl⟩; rw [HG.out, show errA true = 0 from rfl])
        go_ret2
        rw [B1.out, B2.out]
        exact ⟨rfl, rfl⟩
      · obtain ⟨b1, b2⟩ := tot_over (l := xs) xs.length (by rw [List.take_length]; exact h1)
        have g : isA s = false := isA_not.2 (by omega)
        have B1 := Lib.hid b1; have B2 := Lib.hid b2; have HG := Lib.hid g
        clear b1 b2 g h1 h2 hal hk9 HS HAL
        go_wp2_with (go_at_call 24; refine (acheck_any _ _).mono ?_; rintro e w1 ⟨rfl, rfl⟩; rw [HG.out, show errA false = 40 from rfl])
        go_ret2
        rw [B1.out, B2.out]
        exact ⟨rfl, rfl⟩
theorem reads_lits (w : World) (t : TypeId) (b : Nat) (hb : w.heap.size = b) (xs : List Int) : Reads (w.alloc (.cells (xs.map (Value.int .i64)).toArray t)) (w.alloc (.cells (xs.map (Value.int .i64)).toArray t)).heap.size 1 (some ⟨b, 0, none⟩) xs.length (xs.map (Value.int .i64)) := by
  subst hb
  refine ⟨by simp, fun _ => ⟨_, rfl, by simp, fun j u hu => ?_⟩⟩
  rw [Addr.add_lit, World.cell?_alloc_new]
  simpa using hu
theorem reads_two (w : World) (t : TypeId) (b : Nat) (hb : w.heap.size = b) (x y : Int) : Reads (w.alloc (.cells #[.int .i64 x, .int .i64 y] t)) (w.alloc (.cells #[.int .i64 x, .int .i64 y] t)).heap.size 1 (some ⟨b, 0, none⟩) [x, y].length ([x, y].map (Value.int .i64)) := reads_lits w t b hb [x, y]
theorem total_two (w : World) (t : TypeId) (b : Nat) (hb : w.heap.size = b) (x y V K : Int) (hV : totV [x, y] = V) (hK : errA (totOk [x, y]) = K) (hx : ∀ u ∈ [x, y], (Lit.int .i64 u).wf = true) :
    Calls Try.prog 33 #[.slice (some ⟨b, 0, none⟩) 2 2] (w.alloc (.cells #[.int .i64 x, .int .i64 y] t)) fun e w' => e = .returned (.tuple #[.int .i64 V, .int .i64 K]) ∧ w.alloc (.cells #[.int .i64 x, .int .i64 y] t) = w' := by
  have := total_any _ _ 2 [x, y] (reads_two w t b hb x y) (by simp) hx
  rw [hV, hK] at this
  exact this
set_option maxHeartbeats 1000000 in
theorem add_any (a b : Int) (w : World) (wa : (Lit.int .i64 a).wf = true) (wb : (Lit.int .i64 b).wf = true) : Calls Try.prog 26 #[.int .i64 a, .int .i64 b] w fun e w' => e = .returned (.tuple #[.int .i64 (totV [a, b]), .int .i64 (errA (totOk [a, b]))]) ∧ Below w.heap.size w w' := by
  have HX := Lib.hid (show ∀ u ∈ [a, b], (Lit.int .i64 u).wf = true by intro u hu; simp at hu; rcases hu with rfl | rfl <;> assumption)
  clear wa wb
  obtain ⟨V, hV⟩ : ∃ V, totV [a, b] = V := ⟨_, rfl⟩
  obtain ⟨K, hK⟩ : ∃ K, errA (totOk [a, b]) = K := ⟨_, rfl⟩
  rw [hV, hK]
  have HV := Lib.hid hV; have HK := Lib.hid hK
  clear hV hK
  go_enter Try.func26, Try.ntmps26
  go_wp2_with (go_at_call 33; refine (total_two _ _ _ (by simp) _ _ _ _ HV.out HK.out HX.out).mono ?_; rintro e w1 ⟨rfl, rfl⟩)
  go_ret2
  exact ⟨rfl, by repeat (first | exact Below.refl _ _ | refine below_alloc_ ?_ _ | refine Below.drew ?_)⟩
theorem cls_cases (b : Nat) (hb : b < 18446744073709551616) :
    (cls b = 0 ∧ isNaN b = true ∧ keyN b = 0) ∨
    (isNaN b = false ∧ ((cls b = 1 ∧ keyN b = 4503599627370495 ∧ ikey b = -9218868437227405312) ∨
      (cls b = 2 ∧ 4503599627370495 < keyN b ∧ keyN b < 9223372036854775807 ∧ ikey b = (keyN b : Int) - 9223372036854775807) ∨
      (cls b = 3 ∧ keyN b = 9223372036854775807 ∧ ikey b = 0) ∨ (cls b = 4 ∧ keyN b = 9223372036854775808 ∧ ikey b = 0) ∨
      (cls b = 5 ∧ 9223372036854775808 < keyN b ∧ keyN b < 18442240474082181120 ∧ ikey b = (keyN b : Int) - 9223372036854775808) ∨
      (cls b = 6 ∧ keyN b = 18442240474082181120 ∧ ikey b = 9218868437227405312))) := by
  have hw := word_of b hb
  cases hn : isNaN b
  · right
    refine ⟨rfl, ?_⟩
    have hr : rung b ≤ 9218868437227405312 := by unfold isNaN at hn; simpa using hn
    unfold cls keyN ikey
    rw [hn]
    cases hg : isNeg b
    · rw [hg] at hw
      simp only [Bool.false_eq_true, if_false, Nat.zero_add] at hw ⊢
      rcases (show rung b = 0 ∨ rung b = 9218868437227405312 ∨ (0 < rung b ∧ rung b < 9218868437227405312) by omega) with h | h | ⟨h, h'⟩
      · rw [if_pos h]; right; right; right; left; refine ⟨rfl, by omega, by omega⟩
      · rw [if_neg (by omega), if_pos h]; right; right; right; right; right; refine ⟨rfl, by omega, by omega⟩
      · rw [if_neg (by omega), if_neg (by omega)]; right; right; right; right; left; refine ⟨rfl, by omega, by omega, by omega⟩
    · rw [hg] at hw
      simp only [Bool.false_eq_true, if_false, if_true] at hw ⊢
      rcases (show rung b = 0 ∨ rung b = 9218868437227405312 ∨ (0 < rung b ∧ rung b < 9218868437227405312) by omega) with h | h | ⟨h, h'⟩
      · rw [if_pos h]; right; right; left; refine ⟨rfl, by omega, by omega⟩
      · rw [if_neg (by omega), if_pos h]; left; refine ⟨rfl, by omega, by omega⟩
      · rw [if_neg (by omega), if_neg (by omega)]; right; left; refine ⟨rfl, by omega, by omega, by omega⟩
  · left
    unfold cls keyN; rw [hn]; exact ⟨rfl, rfl, rfl⟩
theorem rate_cmp (b : Nat) (hb : b < 18446744073709551616) : (rateOk b = true ∧ 3 ≤ cls b ∧ cmpN b 4607182418800017408 ≤ 0) ∨ (rateOk b = false ∧ cls b < 3) ∨ (rateOk b = false ∧ 3 ≤ cls b ∧ 0 < cmpN b 4607182418800017408) := by
  have hk : keyN 4607182418800017408 = 13830554455654793216 := by decide
  have hc := cls_cases b hb
  have hw := word_of b hb
  unfold cmpN
  rw [hk]
  have hrr : rateOk b = true ↔ (b ≤ 4607182418800017408 ∨ b = 9223372036854775808) := by unfold rateOk; simp
  have hkey : isNaN b = false → isNeg b = false → keyN b = b + 9223372036854775808 := by intro h1 h2; unfold keyN; rw [h1, h2]; rfl
  have hkey2 : isNaN b = false → isNeg b = true → keyN b = 18446744073709551615 - b := by intro h1 h2; unfold keyN; rw [h1, h2]; rfl
  have hneg : isNeg b = true ↔ 9223372036854775808 ≤ b := by unfold isNeg; simp
  have hnan : isNaN b = true → rateOk b = false := by
    intro h
    rw [← Bool.not_eq_true, hrr]
    unfold isNaN rung at h
    simp at h; omega
  rcases hc with ⟨p1, p2, p3⟩ | ⟨p0, hc⟩
  · right; left; exact ⟨hnan p2, by rw [p1]; decide⟩
  · cases hg : isNeg b
    · have h1 := hkey p0 hg
      have h2 : ¬ 9223372036854775808 ≤ b := fun h => by rw [hneg.2 h] at hg; cases hg
      by_cases hr : b ≤ 4607182418800017408
      · left
        refine ⟨hrr.2 (.inl hr), by omega, ?_⟩
        split
        · decide
        · rw [if_neg (by omega)]; decide
      · right; right
        refine ⟨by rw [← Bool.not_eq_true, hrr]; omega, by omega, ?_⟩
        rw [if_neg (by omega), if_pos (by omega)]; decide
    · have h1 := hkey2 p0 hg
      have h2 := hneg.1 hg
      by_cases hr : b = 9223372036854775808
      · left
        refine ⟨hrr.2 (.inr hr), by omega, ?_⟩
        rw [if_pos (by omega)]; decide
      · right; left
        refine ⟨by rw [← Bool.not_eq_true, hrr]; omega, by omega⟩
def errR (b : Bool) : Int := if b then 0 else 43
set_option maxHeartbeats 1000000 in
theorem arate_any (b : Nat) (w : World) (hb : b < 18446744073709551616) : Calls Try.prog 22 #[.float .f64 b] w fun e w' => e = .returned (.int .i64 (errR (rateOk b))) ∧ w = w' := by
  have hc := rate_cmp b hb
  obtain ⟨c, hcc⟩ : ∃ c, cls b = c := ⟨_, rfl⟩
  obtain ⟨z, hz⟩ : ∃ z, cmpN b 4607182418800017408 = z := ⟨_, rfl⟩
  rw [hcc, hz] at hc
  have HC := Lib.hid hcc; have HZ := Lib.hid hz
  clear hcc hz
  rcases hc with ⟨k, h, l⟩ | ⟨k, h⟩ | ⟨k, h, l⟩
  · rw [k]; clear k
    have d1 : decide (c < 3) = false := by simp; omega
    have d2 : decide (0 < z) = false := by simp; omega
    go_enter Try.func22, Try.ntmps22
    go_wp2_with (first | (go_at_call 30; refine (class_any _ _ hb).mono ?_; rintro e w1 ⟨rfl, rfl⟩; rw [HC.out]) | (go_at_call 31; refine (cmp_any _ _ _ hb (by decide)).mono ?_; rintro e w1 ⟨rfl, rfl⟩; rw [HZ.out]))
    go_ret
    exact ⟨rfl, rfl⟩
  · rw [k]; clear k
    go_enter Try.func22, Try.ntmps22
    go_wp2_with (first | (go_at_call 30; refine (class_any _ _ hb).mono ?_; rintro e w1 ⟨rfl, rfl⟩; rw [HC.out]) | (go_at_call 31; refine (cmp_any _ _ _ hb (by decide)).mono ?_; rintro e w1 ⟨rfl, rfl⟩; rw [HZ.out]))
    go_ret
    exact ⟨rfl, rfl⟩
  · rw [k]; clear k
    have d1 : decide (c < 3) = false := by simp; omega
    go_enter Try.func22, Try.ntmps22
    go_wp2_with (first | (go_at_call 30; refine (class_any _ _ hb).mono ?_; rintro e w1 ⟨rfl, rfl⟩; rw [HC.out]) | (go_at_call 31; refine (cmp_any _ _ _ hb (by decide)).mono ?_; rintro e w1 ⟨rfl, rfl⟩; rw [HZ.out]))
    go_ret
    exact ⟨rfl, rfl⟩
/-- a fee, or why there is none -/
def FeeIs (n : Int) (b : Nat) (V E : Int) : Prop := (isA n = false ∧ V = 0 ∧ E = 40) ∨ (isA n = true ∧ rateOk b = false ∧ V = 0 ∧ E = 43) ∨ (isA n = true ∧ rateOk b = true ∧ V = prodV n b false ∧ E = prodE n b false)
theorem fee_of (n : Int) (b : Nat) : ∃ V E, FeeIs n b V E := by
  unfold FeeIs
  cases isA n
  · exact ⟨_, _, .inl ⟨rfl, rfl, rfl⟩⟩
  · cases rateOk b
    · exact ⟨_, _, .inr (.inl ⟨rfl, rfl, rfl, rfl⟩)⟩
    · exact ⟨_, _, .inr (.inr ⟨rfl, rfl, rfl, rfl⟩)⟩
set_option maxHeartbeats 1000000 in
theorem fee_any (n : Int) (b : Nat) (V E : Int) (w : World) (h : FeeIs n b V E) (n1 : -9223372036854775808 ≤ n) (n2 : n ≤ 9223372036854775807) (hb : b < 18446744073709551616) :
    Calls Try.prog 25 #[.int .i64 n, .float .f64 b] w fun e w' => e = .returned (.tuple #[.int .i64 V, .int .i64 E]) ∧ w = w' := by
  rcases h with ⟨h, rfl, rfl⟩ | ⟨h, k, rfl, rfl⟩ | ⟨h, k, hV, hE⟩
  · have HH := Lib.hid h; clear h
    go_enter Try.func25, Try.ntmps25
    go_wp2_with (go_at_call 24; refine (acheck_any _ _).mono ?_; rintro e w1 ⟨rfl, rfl⟩; rw [HH.out, show errA false = 40 from rfl])
    go_ret2
    exact ⟨rfl, rfl⟩
  · have HH := Lib.hid h; have HK := Lib.hid k; clear h k
    go_enter Try.func25, Try.ntmps25
    go_wp2_with (first | (go_at_call 24; refine (acheck_any _ _).mono ?_; rintro e w1 ⟨rfl, rfl⟩; rw [HH.out, show errA true = 0 from rfl]) | (go_at_call 22; refine (arate_any _ _ hb).mono ?_; rintro e w1 ⟨rfl, rfl⟩; rw [HK.out, show errR false = 43 from rfl]))
    go_ret2
    exact ⟨rfl, rfl⟩
  · have HH := Lib.hid h; have HK := Lib.hid k; have HV := Lib.hid hV.symm; have HE := Lib.hid hE.symm; clear h k hV hE
    go_enter Try.func25, Try.ntmps25
    go_wp2_with (first | (go_at_call 24; refine (acheck_any _ _).mono ?_; rintro e w1 ⟨rfl, rfl⟩; rw [HH.out, show errA true = 0 from rfl]) | (go_at_call 22; refine (arate_any _ _ hb).mono ?_; rintro e w1 ⟨rfl, rfl⟩; rw [HK.out, show errR true = 0 from rfl]) | (go_at_call 32; refine (times_any n _ _ n1 n2 hb).mono ?_; rintro e w1 ⟨rfl, rfl⟩; rw [HV.out, HE.out]))
    go_ret2
    exact ⟨rfl, rfl⟩
theorem mag_le {r s : Nat} (h : r ≤ s) : mag r ≤ mag s := by
  rcases (show r < s ∨ r = s by omega) with g | rfl
  · exact Nat.le_of_lt (mag_lt g)
  · exact Nat.le_refl _
/-- a part, laid out to the least place -/
theorem part_mag (b : Nat) (h : expf b ≤ 1023) (N : Nat) : N * Mo.part b / 2 ^ (1075 - expf b) = N * mag (rung b) / 2 ^ 1074 := by
  have hm : mag (rung b) = Mo.part b * 2 ^ (expf b - 1) := by
    unfold mag Mo.part expf
    by_cases h0 : rung b < 4503599627370496
    · rw [if_pos h0, if_pos h0, if_pos h0]; simp
    · rw [if_neg h0, if_neg h0, if_neg h0]
  have he : 1 ≤ expf b := by unfold expf; split <;> omega
  generalize hK : 1074 = K
  have hp : 2 ^ K = 2 ^ (1075 - expf b) * 2 ^ (expf b - 1) := by rw [← Nat.pow_add]; congr 1; omega
  rw [hm, hp, ← Nat.mul_assoc, Nat.mul_div_mul_right _ _ (Nat.two_pow_pos _)]
theorem fee_val (n : Int) (b : Nat) (h0 : 0 ≤ n) (h1 : n ≤ 1000000000000000) (h : rateOk b = true) : prodE n b false = 0 ∧ prodV n b false = (n.natAbs * mag (rung b) / 2 ^ 1074 : Nat) ∧ prodV n b false ≤ n := by
  obtain ⟨r1, r2, r3⟩ := rate_parts b h
  have hsq : sq (n.natAbs * Mo.part b) (expf b) = n.natAbs * Mo.part b / 2 ^ (1075 - expf b) := by unfold sq; rw [if_neg (by omega)]
  have hle : n.natAbs * Mo.part b / 2 ^ (1075 - expf b) ≤ n.natAbs := by
    have h2 : n.natAbs * Mo.part b ≤ n.natAbs * 2 ^ (1075 - expf b) := Nat.mul_le_mul_left _ r3
    have h3 := Nat.div_le_div_right (c := 2 ^ (1075 - expf b)) h2
    rw [Nat.mul_div_cancel _ (Nat.two_pow_pos _)] at h3
    exact h3
  have hb : isNeg b = false ∨ Mo.part b = 0 := by
    unfold rateOk at h; simp at h
    rcases h with h | rfl
    · left; unfold isNeg; simp; omega
    · right; decide
  have hpn : decide (n < 0) = false := by simp; omega
  have hq : pabs n b false = n.natAbs * Mo.part b / 2 ^ (1075 - expf b) ∧ (pneg n b = true → pabs n b false = 0) := by
    rcases hb with hb | hb
    · have hg : pneg n b = false := by unfold pneg; rw [hpn, hb]; rfl
      unfold pabs
      rw [hsq, hg]
      simp
    · unfold pabs
      rw [hsq, hb]
      simp [sl]
  obtain ⟨q1, q2⟩ := hq
  have hE : prodE n b false = 0 := by
    unfold prodE
    rw [if_neg (by omega), if_neg (by omega), if_pos]
    unfold pfit
    rw [q1]
    split <;> simp <;> omega
  have hV : prodV n b false = (n.natAbs * Mo.part b / 2 ^ (1075 - expf b) : Nat) := by
    unfold prodV
    rw [if_pos hE]
    cases hg : pneg n b
    · rw [q1]; simp
    · have := q2 hg
      rw [this] at q1 ⊢
      rw [← q1]; simp
  refine ⟨hE, ?_, ?_⟩
  · rw [hV, part_mag b r2]
  · rw [hV]
    omega
end Go.Proofs.Ytkfpopilkagedaa
