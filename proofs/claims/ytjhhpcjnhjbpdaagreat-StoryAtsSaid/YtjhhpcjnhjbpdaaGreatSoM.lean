/- The story's calls: call (printed by a program of ours). -/
import Derived.Test.YtjhhpcjnhjbpdaaGreatPK
import Derived.Test.YtjhhpcjnhjbpdaaGreatOpen20
import Derived.WalkLawsBesides
set_option linter.unusedSimpArgs false
set_option linter.unusedVariables false
namespace Go.Proofs.YtjhhpcjnhjbpdaaGreat
open Go.RowKit Mo
def inT (n : Int) : Bool := decide (0 ≤ n) && decide (n ≤ 1125899906842624)
theorem inT_iff {n : Int} : inT n = true ↔ 0 ≤ n ∧ n ≤ 1125899906842624 := by unfold inT; simp
theorem in_any (t : Int) (w : World) : Calls Tryz.prog 24 #[.int .i64 t] w fun e w' => e = .returned (.bool (inT t)) ∧ w = w' := by
  rcases (show t < 0 ∨ (0 ≤ t ∧ t ≤ 1125899906842624) ∨ (0 ≤ t ∧ 1125899906842624 < t) by omega) with h | ⟨h, h'⟩ | ⟨h, h'⟩
  · have e : inT t = false := by unfold inT; simp; omega
    rw [e]; clear e
    go_enter Tryz.func24, Tryz.ntmps24
    go_wp2
    go_ret
    exact ⟨by first | rfl | simp, rfl⟩
  · have e : inT t = true := by unfold inT; simp; omega
    rw [e]; clear e
    have d : decide (t ≤ 1125899906842624) = true := by simpa using h'
    go_enter Tryz.func24, Tryz.ntmps24
    go_wp2
    go_ret
    exact ⟨by first | rfl | simp, rfl⟩
  · have e : inT t = false := by unfold inT; simp; omega
    rw [e]; clear e
    have d : decide (t ≤ 1125899906842624) = false := by simp; omega
    go_enter Tryz.func24, Tryz.ntmps24
    go_wp2
    go_ret
    exact ⟨by first | rfl | simp, rfl⟩
theorem in_t {t : Int} (w : World) (h : inT t = true) : Calls Tryz.prog 24 #[.int .i64 t] w fun e w' => e = .returned (.bool true) ∧ w = w' := by rw [← h]; exact in_any t w
theorem in_f {t : Int} (w : World) (h : inT t = false) : Calls Tryz.prog 24 #[.int .i64 t] w fun e w' => e = .returned (.bool false) ∧ w = w' := by rw [← h]; exact in_any t w
theorem acct_any (a : Int) (w : World) : Calls Tryz.prog 33 #[.int .i64 a] w fun e w' => e = .returned (.bool (isAc a)) ∧ w = w' := by
  rcases (show a < 0 ∨ (0 ≤ a ∧ a < 4096) ∨ (0 ≤ a ∧ 4096 ≤ a) by omega) with h | ⟨h, h'⟩ | ⟨h, h'⟩
  · have e : isAc a = false := by unfold isAc; simp; omega
    rw [e]; clear e
    go_enter Tryz.func33, Tryz.ntmps33
    go_wp2
    go_ret
    exact ⟨by first | rfl | simp, rfl⟩
  · have e : isAc a = true := by unfold isAc; simp; omega
    rw [e]; clear e
    have d : decide (a < 4096) = true := by simpa using h'
    go_enter Tryz.func33, Tryz.ntmps33
    go_wp2
    go_ret
    exact ⟨by first | rfl | simp, rfl⟩
  · have e : isAc a = false := by unfold isAc; simp; omega
    rw [e]; clear e
    have d : decide (a < 4096) = false := by simp; omega
    go_enter Tryz.func33, Tryz.ntmps33
    go_wp2
    go_ret
    exact ⟨by first | rfl | simp, rfl⟩
theorem acct_t {a : Int} (w : World) (h : isAc a = true) : Calls Tryz.prog 33 #[.int .i64 a] w fun e w' => e = .returned (.bool true) ∧ w = w' := by rw [← h]; exact acct_any a w
theorem acct_f {a : Int} (w : World) (h : isAc a = false) : Calls Tryz.prog 33 #[.int .i64 a] w fun e w' => e = .returned (.bool false) ∧ w = w' := by rw [← h]; exact acct_any a w
/-- a call is one -/
def callOk (x : VCall20) : Bool := decide (1 ≤ x.x_id) && (decide (x.x_id ≤ 1000000) && (isAc x.x_xf && (isAc x.x_xt && (!(x.x_xf == x.x_xt) && (decide (1 ≤ x.x_xn) && (isA x.x_xn && (inT x.fr && (inT x.too && (decide (x.fr ≤ x.too) && (if x.fate = 2 then decide (1 ≤ x.tt) && inT x.tt else if x.fate = 3 then x.tt == 0 else false))))))))))
set_option maxRecDepth 100000 in
set_option maxHeartbeats 2000000 in
theorem call_bad1 (id xf xt xn fr too fate tt : Int) (w : World) (h1 : ¬ (1 ≤ id)) :
    Calls Tryz.prog 36 #[.agg #[.int .i64 id, .int .i64 xf, .int .i64 xt, .int .i64 xn, .int .i64 fr, .int .i64 too, .int .i64 fate, .int .i64 tt]] w fun e w' => e = .returned (.bool false) ∧ Below w.heap.size w w' := by
  have d1 : decide (id < 1) = true := by simp; omega
  go_enter Tryz.func36, Tryz.ntmps36
  go_wp2_with (first | (go_at_call 33; (with_reducible refine (acct_t (a := xf) _ H3.out).mono ?_); rintro e w1 ⟨rfl, rfl⟩) | (go_at_call 33; (with_reducible refine (acct_f (a := xf) _ G3.out).mono ?_); rintro e w1 ⟨rfl, rfl⟩) | (go_at_call 33; (with_reducible refine (acct_t (a := xt) _ H4.out).mono ?_); rintro e w1 ⟨rfl, rfl⟩) | (go_at_call 33; (with_reducible refine (acct_f (a := xt) _ G4.out).mono ?_); rintro e w1 ⟨rfl, rfl⟩) | (go_at_call 34; (with_reducible refine (chk_t (n := xn) _ H7.out).mono ?_); rintro e w1 ⟨rfl, rfl⟩) | (go_at_call 34; (with_reducible refine (chk_f (n := xn) _ G7.out).mono ?_); rintro e w1 ⟨rfl, rfl⟩) | (go_at_call 24; (with_reducible refine (in_t (t := fr) _ H8.out).mono ?_); rintro e w1 ⟨rfl, rfl⟩) | (go_at_call 24; (with_reducible refine (in_f (t := fr) _ G8.out).mono ?_); rintro e w1 ⟨rfl, rfl⟩) | (go_at_call 24; (with_reducible refine (in_t (t := too) _ H9.out).mono ?_); rintro e w1 ⟨rfl, rfl⟩) | (go_at_call 24; (with_reducible refine (in_f (t := too) _ G9.out).mono ?_); rintro e w1 ⟨rfl, rfl⟩) | (go_at_call 24; (with_reducible refine (in_t (t := tt) _ H12.out).mono ?_); rintro e w1 ⟨rfl, rfl⟩) | (go_at_call 24; (with_reducible refine (in_f (t := tt) _ G12.out).mono ?_); rintro e w1 ⟨rfl, rfl⟩))
  go_ret
  exact ⟨rfl, by repeat (first | exact Below.refl _ _ | refine below_alloc_ ?_ _ | refine Below.drew ?_)⟩
set_option maxRecDepth 100000 in
set_option maxHeartbeats 2000000 in
theorem call_bad2 (id xf xt xn fr too fate tt : Int) (w : World) (h1 : 1 ≤ id) (h2 : ¬ (id ≤ 1000000)) :
    Calls Tryz.prog 36 #[.agg #[.int .i64 id, .int .i64 xf, .int .i64 xt, .int .i64 xn, .int .i64 fr, .int .i64 too, .int .i64 fate, .int .i64 tt]] w fun e w' => e = .returned (.bool false) ∧ Below w.heap.size w w' := by
  have d1 : decide (id < 1) = false := by simp; omega
  have d2 : decide (1000000 < id) = true := by simp; omega
  go_enter Tryz.func36, Tryz.ntmps36
  go_wp2_with (first | (go_at_call 33; (with_reducible refine (acct_t (a := xf) _ H3.out).mono ?_); rintro e w1 ⟨rfl, rfl⟩) | (go_at_call 33; (with_reducible refine (acct_f (a := xf) _ G3.out).mono ?_); rintro e w1 ⟨rfl, rfl⟩) | (go_at_call 33; (with_reducible refine (acct_t (a := xt) _ H4.out).mono ?_); rintro e w1 ⟨rfl, rfl⟩) | (go_at_call 33; (with_reducible refine (acct_f (a := xt) _ G4.out).mono ?_); rintro e w1 ⟨rfl, rfl⟩) | (go_at_call 34; (with_reducible refine (chk_t (n := xn) _ H7.out).mono ?_); rintro e w1 ⟨rfl, rfl⟩) | (go_at_call 34; (with_reducible refine (chk_f (n := xn) _ G7.out).mono ?_); rintro e w1 ⟨rfl, rfl⟩) | (go_at_call 24; (with_reducible refine (in_t (t := fr) _ H8.out).mono ?_); rintro e w1 ⟨rfl, rfl⟩) | (go_at_call 24; (with_reducible refine (in_f (t := fr) _ G8.out).mono ?_); rintro e w1 ⟨rfl, rfl⟩) | (go_at_call 24; (with_reducible refine (in_t (t := too) _ H9.out).mono ?_); rintro e w1 ⟨rfl, rfl⟩) | (go_at_call 24; (with_reducible refine (in_f (t := too) _ G9.out).mono ?_); rintro e w1 ⟨rfl, rfl⟩) | (go_at_call 24; (with_reducible refine (in_t (t := tt) _ H12.out).mono ?_); rintro e w1 ⟨rfl, rfl⟩) | (go_at_call 24; (with_reducible refine (in_f (t := tt) _ G12.out).mono ?_); rintro e w1 ⟨rfl, rfl⟩))
  go_ret
  exact ⟨rfl, by repeat (first | exact Below.refl _ _ | refine below_alloc_ ?_ _ | refine Below.drew ?_)⟩
set_option maxRecDepth 100000 in
set_option maxHeartbeats 2000000 in
theorem call_bad3 (id xf xt xn fr too fate tt : Int) (w : World) (h1 : 1 ≤ id) (h2 : id ≤ 1000000) (h3 : ¬ (isAc xf = true)) :
    Calls Tryz.prog 36 #[.agg #[.int .i64 id, .int .i64 xf, .int .i64 xt, .int .i64 xn, .int .i64 fr, .int .i64 too, .int .i64 fate, .int .i64 tt]] w fun e w' => e = .returned (.bool false) ∧ Below w.heap.size w w' := by
  have d1 : decide (id < 1) = false := by simp; omega
  have d2 : decide (1000000 < id) = false := by simp; omega
  have G3 := Lib.hid (Bool.eq_false_iff.2 h3)
  clear h3
  go_enter Tryz.func36, Tryz.ntmps36
  go_wp2_with (first | (go_at_call 33; (with_reducible refine (acct_t (a := xf) _ H3.out).mono ?_); rintro e w1 ⟨rfl, rfl⟩) | (go_at_call 33; (with_reducible refine (acct_f (a := xf) _ G3.out).mono ?_); rintro e w1 ⟨rfl, rfl⟩) | (go_at_call 33; (with_reducible refine (acct_t (a := xt) _ H4.out).mono ?_); rintro e w1 ⟨rfl, rfl⟩) | (go_at_call 33; (with_reducible refine (acct_f (a := xt) _ G4.out).mono ?_); rintro e w1 ⟨rfl, rfl⟩) | (go_at_call 34; (with_reducible refine (chk_t (n := xn) _ H7.out).mono ?_); rintro e w1 ⟨rfl, rfl⟩) | (go_at_call 34; (with_reducible refine (chk_f (n := xn) _ G7.out).mono ?_); rintro e w1 ⟨rfl, rfl⟩) | (go_at_call 24; (with_reducible refine (in_t (t := fr) _ H8.out).mono ?_); rintro e w1 ⟨rfl, rfl⟩) | (go_at_call 24; (with_reducible refine (in_f (t := fr) _ G8.out).mono ?_); rintro e w1 ⟨rfl, rfl⟩) | (go_at_call 24; (with_reducible refine (in_t (t := too) _ H9.out).mono ?_); rintro e w1 ⟨rfl, rfl⟩) | (go_at_call 24; (with_reducible refine (in_f (t := too) _ G9.out).mono ?_); rintro e w1 ⟨rfl, rfl⟩) | (go_at_call 24; (with_reducible refine (in_t (t := tt) _ H12.out).mono ?_); rintro e w1 ⟨rfl, rfl⟩) | (go_at_call 24; (with_reducible refine (in_f (t := tt) _ G12.out).mono ?_); rintro e w1 ⟨rfl, rfl⟩))
  go_ret
  exact ⟨rfl, by repeat (first | exact Below.refl _ _ | refine below_alloc_ ?_ _ | refine Below.drew ?_)⟩
set_option maxRecDepth 100000 in
set_option maxHeartbeats 2000000 in
theorem call_bad4 (id xf xt xn fr too fate tt : Int) (w : World) (h1 : 1 ≤ id) (h2 : id ≤ 1000000) (h3 : isAc xf = true) (h4 : ¬ (isAc xt = true)) :
    Calls Tryz.prog 36 #[.agg #[.int .i64 id, .int .i64 xf, .int .i64 xt, .int .i64 xn, .int .i64 fr, .int .i64 too, .int .i64 fate, .int .i64 tt]] w fun e w' => e = .returned (.bool false) ∧ Below w.heap.size w w' := by
  have d1 : decide (id < 1) = false := by simp; omega
  have d2 : decide (1000000 < id) = false := by simp; omega
  have H3 := Lib.hid h3
  have G4 := Lib.hid (Bool.eq_false_iff.2 h4)
  clear h4
  clear h3
  go_enter Tryz.func36, Tryz.ntmps36
  go_wp2_with (first | (go_at_call 33; (with_reducible refine (acct_t (a := xf) _ H3.out).mono ?_); rintro e w1 ⟨rfl, rfl⟩) | (go_at_call 33; (with_reducible refine (acct_f (a := xf) _ G3.out).mono ?_); rintro e w1 ⟨rfl, rfl⟩) | (go_at_call 33; (with_reducible refine (acct_t (a := xt) _ H4.out).mono ?_); rintro e w1 ⟨rfl, rfl⟩) | (go_at_call 33; (with_reducible refine (acct_f (a := xt) _ G4.out).mono ?_); rintro e w1 ⟨rfl, rfl⟩) | (go_at_call 34; (with_reducible refine (chk_t (n := xn) _ H7.out).mono ?_); rintro e w1 ⟨rfl, rfl⟩) | (go_at_call 34; (with_reducible refine (chk_f (n := xn) _ G7.out).mono ?_); rintro e w1 ⟨rfl, rfl⟩) | (go_at_call 24; (with_reducible refine (in_t (t := fr) _ H8.out).mono ?_); rintro e w1 ⟨rfl, rfl⟩) | (go_at_call 24; (with_reducible refine (in_f (t := fr) _ G8.out).mono ?_); rintro e w1 ⟨rfl, rfl⟩) | (go_at_call 24; (with_reducible refine (in_t (t := too) _ H9.out).mono ?_); rintro e w1 ⟨rfl, rfl⟩) | (go_at_call 24; (with_reducible refine (in_f (t := too) _ G9.out).mono ?_); rintro e w1 ⟨rfl, rfl⟩) | (go_at_call 24; (with_reducible refine (in_t (t := tt) _ H12.out).mono ?_); rintro e w1 ⟨rfl, rfl⟩) | (go_at_call 24; (with_reducible refine (in_f (t := tt) _ G12.out).mono ?_); rintro e w1 ⟨rfl, rfl⟩))
  go_ret
  exact ⟨rfl, by repeat (first | exact Below.refl _ _ | refine below_alloc_ ?_ _ | refine Below.drew ?_)⟩
set_option maxRecDepth 100000 in
set_option maxHeartbeats 2000000 in
theorem call_bad5 (id xf xt xn fr too fate tt : Int) (w : World) (h1 : 1 ≤ id) (h2 : id ≤ 1000000) (h3 : isAc xf = true) (h4 : isAc xt = true) (h5 : ¬ (xf ≠ xt)) :
    Calls Tryz.prog 36 #[.agg #[.int .i64 id, .int .i64 xf, .int .i64 xt, .int .i64 xn, .int .i64 fr, .int .i64 too, .int .i64 fate, .int .i64 tt]] w fun e w' => e = .returned (.bool false) ∧ Below w.heap.size w w' := by
  have d1 : decide (id < 1) = false := by simp; omega
  have d2 : decide (1000000 < id) = false := by simp; omega
  have H3 := Lib.hid h3
  have H4 := Lib.hid h4
  have d5 : (xf == xt) = true := by simpa using h5
  clear h5
  clear h3 h4
  go_enter Tryz.func36, Tryz.ntmps36
  go_wp2_with (first | (go_at_call 33; (with_reducible refine (acct_t (a := xf) _ H3.out).mono ?_); rintro e w1 ⟨rfl, rfl⟩) | (go_at_call 33; (with_reducible refine (acct_f (a := xf) _ G3.out).mono ?_); rintro e w1 ⟨rfl, rfl⟩) | (go_at_call 33; (with_reducible refine (acct_t (a := xt) _ H4.out).mono ?_); rintro e w1 ⟨rfl, rfl⟩) | (go_at_call 33; (with_reducible refine (acct_f (a := xt) _ G4.out).mono ?_); rintro e w1 ⟨rfl, rfl⟩) | (go_at_call 34; (with_reducible refine (chk_t (n := xn) _ H7.out).mono ?_); rintro e w1 ⟨rfl, rfl⟩) | (go_at_call 34; (with_reducible refine (chk_f (n := xn) _ G7.out).mono ?_); rintro e w1 ⟨rfl, rfl⟩) | (go_at_call 24; (with_reducible refine (in_t (t := fr) _ H8.out).mono ?_); rintro e w1 ⟨rfl, rfl⟩) | (go_at_call 24; (with_reducible refine (in_f (t := fr) _ G8.out).mono ?_); rintro e w1 ⟨rfl, rfl⟩) | (go_at_call 24; (with_reducible refine (in_t (t := too) _ H9.out).mono ?_); rintro e w1 ⟨rfl, rfl⟩) | (go_at_call 24; (with_reducible refine (in_f (t := too) _ G9.out).mono ?_); rintro e w1 ⟨rfl, rfl⟩) | (go_at_call 24; (with_reducible refine (in_t (t := tt) _ H12.out).mono ?_); rintro e w1 ⟨rfl, rfl⟩) | (go_at_call 24; (with_reducible refine (in_f (t := tt) _ G12.out).mono ?_); rintro e w1 ⟨rfl, rfl⟩))
  go_ret
  exact ⟨rfl, by repeat (first | exact Below.refl _ _ | refine below_alloc_ ?_ _ | refine Below.drew ?_)⟩
set_option maxRecDepth 100000 in
set_option maxHeartbeats 2000000 in
theorem call_bad6 (id xf xt xn fr too fate tt : Int) (w : World) (h1 : 1 ≤ id) (h2 : id ≤ 1000000) (h3 : isAc xf = true) (h4 : isAc xt = true) (h5 : xf ≠ xt) (h6 : ¬ (1 ≤ xn)) :
    Calls Tryz.prog 36 #[.agg #[.int .i64 id, .int .i64 xf, .int .i64 xt, .int .i64 xn, .int .i64 fr, .int .i64 too, .int .i64 fate, .int .i64 tt]] w fun e w' => e = .returned (.bool false) ∧ Below w.heap.size w w' := by
  have d1 : decide (id < 1) = false := by simp; omega
  have d2 : decide (1000000 < id) = false := by simp; omega
  have H3 := Lib.hid h3
  have H4 := Lib.hid h4
  have d5 : (xf == xt) = false := by simpa using h5
  have d6 : decide (xn < 1) = true := by simp; omega
  clear h3 h4 h5
  go_enter Tryz.func36, Tryz.ntmps36
  go_wp2_with (first | (go_at_call 33; (with_reducible refine (acct_t (a := xf) _ H3.out).mono ?_); rintro e w1 ⟨rfl, rfl⟩) | (go_at_call 33; (with_reducible refine (acct_f (a := xf) _ G3.out).mono ?_); rintro e w1 ⟨rfl, rfl⟩) | (go_at_call 33; (with_reducible refine (acct_t (a := xt) _ H4.out).mono ?_); rintro e w1 ⟨rfl, rfl⟩) | (go_at_call 33; (with_reducible refine (acct_f (a := xt) _ G4.out).mono ?_); rintro e w1 ⟨rfl, rfl⟩) | (go_at_call 34; (with_reducible refine (chk_t (n := xn) _ H7.out).mono ?_); rintro e w1 ⟨rfl, rfl⟩) | (go_at_call 34; (with_reducible refine (chk_f (n := xn) _ G7.out).mono ?_); rintro e w1 ⟨rfl, rfl⟩) | (go_at_call 24; (with_reducible refine (in_t (t := fr) _ H8.out).mono ?_); rintro e w1 ⟨rfl, rfl⟩) | (go_at_call 24; (with_reducible refine (in_f (t := fr) _ G8.out).mono ?_); rintro e w1 ⟨rfl, rfl⟩) | (go_at_call 24; (with_reducible refine (in_t (t := too) _ H9.out).mono ?_); rintro e w1 ⟨rfl, rfl⟩) | (go_at_call 24; (with_reducible refine (in_f (t := too) _ G9.out).mono ?_); rintro e w1 ⟨rfl, rfl⟩) | (go_at_call 24; (with_reducible refine (in_t (t := tt) _ H12.out).mono ?_); rintro e w1 ⟨rfl, rfl⟩) | (go_at_call 24; (with_reducible refine (in_f (t := tt) _ G12.out).mono ?_); rintro e w1 ⟨rfl, rfl⟩))
  go_ret
  exact ⟨rfl, by repeat (first | exact Below.refl _ _ | refine below_alloc_ ?_ _ | refine Below.drew ?_)⟩
set_option maxRecDepth 100000 in
set_option maxHeartbeats 2000000 in
theorem call_bad7 (id xf xt xn fr too fate tt : Int) (w : World) (h1 : 1 ≤ id) (h2 : id ≤ 1000000) (h3 : isAc xf = true) (h4 : isAc xt = true) (h5 : xf ≠ xt) (h6 : 1 ≤ xn) (h7 : ¬ (isA xn = true)) :
    Calls Tryz.prog 36 #[.agg #[.int .i64 id, .int .i64 xf, .int .i64 xt, .int .i64 xn, .int .i64 fr, .int .i64 too, .int .i64 fate, .int .i64 tt]] w fun e w' => e = .returned (.bool false) ∧ Below w.heap.size w w' := by
  have d1 : decide (id < 1) = false := by simp; omega
  have d2 : decide (1000000 < id) = false := by simp; omega
  have H3 := Lib.hid h3
  have H4 := Lib.hid h4
  have d5 : (xf == xt) = false := by simpa using h5
  have d6 : decide (xn < 1) = false := by simp; omega
  have G7 := Lib.hid (Bool.eq_false_iff.2 h7)
  clear h7
  clear h3 h4 h5
  go_enter Tryz.func36, Tryz.ntmps36
  go_wp2_with (first | (go_at_call 33; (with_reducible refine (acct_t (a := xf) _ H3.out).mono ?_); rintro e w1 ⟨rfl, rfl⟩) | (go_at_call 33; (with_reducible refine (acct_f (a := xf) _ G3.out).mono ?_); rintro e w1 ⟨rfl, rfl⟩) | (go_at_call 33; (with_reducible refine (acct_t (a := xt) _ H4.out).mono ?_); rintro e w1 ⟨rfl, rfl⟩) | (go_at_call 33; (with_reducible refine (acct_f (a := xt) _ G4.out).mono ?_); rintro e w1 ⟨rfl, rfl⟩) | (go_at_call 34; (with_reducible refine (chk_t (n := xn) _ H7.out).mono ?_); rintro e w1 ⟨rfl, rfl⟩) | (go_at_call 34; (with_reducible refine (chk_f (n := xn) _ G7.out).mono ?_); rintro e w1 ⟨rfl, rfl⟩) | (go_at_call 24; (with_reducible refine (in_t (t := fr) _ H8.out).mono ?_); rintro e w1 ⟨rfl, rfl⟩) | (go_at_call 24; (with_reducible refine (in_f (t := fr) _ G8.out).mono ?_); rintro e w1 ⟨rfl, rfl⟩) | (go_at_call 24; (with_reducible refine (in_t (t := too) _ H9.out).mono ?_); rintro e w1 ⟨rfl, rfl⟩) | (go_at_call 24; (with_reducible refine (in_f (t := too) _ G9.out).mono ?_); rintro e w1 ⟨rfl, rfl⟩) | (go_at_call 24; (with_reducible refine (in_t (t := tt) _ H12.out).mono ?_); rintro e w1 ⟨rfl, rfl⟩) | (go_at_call 24; (with_reducible refine (in_f (t := tt) _ G12.out).mono ?_); rintro e w1 ⟨rfl, rfl⟩))
  go_ret
  exact ⟨rfl, by repeat (first | exact Below.refl _ _ | refine below_alloc_ ?_ _ | refine Below.drew ?_)⟩
set_option maxRecDepth 100000 in
set_option maxHeartbeats 2000000 in
theorem call_bad8 (id xf xt xn fr too fate tt : Int) (w : World) (h1 : 1 ≤ id) (h2 : id ≤ 1000000) (h3 : isAc xf = true) (h4 : isAc xt = true) (h5 : xf ≠ xt) (h6 : 1 ≤ xn) (h7 : isA xn = true) (h8 : ¬ (inT fr = true)) :
    Calls Tryz.prog 36 #[.agg #[.int .i64 id, .int .i64 xf, .int .i64 xt, .int .i64 xn, .int .i64 fr, .int .i64 too, .int .i64 fate, .int .i64 tt]] w fun e w' => e = .returned (.bool false) ∧ Below w.heap.size w w' := by
  have d1 : decide (id < 1) = false := by simp; omega
  have d2 : decide (1000000 < id) = false := by simp; omega
  have H3 := Lib.hid h3
  have H4 := Lib.hid h4
  have d5 : (xf == xt) = false := by simpa using h5
  have d6 : decide (xn < 1) = false := by simp; omega
  have H7 := Lib.hid h7
  have G8 := Lib.hid (Bool.eq_false_iff.2 h8)
  clear h8
  clear h3 h4 h5 h7
  go_enter Tryz.func36, Tryz.ntmps36
  go_wp2_with (first | (go_at_call 33; (with_reducible refine (acct_t (a := xf) _ H3.out).mono ?_); rintro e w1 ⟨rfl, rfl⟩) | (go_at_call 33; (with_reducible refine (acct_f (a := xf) _ G3.out).mono ?_); rintro e w1 ⟨rfl, rfl⟩) | (go_at_call 33; (with_reducible refine (acct_t (a := xt) _ H4.out).mono ?_); rintro e w1 ⟨rfl, rfl⟩) | (go_at_call 33; (with_reducible refine (acct_f (a := xt) _ G4.out).mono ?_); rintro e w1 ⟨rfl, rfl⟩) | (go_at_call 34; (with_reducible refine (chk_t (n := xn) _ H7.out).mono ?_); rintro e w1 ⟨rfl, rfl⟩) | (go_at_call 34; (with_reducible refine (chk_f (n := xn) _ G7.out).mono ?_); rintro e w1 ⟨rfl, rfl⟩) | (go_at_call 24; (with_reducible refine (in_t (t := fr) _ H8.out).mono ?_); rintro e w1 ⟨rfl, rfl⟩) | (go_at_call 24; (with_reducible refine (in_f (t := fr) _ G8.out).mono ?_); rintro e w1 ⟨rfl, rfl⟩) | (go_at_call 24; (with_reducible refine (in_t (t := too) _ H9.out).mono ?_); rintro e w1 ⟨rfl, rfl⟩) | (go_at_call 24; (with_reducible refine (in_f (t := too) _ G9.out).mono ?_); rintro e w1 ⟨rfl, rfl⟩) | (go_at_call 24; (with_reducible refine (in_t (t := tt) _ H12.out).mono ?_); rintro e w1 ⟨rfl, rfl⟩) | (go_at_call 24; (with_reducible refine (in_f (t := tt) _ G12.out).mono ?_); rintro e w1 ⟨rfl, rfl⟩))
  go_ret
  exact ⟨rfl, by repeat (first | exact Below.refl _ _ | refine below_alloc_ ?_ _ | refine Below.drew ?_)⟩
set_option maxRecDepth 100000 in
set_option maxHeartbeats 2000000 in
theorem call_bad9 (id xf xt xn fr too fate tt : Int) (w : World) (h1 : 1 ≤ id) (h2 : id ≤ 1000000) (h3 : isAc xf = true) (h4 : isAc xt = true) (h5 : xf ≠ xt) (h6 : 1 ≤ xn) (h7 : isA xn = true) (h8 : inT fr = true) (h9 : ¬ (inT too = true)) :
    Calls Tryz.prog 36 #[.agg #[.int .i64 id, .int .i64 xf, .int .i64 xt, .int .i64 xn, .int .i64 fr, .int .i64 too, .int .i64 fate, .int .i64 tt]] w fun e w' => e = .returned (.bool false) ∧ Below w.heap.size w w' := by
  have d1 : decide (id < 1) = false := by simp; omega
  have d2 : decide (1000000 < id) = false := by simp; omega
  have H3 := Lib.hid h3
  have H4 := Lib.hid h4
  have d5 : (xf == xt) = false := by simpa using h5
  have d6 : decide (xn < 1) = false := by simp; omega
  have H7 := Lib.hid h7
  have H8 := Lib.hid h8
  have G9 := Lib.hid (Bool.eq_false_iff.2 h9)
  clear h9
  clear h3 h4 h5 h7 h8
  go_enter Tryz.func36, Tryz.ntmps36
  go_wp2_with (first | (go_at_call 33; (with_reducible refine (acct_t (a := xf) _ H3.out).mono ?_); rintro e w1 ⟨rfl, rfl⟩) | (go_at_call 33; (with_reducible refine (acct_f (a := xf) _ G3.out).mono ?_); rintro e w1 ⟨rfl, rfl⟩) | (go_at_call 33; (with_reducible refine (acct_t (a := xt) _ H4.out).mono ?_); rintro e w1 ⟨rfl, rfl⟩) | (go_at_call 33; (with_reducible refine (acct_f (a := xt) _ G4.out).mono ?_); rintro e w1 ⟨rfl, rfl⟩) | (go_at_call 34; (with_reducible refine (chk_t (n := xn) _ H7.out).mono ?_); rintro e w1 ⟨rfl, rfl⟩) | (go_at_call 34; (with_reducible refine (chk_f (n := xn) _ G7.out).mono ?_); rintro e w1 ⟨rfl, rfl⟩) | (go_at_call 24; (with_reducible refine (in_t (t := fr) _ H8.out).mono ?_); rintro e w1 ⟨rfl, rfl⟩) | (go_at_call 24; (with_reducible refine (in_f (t := fr) _ G8.out).mono ?_); rintro e w1 ⟨rfl, rfl⟩) | (go_at_call 24; (with_reducible refine (in_t (t := too) _ H9.out).mono ?_); rintro e w1 ⟨rfl, rfl⟩) | (go_at_call 24; (with_reducible refine (in_f (t := too) _ G9.out).mono ?_); rintro e w1 ⟨rfl, rfl⟩) | (go_at_call 24; (with_reducible refine (in_t (t := tt) _ H12.out).mono ?_); rintro e w1 ⟨rfl, rfl⟩) | (go_at_call 24; (with_reducible refine (in_f (t := tt) _ G12.out).mono ?_); rintro e w1 ⟨rfl, rfl⟩))
  go_ret
  exact ⟨rfl, by repeat (first | exact Below.refl _ _ | refine below_alloc_ ?_ _ | refine Below.drew ?_)⟩
set_option maxRecDepth 100000 in
set_option maxHeartbeats 2000000 in
theorem call_bad10 (id xf xt xn fr too fate tt : Int) (w : World) (h1 : 1 ≤ id) (h2 : id ≤ 1000000) (h3 : isAc xf = true) (h4 : isAc xt = true) (h5 : xf ≠ xt) (h6 : 1 ≤ xn) (h7 : isA xn = true) (h8 : inT fr = true) (h9 : inT too = true) (h10 : ¬ (fr ≤ too)) :
    Calls Tryz.prog 36 #[.agg #[.int .i64 id, .int .i64 xf, .int .i64 xt, .int .i64 xn, .int .i64 fr, .int .i64 too, .int .i64 fate, .int .i64 tt]] w fun e w' => e = .returned (.bool false) ∧ Below w.heap.size w w' := by
  have d1 : decide (id < 1) = false := by simp; omega
  have d2 : decide (1000000 < id) = false := by simp; omega
  have H3 := Lib.hid h3
  have H4 := Lib.hid h4
  have d5 : (xf == xt) = false := by simpa using h5
  have d6 : decide (xn < 1) = false := by simp; omega
  have H7 := Lib.hid h7
  have H8 := Lib.hid h8
  have H9 := Lib.hid h9
  have d10 : decide (too < fr) = true := by simp; omega
  clear h3 h4 h5 h7 h8 h9
  go_enter Tryz.func36, Tryz.ntmps36
  go_wp2_with (first | (go_at_call 33; (with_reducible refine (acct_t (a := xf) _ H3.out).mono ?_); rintro e w1 ⟨rfl, rfl⟩) | (go_at_call 33; (with_reducible refine (acct_f (a := xf) _ G3.out).mono ?_); rintro e w1 ⟨rfl, rfl⟩) | (go_at_call 33; (with_reducible refine (acct_t (a := xt) _ H4.out).mono ?_); rintro e w1 ⟨rfl, rfl⟩) | (go_at_call 33; (with_reducible refine (acct_f (a := xt) _ G4.out).mono ?_); rintro e w1 ⟨rfl, rfl⟩) | (go_at_call 34; (with_reducible refine (chk_t (n := xn) _ H7.out).mono ?_); rintro e w1 ⟨rfl, rfl⟩) | (go_at_call 34; (with_reducible refine (chk_f (n := xn) _ G7.out).mono ?_); rintro e w1 ⟨rfl, rfl⟩) | (go_at_call 24; (with_reducible refine (in_t (t := fr) _ H8.out).mono ?_); rintro e w1 ⟨rfl, rfl⟩) | (go_at_call 24; (with_reducible refine (in_f (t := fr) _ G8.out).mono ?_); rintro e w1 ⟨rfl, rfl⟩) | (go_at_call 24; (with_reducible refine (in_t (t := too) _ H9.out).mono ?_); rintro e w1 ⟨rfl, rfl⟩) | (go_at_call 24; (with_reducible refine (in_f (t := too) _ G9.out).mono ?_); rintro e w1 ⟨rfl, rfl⟩) | (go_at_call 24; (with_reducible refine (in_t (t := tt) _ H12.out).mono ?_); rintro e w1 ⟨rfl, rfl⟩) | (go_at_call 24; (with_reducible refine (in_f (t := tt) _ G12.out).mono ?_); rintro e w1 ⟨rfl, rfl⟩))
  go_ret
  exact ⟨rfl, by repeat (first | exact Below.refl _ _ | refine below_alloc_ ?_ _ | refine Below.drew ?_)⟩
set_option maxRecDepth 100000 in
set_option maxHeartbeats 2000000 in
theorem call_com0 (id xf xt xn fr too fate tt : Int) (w : World) (h1 : 1 ≤ id) (h2 : id ≤ 1000000) (h3 : isAc xf = true) (h4 : isAc xt = true) (h5 : xf ≠ xt) (h6 : 1 ≤ xn) (h7 : isA xn = true) (h8 : inT fr = true) (h9 : inT too = true) (h10 : fr ≤ too) (h11 : fate = 2) (h12 : tt < 1) :
    Calls Tryz.prog 36 #[.agg #[.int .i64 id, .int .i64 xf, .int .i64 xt, .int .i64 xn, .int .i64 fr, .int .i64 too, .int .i64 fate, .int .i64 tt]] w fun e w' => e = .returned (.bool false) ∧ Below w.heap.size w w' := by
  have d1 : decide (id < 1) = false := by simp; omega
  have d2 : decide (1000000 < id) = false := by simp; omega
  have H3 := Lib.hid h3
  have H4 := Lib.hid h4
  have d5 : (xf == xt) = false := by simpa using h5
  have d6 : decide (xn < 1) = false := by simp; omega
  have H7 := Lib.hid h7
  have H8 := Lib.hid h8
  have H9 := Lib.hid h9
  have d10 : decide (too < fr) = false := by simp; omega
  have d11 : (fate == 2) = true := by simpa using h11
  have d12 : decide (1 ≤ tt) = false := by simp; omega
  clear h11
  clear h3 h4 h5 h7 h8 h9
  go_enter Tryz.func36, Tryz.ntmps36
  go_wp2_with (first | (go_at_call 33; (with_reducible refine (acct_t (a := xf) _ H3.out).mono ?_); rintro e w1 ⟨rfl, rfl⟩) | (go_at_call 33; (with_reducible refine (acct_f (a := xf) _ G3.out).mono ?_); rintro e w1 ⟨rfl, rfl⟩) | (go_at_call 33; (with_reducible refine (acct_t (a := xt) _ H4.out).mono ?_); rintro e w1 ⟨rfl, rfl⟩) | (go_at_call 33; (with_reducible refine (acct_f (a := xt) _ G4.out).mono ?_); rintro e w1 ⟨rfl, rfl⟩) | (go_at_call 34; (with_reducible refine (chk_t (n := xn) _ H7.out).mono ?_); rintro e w1 ⟨rfl, rfl⟩) | (go_at_call 34; (with_reducible refine (chk_f (n := xn) _ G7.out).mono ?_); rintro e w1 ⟨rfl, rfl⟩) | (go_at_call 24; (with_reducible refine (in_t (t := fr) _ H8.out).mono ?_); rintro e w1 ⟨rfl, rfl⟩) | (go_at_call 24; (with_reducible refine (in_f (t := fr) _ G8.out).mono ?_); rintro e w1 ⟨rfl, rfl⟩) | (go_at_call 24; (with_reducible refine (in_t (t := too) _ H9.out).mono ?_); rintro e w1 ⟨rfl, rfl⟩) | (go_at_call 24; (with_reducible refine (in_f (t := too) _ G9.out).mono ?_); rintro e w1 ⟨rfl, rfl⟩) | (go_at_call 24; (with_reducible refine (in_t (t := tt) _ H12.out).mono ?_); rintro e w1 ⟨rfl, rfl⟩) | (go_at_call 24; (with_reducible refine (in_f (t := tt) _ G12.out).mono ?_); rintro e w1 ⟨rfl, rfl⟩))
  go_ret
  exact ⟨rfl, by repeat (first | exact Below.refl _ _ | refine below_alloc_ ?_ _ | refine Below.drew ?_)⟩
set_option maxRecDepth 100000 in
set_option maxHeartbeats 2000000 in
theorem call_com1 (id xf xt xn fr too fate tt : Int) (w : World) (h1 : 1 ≤ id) (h2 : id ≤ 1000000) (h3 : isAc xf = true) (h4 : isAc xt = true) (h5 : xf ≠ xt) (h6 : 1 ≤ xn) (h7 : isA xn = true) (h8 : inT fr = true) (h9 : inT too = true) (h10 : fr ≤ too) (h11 : fate = 2) (h12 : 1 ≤ tt) (h13 : inT tt = false) :
    Calls Tryz.prog 36 #[.agg #[.int .i64 id, .int .i64 xf, .int .i64 xt, .int .i64 xn, .int .i64 fr, .int .i64 too, .int .i64 fate, .int .i64 tt]] w fun e w' => e = .returned (.bool false) ∧ Below w.heap.size w w' := by
  have d1 : decide (id < 1) = false := by simp; omega
  have d2 : decide (1000000 < id) = false := by simp; omega
  have H3 := Lib.hid h3
  have H4 := Lib.hid h4
  have d5 : (xf == xt) = false := by simpa using h5
  have d6 : decide (xn < 1) = false := by simp; omega
  have H7 := Lib.hid h7
  have H8 := Lib.hid h8
  have H9 := Lib.hid h9
  have d10 : decide (too < fr) = false := by simp; omega
  have d11 : (fate == 2) = true := by simpa using h11
  have d12 : decide (1 ≤ tt) = true := by simp; omega
  have G12 := Lib.hid h13
  clear h11 h13
  clear h3 h4 h5 h7 h8 h9
  go_enter Tryz.func36, Tryz.ntmps36
  go_wp2_with (first | (go_at_call 33; (with_reducible refine (acct_t (a := xf) _ H3.out).mono ?_); rintro e w1 ⟨rfl, rfl⟩) | (go_at_call 33; (with_reducible refine (acct_f (a := xf) _ G3.out).mono ?_); rintro e w1 ⟨rfl, rfl⟩) | (go_at_call 33; (with_reducible refine (acct_t (a := xt) _ H4.out).mono ?_); rintro e w1 ⟨rfl, rfl⟩) | (go_at_call 33; (with_reducible refine (acct_f (a := xt) _ G4.out).mono ?_); rintro e w1 ⟨rfl, rfl⟩) | (go_at_call 34; (with_reducible refine (chk_t (n := xn) _ H7.out).mono ?_); rintro e w1 ⟨rfl, rfl⟩) | (go_at_call 34; (with_reducible refine (chk_f (n := xn) _ G7.out).mono ?_); rintro e w1 ⟨rfl, rfl⟩) | (go_at_call 24; (with_reducible refine (in_t (t := fr) _ H8.out).mono ?_); rintro e w1 ⟨rfl, rfl⟩) | (go_at_call 24; (with_reducible refine (in_f (t := fr) _ G8.out).mono ?_); rintro e w1 ⟨rfl, rfl⟩) | (go_at_call 24; (with_reducible refine (in_t (t := too) _ H9.out).mono ?_); rintro e w1 ⟨rfl, rfl⟩) | (go_at_call 24; (with_reducible refine (in_f (t := too) _ G9.out).mono ?_); rintro e w1 ⟨rfl, rfl⟩) | (go_at_call 24; (with_reducible refine (in_t (t := tt) _ H12.out).mono ?_); rintro e w1 ⟨rfl, rfl⟩) | (go_at_call 24; (with_reducible refine (in_f (t := tt) _ G12.out).mono ?_); rintro e w1 ⟨rfl, rfl⟩))
  go_ret
  exact ⟨rfl, by repeat (first | exact Below.refl _ _ | refine below_alloc_ ?_ _ | refine Below.drew ?_)⟩
set_option maxRecDepth 100000 in
set_option maxHeartbeats 2000000 in
theorem call_com2 (id xf xt xn fr too fate tt : Int) (w : World) (h1 : 1 ≤ id) (h2 : id ≤ 1000000) (h3 : isAc xf = true) (h4 : isAc xt = true) (h5 : xf ≠ xt) (h6 : 1 ≤ xn) (h7 : isA xn = true) (h8 : inT fr = true) (h9 : inT too = true) (h10 : fr ≤ too) (h11 : fate = 2) (h12 : 1 ≤ tt) (h13 : inT tt = true) :
    Calls Tryz.prog 36 #[.agg #[.int .i64 id, .int .i64 xf, .int .i64 xt, .int .i64 xn, .int .i64 fr, .int .i64 too, .int .i64 fate, .int .i64 tt]] w fun e w' => e = .returned (.bool true) ∧ Below w.heap.size w w' := by
  have d1 : decide (id < 1) = false := by simp; omega
  have d2 : decide (1000000 < id) = false := by simp; omega
  have H3 := Lib.hid h3
  have H4 := Lib.hid h4
  have d5 : (xf == xt) = false := by simpa using h5
  have d6 : decide (xn < 1) = false := by simp; omega
  have H7 := Lib.hid h7
  have H8 := Lib.hid h8
  have H9 := Lib.hid h9
  have d10 : decide (too < fr) = false := by simp; omega
  have d11 : (fate == 2) = true := by simpa using h11
  have d12 : decide (1 ≤ tt) = true := by simp; omega
  have H12 := Lib.hid h13
  clear h11 h13
  clear h3 h4 h5 h7 h8 h9
  go_enter Tryz.func36, Tryz.ntmps36
  go_wp2_with (first | (go_at_call 33; (with_reducible refine (acct_t (a := xf) _ H3.out).mono ?_); rintro e w1 ⟨rfl, rfl⟩) | (go_at_call 33; (with_reducible refine (acct_f (a := xf) _ G3.out).mono ?_); rintro e w1 ⟨rfl, rfl⟩) | (go_at_call 33; (with_reducible refine (acct_t (a := xt) _ H4.out).mono ?_); rintro e w1 ⟨rfl, rfl⟩) | (go_at_call 33; (with_reducible refine (acct_f (a := xt) _ G4.out).mono ?_); rintro e w1 ⟨rfl, rfl⟩) | (go_at_call 34; (with_reducible refine (chk_t (n := xn) _ H7.out).mono ?_); rintro e w1 ⟨rfl, rfl⟩) | (go_at_call 34; (with_reducible refine (chk_f (n := xn) _ G7.out).mono ?_); rintro e w1 ⟨rfl, rfl⟩) | (go_at_call 24; (with_reducible refine (in_t (t := fr) _ H8.out).mono ?_); rintro e w1 ⟨rfl, rfl⟩) | (go_at_call 24; (with_reducible refine (in_f (t := fr) _ G8.out).mono ?_); rintro e w1 ⟨rfl, rfl⟩) | (go_at_call 24; (with_reducible refine (in_t (t := too) _ H9.out).mono ?_); rintro e w1 ⟨rfl, rfl⟩) | (go_at_call 24; (with_reducible refine (in_f (t := too) _ G9.out).mono ?_); rintro e w1 ⟨rfl, rfl⟩) | (go_at_call 24; (with_reducible refine (in_t (t := tt) _ H12.out).mono ?_); rintro e w1 ⟨rfl, rfl⟩) | (go_at_call 24; (with_reducible refine (in_f (t := tt) _ G12.out).mono ?_); rintro e w1 ⟨rfl, rfl⟩))
  go_ret
  exact ⟨rfl, by repeat (first | exact Below.refl _ _ | refine below_alloc_ ?_ _ | refine Below.drew ?_)⟩
set_option maxRecDepth 100000 in
set_option maxHeartbeats 2000000 in
theorem call_drop0 (id xf xt xn fr too fate tt : Int) (w : World) (h1 : 1 ≤ id) (h2 : id ≤ 1000000) (h3 : isAc xf = true) (h4 : isAc xt = true) (h5 : xf ≠ xt) (h6 : 1 ≤ xn) (h7 : isA xn = true) (h8 : inT fr = true) (h9 : inT too = true) (h10 : fr ≤ too) (h11 : fate = 3) (h12 : tt ≠ 0) :
    Calls Tryz.prog 36 #[.agg #[.int .i64 id, .int .i64 xf, .int .i64 xt, .int .i64 xn, .int .i64 fr, .int .i64 too, .int .i64 fate, .int .i64 tt]] w fun e w' => e = .returned (.bool false) ∧ Below w.heap.size w w' := by
  have d1 : decide (id < 1) = false := by simp; omega
  have d2 : decide (1000000 < id) = false := by simp; omega
  have H3 := Lib.hid h3
  have H4 := Lib.hid h4
  have d5 : (xf == xt) = false := by simpa using h5
  have d6 : decide (xn < 1) = false := by simp; omega
  have H7 := Lib.hid h7
  have H8 := Lib.hid h8
  have H9 := Lib.hid h9
  have d10 : decide (too < fr) = false := by simp; omega
  have d11 : (fate == 2) = false := by rw [h11]; rfl
  have d13 : (fate == 3) = true := by simpa using h11
  have d12 : (tt == 0) = false := by simpa using h12
  clear h11 h12
  clear h3 h4 h5 h7 h8 h9
  go_enter Tryz.func36, Tryz.ntmps36
  go_wp2_with (first | (go_at_call 33; (with_reducible refine (acct_t (a := xf) _ H3.out).mono ?_); rintro e w1 ⟨rfl, rfl⟩) | (go_at_call 33; (with_reducible refine (acct_f (a := xf) _ G3.out).mono ?_); rintro e w1 ⟨rfl, rfl⟩) | (go_at_call 33; (with_reducible refine (acct_t (a := xt) _ H4.out).mono ?_); rintro e w1 ⟨rfl, rfl⟩) | (go_at_call 33; (with_reducible refine (acct_f (a := xt) _ G4.out).mono ?_); rintro e w1 ⟨rfl, rfl⟩) | (go_at_call 34; (with_reducible refine (chk_t (n := xn) _ H7.out).mono ?_); rintro e w1 ⟨rfl, rfl⟩) | (go_at_call 34; (with_reducible refine (chk_f (n := xn) _ G7.out).mono ?_); rintro e w1 ⟨rfl, rfl⟩) | (go_at_call 24; (with_reducible refine (in_t (t := fr) _ H8.out).mono ?_); rintro e w1 ⟨rfl, rfl⟩) | (go_at_call 24; (with_reducible refine (in_f (t := fr) _ G8.out).mono ?_); rintro e w1 ⟨rfl, rfl⟩) | (go_at_call 24; (with_reducible refine (in_t (t := too) _ H9.out).mono ?_); rintro e w1 ⟨rfl, rfl⟩) | (go_at_call 24; (with_reducible refine (in_f (t := too) _ G9.out).mono ?_); rintro e w1 ⟨rfl, rfl⟩) | (go_at_call 24; (with_reducible refine (in_t (t := tt) _ H12.out).mono ?_); rintro e w1 ⟨rfl, rfl⟩) | (go_at_call 24; (with_reducible refine (in_f (t := tt) _ G12.out).mono ?_); rintro e w1 ⟨rfl, rfl⟩))
  go_ret
  exact ⟨rfl, by repeat (first | exact Below.refl _ _ | refine below_alloc_ ?_ _ | refine Below.drew ?_)⟩
set_option maxRecDepth 100000 in
set_option maxHeartbeats 2000000 in
theorem call_drop1 (id xf xt xn fr too fate tt : Int) (w : World) (h1 : 1 ≤ id) (h2 : id ≤ 1000000) (h3 : isAc xf = true) (h4 : isAc xt = true) (h5 : xf ≠ xt) (h6 : 1 ≤ xn) (h7 : isA xn = true) (h8 : inT fr = true) (h9 : inT too = true) (h10 : fr ≤ too) (h11 : fate = 3) (h12 : tt = 0) :
    Calls Tryz.prog 36 #[.agg #[.int .i64 id, .int .i64 xf, .int .i64 xt, .int .i64 xn, .int .i64 fr, .int .i64 too, .int .i64 fate, .int .i64 tt]] w fun e w' => e = .returned (.bool true) ∧ Below w.heap.size w w' := by
  have d1 : decide (id < 1) = false := by simp; omega
  have d2 : decide (1000000 < id) = false := by simp; omega
  have H3 := Lib.hid h3
  have H4 := Lib.hid h4
  have d5 : (xf == xt) = false := by simpa using h5
  have d6 : decide (xn < 1) = false := by simp; omega
  have H7 := Lib.hid h7
  have H8 := Lib.hid h8
  have H9 := Lib.hid h9
  have d10 : decide (too < fr) = false := by simp; omega
  have d11 : (fate == 2) = false := by rw [h11]; rfl
  have d13 : (fate == 3) = true := by simpa using h11
  have d12 : (tt == 0) = true := by simpa using h12
  clear h11 h12
  clear h3 h4 h5 h7 h8 h9
  go_enter Tryz.func36, Tryz.ntmps36
  go_wp2_with (first | (go_at_call 33; (with_reducible refine (acct_t (a := xf) _ H3.out).mono ?_); rintro e w1 ⟨rfl, rfl⟩) | (go_at_call 33; (with_reducible refine (acct_f (a := xf) _ G3.out).mono ?_); rintro e w1 ⟨rfl, rfl⟩) | (go_at_call 33; (with_reducible refine (acct_t (a := xt) _ H4.out).mono ?_); rintro e w1 ⟨rfl, rfl⟩) | (go_at_call 33; (with_reducible refine (acct_f (a := xt) _ G4.out).mono ?_); rintro e w1 ⟨rfl, rfl⟩) | (go_at_call 34; (with_reducible refine (chk_t (n := xn) _ H7.out).mono ?_); rintro e w1 ⟨rfl, rfl⟩) | (go_at_call 34; (with_reducible refine (chk_f (n := xn) _ G7.out).mono ?_); rintro e w1 ⟨rfl, rfl⟩) | (go_at_call 24; (with_reducible refine (in_t (t := fr) _ H8.out).mono ?_); rintro e w1 ⟨rfl, rfl⟩) | (go_at_call 24; (with_reducible refine (in_f (t := fr) _ G8.out).mono ?_); rintro e w1 ⟨rfl, rfl⟩) | (go_at_call 24; (with_reducible refine (in_t (t := too) _ H9.out).mono ?_); rintro e w1 ⟨rfl, rfl⟩) | (go_at_call 24; (with_reducible refine (in_f (t := too) _ G9.out).mono ?_); rintro e w1 ⟨rfl, rfl⟩) | (go_at_call 24; (with_reducible refine (in_t (t := tt) _ H12.out).mono ?_); rintro e w1 ⟨rfl, rfl⟩) | (go_at_call 24; (with_reducible refine (in_f (t := tt) _ G12.out).mono ?_); rintro e w1 ⟨rfl, rfl⟩))
  go_ret
  exact ⟨rfl, by repeat (first | exact Below.refl _ _ | refine below_alloc_ ?_ _ | refine Below.drew ?_)⟩
set_option maxRecDepth 100000 in
set_option maxHeartbeats 2000000 in
theorem call_none (id xf xt xn fr too fate tt : Int) (w : World) (h1 : 1 ≤ id) (h2 : id ≤ 1000000) (h3 : isAc xf = true) (h4 : isAc xt = true) (h5 : xf ≠ xt) (h6 : 1 ≤ xn) (h7 : isA xn = true) (h8 : inT fr = true) (h9 : inT too = true) (h10 : fr ≤ too) (h11 : fate ≠ 2) (h12 : fate ≠ 3) :
    Calls Tryz.prog 36 #[.agg #[.int .i64 id, .int .i64 xf, .int .i64 xt, .int .i64 xn, .int .i64 fr, .int .i64 too, .int .i64 fate, .int .i64 tt]] w fun e w' => e = .returned (.bool false) ∧ Below w.heap.size w w' := by
  have d1 : decide (id < 1) = false := by simp; omega
  have d2 : decide (1000000 < id) = false := by simp; omega
  have H3 := Lib.hid h3
  have H4 := Lib.hid h4
  have d5 : (xf == xt) = false := by simpa using h5
  have d6 : decide (xn < 1) = false := by simp; omega
  have H7 := Lib.hid h7
  have H8 := Lib.hid h8
  have H9 := Lib.hid h9
  have d10 : decide (too < fr) = false := by simp; omega
  have d11 : (fate == 2) = false := by simpa using h11
  have d13 : (fate == 3) = false := by simpa using h12
  clear h11 h12
  clear h3 h4 h5 h7 h8 h9
  go_enter Tryz.func36, Tryz.ntmps36
  go_wp2_with (first | (go_at_call 33; (with_reducible refine (acct_t (a := xf) _ H3.out).mono ?_); rintro e w1 ⟨rfl, rfl⟩) | (go_at_call 33; (with_reducible refine (acct_f (a := xf) _ G3.out).mono ?_); rintro e w1 ⟨rfl, rfl⟩) | (go_at_call 33; (with_reducible refine (acct_t (a := xt) _ H4.out).mono ?_); rintro e w1 ⟨rfl, rfl⟩) | (go_at_call 33; (with_reducible refine (acct_f (a := xt) _ G4.out).mono ?_); rintro e w1 ⟨rfl, rfl⟩) | (go_at_call 34; (with_reducible refine (chk_t (n := xn) _ H7.out).mono ?_); rintro e w1 ⟨rfl, rfl⟩) | (go_at_call 34; (with_reducible refine (chk_f (n := xn) _ G7.out).mono ?_); rintro e w1 ⟨rfl, rfl⟩) | (go_at_call 24; (with_reducible refine (in_t (t := fr) _ H8.out).mono ?_); rintro e w1 ⟨rfl, rfl⟩) | (go_at_call 24; (with_reducible refine (in_f (t := fr) _ G8.out).mono ?_); rintro e w1 ⟨rfl, rfl⟩) | (go_at_call 24; (with_reducible refine (in_t (t := too) _ H9.out).mono ?_); rintro e w1 ⟨rfl, rfl⟩) | (go_at_call 24; (with_reducible refine (in_f (t := too) _ G9.out).mono ?_); rintro e w1 ⟨rfl, rfl⟩) | (go_at_call 24; (with_reducible refine (in_t (t := tt) _ H12.out).mono ?_); rintro e w1 ⟨rfl, rfl⟩) | (go_at_call 24; (with_reducible refine (in_f (t := tt) _ G12.out).mono ?_); rintro e w1 ⟨rfl, rfl⟩))
  go_ret
  exact ⟨rfl, by repeat (first | exact Below.refl _ _ | refine below_alloc_ ?_ _ | refine Below.drew ?_)⟩
theorem call_any (x : VCall20) (w : World) : Calls Tryz.prog 36 #[.agg #[.int .i64 x.x_id, .int .i64 x.x_xf, .int .i64 x.x_xt, .int .i64 x.x_xn, .int .i64 x.fr, .int .i64 x.too, .int .i64 x.fate, .int .i64 x.tt]] w fun e w' => e = .returned (.bool (callOk x)) ∧ Below w.heap.size w w' := by
  obtain ⟨id, xf, xt, xn, fr, too, fate, tt⟩ := x
  dsimp only
  by_cases h1 : 1 ≤ id
  case neg => rw [show callOk ⟨id, xf, xt, xn, fr, too, fate, tt⟩ = false by unfold callOk; simp only [decide_eq_false h1, Bool.false_and, Bool.and_false]]; exact call_bad1 id xf xt xn fr too fate tt w h1
  by_cases h2 : id ≤ 1000000
  case neg => rw [show callOk ⟨id, xf, xt, xn, fr, too, fate, tt⟩ = false by unfold callOk; simp only [decide_eq_false h2, Bool.false_and, Bool.and_false]]; exact call_bad2 id xf xt xn fr too fate tt w h1 h2
  by_cases h3 : isAc xf = true
  case neg => rw [show callOk ⟨id, xf, xt, xn, fr, too, fate, tt⟩ = false by unfold callOk; simp only [Bool.eq_false_iff.2 h3, Bool.false_and, Bool.and_false]]; exact call_bad3 id xf xt xn fr too fate tt w h1 h2 h3
  by_cases h4 : isAc xt = true
  case neg => rw [show callOk ⟨id, xf, xt, xn, fr, too, fate, tt⟩ = false by unfold callOk; simp only [Bool.eq_false_iff.2 h4, Bool.false_and, Bool.and_false]]; exact call_bad4 id xf xt xn fr too fate tt w h1 h2 h3 h4
  by_cases h5 : xf ≠ xt
  case neg => rw [show callOk ⟨id, xf, xt, xn, fr, too, fate, tt⟩ = false by unfold callOk; simp only [show (xf == xt) = true by simpa using h5, Bool.not_true, Bool.false_and, Bool.and_false]]; exact call_bad5 id xf xt xn fr too fate tt w h1 h2 h3 h4 h5
  by_cases h6 : 1 ≤ xn
  case neg => rw [show callOk ⟨id, xf, xt, xn, fr, too, fate, tt⟩ = false by unfold callOk; simp only [decide_eq_false h6, Bool.false_and, Bool.and_false]]; exact call_bad6 id xf xt xn fr too fate tt w h1 h2 h3 h4 h5 h6
  by_cases h7 : isA xn = true
  case neg => rw [show callOk ⟨id, xf, xt, xn, fr, too, fate, tt⟩ = false by unfold callOk; simp only [Bool.eq_false_iff.2 h7, Bool.false_and, Bool.and_false]]; exact call_bad7 id xf xt xn fr too fate tt w h1 h2 h3 h4 h5 h6 h7
  by_cases h8 : inT fr = true
  case neg => rw [show callOk ⟨id, xf, xt, xn, fr, too, fate, tt⟩ = false by unfold callOk; simp only [Bool.eq_false_iff.2 h8, Bool.false_and, Bool.and_false]]; exact call_bad8 id xf xt xn fr too fate tt w h1 h2 h3 h4 h5 h6 h7 h8
  by_cases h9 : inT too = true
  case neg => rw [show callOk ⟨id, xf, xt, xn, fr, too, fate, tt⟩ = false by unfold callOk; simp only [Bool.eq_false_iff.2 h9, Bool.false_and, Bool.and_false]]; exact call_bad9 id xf xt xn fr too fate tt w h1 h2 h3 h4 h5 h6 h7 h8 h9
  by_cases h10 : fr ≤ too
  case neg => rw [show callOk ⟨id, xf, xt, xn, fr, too, fate, tt⟩ = false by unfold callOk; simp only [decide_eq_false h10, Bool.false_and, Bool.and_false]]; exact call_bad10 id xf xt xn fr too fate tt w h1 h2 h3 h4 h5 h6 h7 h8 h9 h10
  by_cases h11 : fate = 2
  · by_cases h12 : 1 ≤ tt
    · cases h13 : inT tt
      · rw [show callOk ⟨id, xf, xt, xn, fr, too, fate, tt⟩ = false by unfold callOk; simp_all]; exact call_com1 id xf xt xn fr too fate tt w h1 h2 h3 h4 h5 h6 h7 h8 h9 h10 h11 h12 h13
      · rw [show callOk ⟨id, xf, xt, xn, fr, too, fate, tt⟩ = true by unfold callOk; simp_all]; exact call_com2 id xf xt xn fr too fate tt w h1 h2 h3 h4 h5 h6 h7 h8 h9 h10 h11 h12 h13
    · rw [show callOk ⟨id, xf, xt, xn, fr, too, fate, tt⟩ = false by unfold callOk; simp only [if_pos h11, decide_eq_false h12, Bool.false_and, Bool.and_false]]; exact call_com0 id xf xt xn fr too fate tt w h1 h2 h3 h4 h5 h6 h7 h8 h9 h10 h11 (by omega)
  · by_cases h12 : fate = 3
    · by_cases h13 : tt = 0
      · rw [show callOk ⟨id, xf, xt, xn, fr, too, fate, tt⟩ = true by unfold callOk; simp_all]; exact call_drop1 id xf xt xn fr too fate tt w h1 h2 h3 h4 h5 h6 h7 h8 h9 h10 h12 h13
      · rw [show callOk ⟨id, xf, xt, xn, fr, too, fate, tt⟩ = false by unfold callOk; simp_all]; exact call_drop0 id xf xt xn fr too fate tt w h1 h2 h3 h4 h5 h6 h7 h8 h9 h10 h12 h13
    · rw [show callOk ⟨id, xf, xt, xn, fr, too, fate, tt⟩ = false by unfold callOk; simp_all]; exact call_none id xf xt xn fr too fate tt w h1 h2 h3 h4 h5 h6 h7 h8 h9 h10 h11 h12
end Go.Proofs.YtjhhpcjnhjbpdaaGreat
