/- Contracts of the amount package's functions: Check, Total, Add, Sub; and the document's. -/
import Derived.Test.YtefcofkodhichaaNumV
import Derived.Test.YtefcofkodhichaaStampI
import Derived.Deep.QuietTactic
import Derived.BigQuiet
import Derived.LoopTactic
set_option linter.unusedSimpArgs false
set_option linter.unusedVariables false
namespace Go.Proofs.Ytefcofkodhichaa
open Go.RowKit Mo
theorem ret_bool {a b : Bool} (h : a = b) : Ending.returned (.bool a) = .returned (.bool b) := by rw [h]
theorem ret_ib {a b : Int} {c d : Bool} (h : a = b) (h2 : c = d) : Ending.returned (.tuple #[.int .i64 a, .bool c]) = .returned (.tuple #[.int .i64 b, .bool d]) := by rw [h, h2]
def isA (n : Int) : Bool := decide (0 ≤ n) && decide (n ≤ 1000000000000000)
theorem isA_iff {n : Int} : isA n = true ↔ 0 ≤ n ∧ n ≤ 1000000000000000 := by unfold isA; simp
theorem isA_not {n : Int} : isA n = false ↔ n < 0 ∨ 1000000000000000 < n := by
  rw [← Bool.not_eq_true, isA_iff]; omega
def errA (b : Bool) : Int := if b then 0 else 40
set_option maxHeartbeats 400000 in
theorem acheck_any (n : Int) (w : World) : Calls Try.prog 16 #[.int .i64 n] w fun e w' => e = .returned (.int .i64 (errA (isA n))) ∧ w = w' := by
  rcases (show (n < 0) ∨ (0 ≤ n ∧ 1000000000000000 < n) ∨ (0 ≤ n ∧ n ≤ 1000000000000000) by omega) with h | ⟨h, h2⟩ | ⟨h, h2⟩
  · have e : isA n = false := isA_not.2 (by omega)
    rw [e]; clear e
    go_enter Try.func16, Try.ntmps16
    go_wp2
    go_ret
    exact ⟨rfl, rfl⟩
  · have e : isA n = false := isA_not.2 (by omega)
    rw [e]; clear e
    go_enter Try.func16, Try.ntmps16
    go_wp2
    go_ret
    exact ⟨rfl, rfl⟩
  · have e : isA n = true := isA_iff.2 ⟨h, h2⟩
    rw [e]; clear e
    have d1 : decide (1000000000000000 < n) = false := by simp; omega
    go_enter Try.func16, Try.ntmps16
    go_wp2
    go_ret
    exact ⟨rfl, rfl⟩
set_option maxHeartbeats 400000 in
theorem ris_any (n : Int) (w : World) : Calls Try.prog 17 #[.int .i64 n] w fun e w' => e = .returned (.bool (isA n)) ∧ w = w' := by
  rcases (show (n < 0) ∨ (0 ≤ n ∧ 1000000000000000 < n) ∨ (0 ≤ n ∧ n ≤ 1000000000000000) by omega) with h | ⟨h, h2⟩ | ⟨h, h2⟩
  · have e : isA n = false := isA_not.2 (by omega)
    rw [e]; clear e
    go_enter Try.func17, Try.ntmps17
    go_wp2
    go_ret
    exact ⟨rfl, rfl⟩
  · have e : isA n = false := isA_not.2 (by omega)
    rw [e]; clear e
    have d1 : decide (n ≤ 1000000000000000) = false := by simp; omega
    go_enter Try.func17, Try.ntmps17
    go_wp2
    go_ret
    exact ⟨ret_bool (by first | rfl | (simp; done) | (simp; omega)), rfl⟩
  · have e : isA n = true := isA_iff.2 ⟨h, h2⟩
    rw [e]; clear e
    go_enter Try.func17, Try.ntmps17
    go_wp2
    go_ret
    exact ⟨ret_bool (by first | rfl | (simp; done) | (simp; omega)), rfl⟩
/-- what numbers come to -/
def sumA : List Int → Int | [] => 0 | x :: l => x + sumA l
theorem sumA_append (a b : List Int) : sumA (a ++ b) = sumA a + sumA b := by
  induction a with
  | nil => simp [sumA]
  | cons x a ih => simp only [List.cons_append, sumA, ih]; omega
theorem sumA_take (l : List Int) (k : Nat) (h : k < l.length) : sumA (l.take (k + 1)) = sumA (l.take k) + l[k] := by
  rw [List.take_succ_eq_append_getElem h, sumA_append]; simp [sumA]
theorem allA_take (l : List Int) (k : Nat) (h : k < l.length) : (l.take (k + 1)).all isA = ((l.take k).all isA && isA l[k]) := by
  rw [List.take_succ_eq_append_getElem h, List.all_append]; simp
theorem sumA_nonneg (l : List Int) (h : l.all isA = true) : 0 ≤ sumA l := by
  induction l with
  | nil => simp [sumA]
  | cons x l ih =>
    simp only [List.all_cons, Bool.and_eq_true] at h
    have h1 := isA_iff.1 h.1
    have h2 := ih h.2
    simp only [sumA]; omega
theorem sumA_le (l : List Int) (k : Nat) (h : l.all isA = true) : sumA (l.take k) ≤ sumA l := by
  have h1 := sumA_append (l.take k) (l.drop k)
  rw [List.take_append_drop] at h1
  have h2 := sumA_nonneg (l.drop k) (by
    rw [List.all_eq_true] at h ⊢
    exact fun x hx => h x (List.mem_of_mem_drop hx))
  omega
def totOk (l : List Int) : Bool := l.all isA && decide (sumA l ≤ 1000000000000000)
def totV (l : List Int) : Int := if totOk l then sumA l else 0
theorem tot_bad {l : List Int} (k : Nat) (hk : k < l.length) (h : isA l[k] = false) : totOk l = false ∧ totV l = 0 := by
  have h1 : l.all isA = false := by
    rw [← Bool.not_eq_true, List.all_eq_true]
    intro hh
    have := hh l[k] (List.getElem_mem hk)
    rw [h] at this; exact Bool.noConfusion this
  have h2 : totOk l = false := by unfold totOk; rw [h1]; rfl
  exact ⟨h2, by unfold totV; rw [h2]; rfl⟩
theorem tot_over {l : List Int} (k : Nat) (h : 1000000000000000 < sumA (l.take k)) : totOk l = false ∧ totV l = 0 := by
  have h2 : totOk l = false := by
    unfold totOk
    cases ha : l.all isA
    · rfl
    · have := sumA_le l k ha
      rw [Bool.true_and, decide_eq_false_iff_not]; omega
  exact ⟨h2, by unfold totV; rw [h2]; rfl⟩
theorem tot_fine {l : List Int} (ha : l.all isA = true) (h : sumA l ≤ 1000000000000000) : totOk l = true ∧ totV l = sumA l := by
  have h2 : totOk l = true := by unfold totOk; rw [ha]; simpa using h
  exact ⟨h2, by unfold totV; rw [h2]; rfl⟩
set_option maxHeartbeats 2000000 in
theorem total_any (w : World) (A : Option Addr) (c : Nat) (xs : List Int) (hr : Reads w w.heap.size 1 A xs.length (xs.map (Value.int .i64))) (hm : xs.length ≤ 9223372036854775807) (hx : ∀ u ∈ xs, (Lit.int .i64 u).wf = true) :
    Calls Try.prog 18 #[.slice A xs.length c] w fun e w' => e = .returned (.tuple #[.int .i64 (totV xs), .int .i64 (errA (totOk xs))]) ∧ w = w' := by
  have HR := Lib.hid hr; have HX := Lib.hid hx
  clear hr hx
  go_enter Try.func18, Try.ntmps18
  go_wp2_with fail
  go_loop [4, 9] (fun o i => ∃ (k : Nat) (s : Int), k ≤ xs.length ∧ i = .int .i64 k ∧ o = .int .i64 s ∧ 0 ≤ s ∧ s ≤ 2000000000000000 ∧ Hid ((xs.take k).all isA = true) ∧ Hid ((sumA (xs.take k) ≤ 1000000000000000 ∧ s = sumA (xs.take k)) ∨ (1000000000000000 < sumA (xs.take k) ∧ 1000000000000000 < s))) (fun _ i => xs.length - (intOf i).toNat)
  case atStart => exact ⟨0, 0, Nat.zero_le _, rfl, rfl, by omega, by omega, Lib.hid (by simp), Lib.hid (.inl (by simp [sumA]))⟩
  case round =>
    obtain ⟨k, s, hk, rfl, rfl, hs1, hs2, HAL, HS⟩ := hrel
    by_cases hlt : k < xs.length
    · have hd : decide ((k : Int) < xs.length) = true := by simp; omega
      obtain ⟨ad, u, rfl, hadb, hu, hcell⟩ := HR.out.at_ hlt
      have hw := i64_wf (HX.out xs[k] (List.getElem_mem hlt))
      have ht := sumA_take xs k hlt
      have ha := allA_take xs k hlt
      obtain ⟨g, hg⟩ : ∃ g, isA xs[k] = g := ⟨_, rfl⟩
      have HBAD := Lib.hid (show isA xs[k] = false → totOk xs = false ∧ totV xs = 0 from fun h => tot_bad k hlt h)
      rw [hg] at HBAD
      rw [HAL.out, hg] at ha
      obtain rfl : u = .int .i64 xs[k] := by simp [hlt] at hu; rw [← hu]
      clear hu
      generalize xs[k] = x at *
      have HT := Lib.hid ht; have HA := Lib.hid ha; have HG := Lib.hid hg
      clear ht ha
      cases g
      · obtain ⟨b1, b2⟩ := HBAD.out rfl
        have B1 := Lib.hid b1; have B2 := Lib.hid b2
        clear b1 b2 hg
        go_wp2_with (go_at_call 16; refine (acheck_any _ _).mono ?_; rintro e w1 ⟨rfl, rfl⟩; rw [HG.out, show errA false = 40 from rfl])
        go_ret2
        rw [B1.out, B2.out]
        exact ⟨rfl, rfl⟩
      · obtain ⟨x1, x2⟩ := isA_iff.1 hg
        clear hg
        rcases (show s ≤ 1000000000000000 ∨ 1000000000000000 < s by omega) with h | h
        · go_wp2_with (go_at_call 16; refine (acheck_any _ _).mono ?_; rintro e w1 ⟨rfl, rfl⟩; rw [HG.out, show errA true = 0 from rfl])
          go_round
          case rel => exact ⟨k + 1, s + x, by omega, by go_num, rfl, by omega, by omega, Lib.hid HA.out, Lib.hid (by rw [HT.out]; have := HS.out; omega)⟩
          case measure => simp [intOf]; omega
        · have hd2 : decide (s ≤ 1000000000000000) = false := by simp; omega
          go_wp2_with (go_at_call 16; refine (acheck_any _ _).mono ?_; rintro e w1 ⟨rfl, rfl⟩; rw [HG.out, show errA true = 0 from rfl])
          go_round
          case rel => exact ⟨k + 1, s, by omega, by go_num, rfl, by omega, by omega, Lib.hid HA.out, Lib.hid (by rw [HT.out]; have := HS.out; omega)⟩
          case measure => simp [intOf]; omega
    · have hd : decide ((k : Int) < xs.length) = false := by simp; omega
      have hk9 : k = xs.length := by omega
      have hal := HAL.out
      have hss := HS.out
      rw [hk9, List.take_length] at hal hss
      rcases hss with ⟨h1, h2⟩ | ⟨h1, h2⟩
      · obtain ⟨b1, b2⟩ := tot_fine hal h1
        have g : isA s = true := isA_iff.2 (by omega)
        rw [← h2] at b2
        have B1 := Lib.hid b1; have B2 := Lib.hid b2; have HG := Lib.hid g
        clear b1 b2 g h1 h2 hal hk9 HS HAL
        go_wp2_with (go_at_call 16; refine (acheck_any _ _).mono ?_; rintro e w1 ⟨rfl, rfl⟩; rw [HG.out, show errA true = 0 from rfl])
        go_ret2
        rw [B1.out, B2.out]
        exact ⟨rfl, rfl⟩
      · obtain ⟨b1, b2⟩ := tot_over (l := xs) xs.length (by rw [List.take_length]; exact h1)
        have g : isA s = false := isA_not.2 (by omega)
        have B1 := Lib.hid b1; have B2 := Lib.hid b2; have HG := Lib.hid g
        clear b1 b2 g h1 h2 hal hk9 HS HAL
        go_wp2_with (go_at_call 16; refine (acheck_any _ _).mono ?_; rintro e w1 ⟨rfl, rfl⟩; rw [HG.out, show errA false = 40 from rfl])
        go_ret2
        rw [B1.out, B2.out]
        exact ⟨rfl, rfl⟩
set_option maxHeartbeats 2000000 in
theorem rtotal_any (w : World) (A : Option Addr) (c : Nat) (xs : List Int) (hr : Reads w w.heap.size 1 A xs.length (xs.map (Value.int .i64))) (hm : xs.length ≤ 9223372036854775807) (hx : ∀ u ∈ xs, (Lit.int .i64 u).wf = true) :
    Calls Try.prog 12 #[.slice A xs.length c] w fun e w' => e = .returned (.tuple #[.int .i64 (totV xs), .bool (totOk xs)]) ∧ w = w' := by
  have HR := Lib.hid hr; have HX := Lib.hid hx
  clear hr hx
  go_enter Try.func12, Try.ntmps12
  go_wp2_with fail
  go_loop [4, 5] (fun o i => ∃ (k : Nat) (s : Int), k ≤ xs.length ∧ i = .int .i64 k ∧ o = .int .i64 (1000000000000000 - s) ∧ 0 ≤ s ∧ s ≤ 1000000000000000 ∧ Hid ((xs.take k).all isA = true) ∧ Hid (s = sumA (xs.take k))) (fun _ i => xs.length - (intOf i).toNat)
  case atStart => exact ⟨0, 0, Nat.zero_le _, rfl, rfl, by omega, by omega, Lib.hid (by simp), Lib.hid (by simp [sumA])⟩
  case round =>
    obtain ⟨k, s, hk, rfl, rfl, hs1, hs2, HAL, HS⟩ := hrel
    by_cases hlt : k < xs.length
    · have hd : decide ((k : Int) < xs.length) = true := by simp; omega
      obtain ⟨ad, u, rfl, hadb, hu, hcell⟩ := HR.out.at_ hlt
      have hw := i64_wf (HX.out xs[k] (List.getElem_mem hlt))
      have ht := sumA_take xs k hlt
      have ha := allA_take xs k hlt
      obtain ⟨g, hg⟩ : ∃ g, isA xs[k] = g := ⟨_, rfl⟩
      have HBAD := Lib.hid (show isA xs[k] = false → totOk xs = false ∧ totV xs = 0 from fun h => tot_bad k hlt h)
      rw [hg] at HBAD
      rw [HAL.out, hg] at ha
      obtain rfl : u = .int .i64 xs[k] := by simp [hlt] at hu; rw [← hu]
      clear hu
      generalize xs[k] = x at *
      have HT := Lib.hid ht; have HA := Lib.hid ha; have HG := Lib.hid hg
      clear ht ha
      cases g
      · obtain ⟨b1, b2⟩ := HBAD.out rfl
        have B1 := Lib.hid b1; have B2 := Lib.hid b2
        clear b1 b2 hg
        go_wp2_with (go_at_call 17; refine (ris_any _ _).mono ?_; rintro e w1 ⟨rfl, rfl⟩; rw [HG.out])
        go_ret2
        rw [B1.out, B2.out]
        exact ⟨rfl, rfl⟩
      · obtain ⟨x1, x2⟩ := isA_iff.1 hg
        clear hg
        rcases (show x ≤ 1000000000000000 - s ∨ 1000000000000000 - s < x by omega) with h | h
        · have hd2 : decide (1000000000000000 - s < x) = false := by simp; omega
          go_wp2_with (go_at_call 17; refine (ris_any _ _).mono ?_; rintro e w1 ⟨rfl, rfl⟩; rw [HG.out])
          go_round
          case rel => exact ⟨k + 1, s + x, by omega, by go_num, congrArg (Value.int .i64) (by omega), by omega, by omega, Lib.hid HA.out, Lib.hid (by rw [HT.out]; have := HS.out; omega)⟩
          case measure => simp [intOf]; omega
        · obtain ⟨b1, b2⟩ := tot_over (l := xs) (k + 1) (by rw [HT.out]; have := HS.out; omega)
          have B1 := Lib.hid b1; have B2 := Lib.hid b2
          clear b1 b2
          go_wp2_with (go_at_call 17; refine (ris_any _ _).mono ?_; rintro e w1 ⟨rfl, rfl⟩; rw [HG.out])
          go_ret2
          rw [B1.out, B2.out]
          exact ⟨rfl, rfl⟩
    · have hd : decide ((k : Int) < xs.length) = false := by simp; omega
      have hk9 : k = xs.length := by omega
      have hal := HAL.out
      have hss := HS.out
      rw [hk9, List.take_length] at hal hss
      obtain ⟨b1, b2⟩ := tot_fine hal (by omega)
      rw [← hss] at b2
      have B1 := Lib.hid b1; have B2 := Lib.hid b2
      clear b1 b2 hss hal hk9 HS HAL
      go_wp2
      go_ret2
      rw [B1.out, B2.out]
      exact ⟨ret_ib (by omega) rfl, rfl⟩
/-- what is left when an amount is taken, or why it can't be -/
def SubIs (a b V E : Int) : Prop := (isA a = false ∧ V = 0 ∧ E = 40) ∨ (isA a = true ∧ isA b = false ∧ V = 0 ∧ E = 40) ∨ (isA a = true ∧ isA b = true ∧ a < b ∧ V = 0 ∧ E = 41) ∨ (isA a = true ∧ isA b = true ∧ b ≤ a ∧ V = a - b ∧ E = 0)
theorem sub_of (a b : Int) : ∃ V E, SubIs a b V E := by
  unfold SubIs
  cases isA a
  · exact ⟨_, _, .inl ⟨rfl, rfl, rfl⟩⟩
  · cases isA b
    · exact ⟨_, _, .inr (.inl ⟨rfl, rfl, rfl, rfl⟩)⟩
    · rcases (show a < b ∨ b ≤ a by omega) with h | h
      · exact ⟨_, _, .inr (.inr (.inl ⟨rfl, rfl, h, rfl, rfl⟩))⟩
      · exact ⟨_, _, .inr (.inr (.inr ⟨rfl, rfl, h, rfl, rfl⟩))⟩
set_option maxHeartbeats 1000000 in
theorem sub_any (a b V E : Int) (w : World) (h : SubIs a b V E) : Calls Try.prog 13 #[.int .i64 a, .int .i64 b] w fun e w' => e = .returned (.tuple #[.int .i64 V, .int .i64 E]) ∧ w = w' := by
  rcases h with ⟨h, rfl, rfl⟩ | ⟨h, i, rfl, rfl⟩ | ⟨h, i, j, rfl, rfl⟩ | ⟨h, i, j, rfl, rfl⟩
  · have HH := Lib.hid h; clear h
    go_enter Try.func13, Try.ntmps13
    go_wp2_with (go_at_call 16; refine (acheck_any _ _).mono ?_; rintro e w1 ⟨rfl, rfl⟩; rw [HH.out, show errA false = 40 from rfl])
    go_ret2
    exact ⟨rfl, rfl⟩
  · have HH := Lib.hid h; have HI := Lib.hid i; clear h i
    go_enter Try.func13, Try.ntmps13
    go_wp2_with (go_at_call 16; refine (acheck_any _ _).mono ?_; rintro e w1 ⟨rfl, rfl⟩; first | rw [HH.out, show errA true = 0 from rfl] | rw [HI.out, show errA false = 40 from rfl])
    go_ret2
    exact ⟨rfl, rfl⟩
  · have HH := Lib.hid h; have HI := Lib.hid i; clear h i
    go_enter Try.func13, Try.ntmps13
    go_wp2_with (go_at_call 16; refine (acheck_any _ _).mono ?_; rintro e w1 ⟨rfl, rfl⟩; first | rw [HH.out, show errA true = 0 from rfl] | rw [HI.out, show errA true = 0 from rfl])
    go_ret2
    exact ⟨rfl, rfl⟩
  · obtain ⟨a1, a2⟩ := isA_iff.1 h
    obtain ⟨b1, b2⟩ := isA_iff.1 i
    have HH := Lib.hid h; have HI := Lib.hid i; clear h i
    have d : decide (a < b) = false := by simp; omega
    go_enter Try.func13, Try.ntmps13
    go_wp2_with (go_at_call 16; refine (acheck_any _ _).mono ?_; rintro e w1 ⟨rfl, rfl⟩; first | rw [HH.out, show errA true = 0 from rfl] | rw [HI.out, show errA true = 0 from rfl])
    go_ret2
    exact ⟨rfl, rfl⟩
set_option maxHeartbeats 1000000 in
theorem rsub_any (a b V E : Int) (w : World) (h : SubIs a b V E) : Calls Try.prog 14 #[.int .i64 a, .int .i64 b] w fun e w' => e = .returned (.tuple #[.int .i64 V, .int .i64 E]) ∧ w = w' := by
  rcases h with ⟨h, rfl, rfl⟩ | ⟨h, i, rfl, rfl⟩ | ⟨h, i, j, rfl, rfl⟩ | ⟨h, i, j, rfl, rfl⟩
  · have HH := Lib.hid h; clear h
    go_enter Try.func14, Try.ntmps14
    go_wp2_with (go_at_call 17; refine (ris_any _ _).mono ?_; rintro e w1 ⟨rfl, rfl⟩; rw [HH.out])
    go_ret2
    exact ⟨rfl, rfl⟩
  · have HH := Lib.hid h; have HI := Lib.hid i; clear h i
    go_enter Try.func14, Try.ntmps14
    go_wp2_with (go_at_call 17; refine (ris_any _ _).mono ?_; rintro e w1 ⟨rfl, rfl⟩; first | rw [HH.out] | rw [HI.out])
    go_ret2
    exact ⟨rfl, rfl⟩
  · have HH := Lib.hid h; have HI := Lib.hid i; clear h i
    go_enter Try.func14, Try.ntmps14
    go_wp2_with (go_at_call 17; refine (ris_any _ _).mono ?_; rintro e w1 ⟨rfl, rfl⟩; first | rw [HH.out] | rw [HI.out])
    go_ret2
    exact ⟨rfl, rfl⟩
  · obtain ⟨a1, a2⟩ := isA_iff.1 h
    obtain ⟨b1, b2⟩ := isA_iff.1 i
    have HH := Lib.hid h; have HI := Lib.hid i; clear h i
    have d : decide (a < b) = false := by simp; omega
    go_enter Try.func14, Try.ntmps14
    go_wp2_with (go_at_call 17; refine (ris_any _ _).mono ?_; rintro e w1 ⟨rfl, rfl⟩; first | rw [HH.out] | rw [HI.out])
    go_ret2
    exact ⟨rfl, rfl⟩
theorem reads_lits (w : World) (t : TypeId) (b : Nat) (hb : w.heap.size = b) (xs : List Int) : Reads (w.alloc (.cells (xs.map (Value.int .i64)).toArray t)) (w.alloc (.cells (xs.map (Value.int .i64)).toArray t)).heap.size 1 (some ⟨b, 0, none⟩) xs.length (xs.map (Value.int .i64)) := by
  subst hb
  refine ⟨by simp, fun _ => ⟨_, rfl, by simp, fun j u hu => ?_⟩⟩
  rw [Addr.add_lit, World.cell?_alloc_new]
  simpa using hu
theorem reads_two (w : World) (t : TypeId) (b : Nat) (hb : w.heap.size = b) (x y : Int) : Reads (w.alloc (.cells #[.int .i64 x, .int .i64 y] t)) (w.alloc (.cells #[.int .i64 x, .int .i64 y] t)).heap.size 1 (some ⟨b, 0, none⟩) [x, y].length ([x, y].map (Value.int .i64)) := reads_lits w t b hb [x, y]
theorem reads_three (w : World) (t : TypeId) (b : Nat) (hb : w.heap.size = b) (x y z : Int) : Reads (w.alloc (.cells #[.int .i64 x, .int .i64 y, .int .i64 z] t)) (w.alloc (.cells #[.int .i64 x, .int .i64 y, .int .i64 z] t)).heap.size 1 (some ⟨b, 0, none⟩) [x, y, z].length ([x, y, z].map (Value.int .i64)) := reads_lits w t b hb [x, y, z]
theorem total_two (w : World) (t : TypeId) (b : Nat) (hb : w.heap.size = b) (x y V K : Int) (hV : totV [x, y] = V) (hK : errA (totOk [x, y]) = K) (hx : ∀ u ∈ [x, y], (Lit.int .i64 u).wf = true) :
    Calls Try.prog 18 #[.slice (some ⟨b, 0, none⟩) 2 2] (w.alloc (.cells #[.int .i64 x, .int .i64 y] t)) fun e w' => e = .returned (.tuple #[.int .i64 V, .int .i64 K]) ∧ w.alloc (.cells #[.int .i64 x, .int .i64 y] t) = w' := by
  have := total_any _ _ 2 [x, y] (reads_two w t b hb x y) (by simp) hx
  rw [hV, hK] at this
  exact this
theorem total_three (w : World) (t : TypeId) (b : Nat) (hb : w.heap.size = b) (x y z V K : Int) (hV : totV [x, y, z] = V) (hK : errA (totOk [x, y, z]) = K) (hx : ∀ u ∈ [x, y, z], (Lit.int .i64 u).wf = true) :
    Calls Try.prog 18 #[.slice (some ⟨b, 0, none⟩) 3 3] (w.alloc (.cells #[.int .i64 x, .int .i64 y, .int .i64 z] t)) fun e w' => e = .returned (.tuple #[.int .i64 V, .int .i64 K]) ∧ w.alloc (.cells #[.int .i64 x, .int .i64 y, .int .i64 z] t) = w' := by
  have := total_any _ _ 3 [x, y, z] (reads_three w t b hb x y z) (by simp) hx
  rw [hV, hK] at this
  exact this
theorem rtotal_two (w : World) (t : TypeId) (b : Nat) (hb : w.heap.size = b) (x y V : Int) (K : Bool) (hV : totV [x, y] = V) (hK : totOk [x, y] = K) (hx : ∀ u ∈ [x, y], (Lit.int .i64 u).wf = true) :
    Calls Try.prog 12 #[.slice (some ⟨b, 0, none⟩) 2 2] (w.alloc (.cells #[.int .i64 x, .int .i64 y] t)) fun e w' => e = .returned (.tuple #[.int .i64 V, .bool K]) ∧ w.alloc (.cells #[.int .i64 x, .int .i64 y] t) = w' := by
  have := rtotal_any _ _ 2 [x, y] (reads_two w t b hb x y) (by simp) hx
  rw [hV, hK] at this
  exact this
set_option maxHeartbeats 1000000 in
theorem add_any (a b : Int) (w : World) (wa : (Lit.int .i64 a).wf = true) (wb : (Lit.int .i64 b).wf = true) : Calls Try.prog 11 #[.int .i64 a, .int .i64 b] w fun e w' => e = .returned (.tuple #[.int .i64 (totV [a, b]), .int .i64 (errA (totOk [a, b]))]) ∧ Below w.heap.size w w' := by
  have HX := Lib.hid (show ∀ u ∈ [a, b], (Lit.int .i64 u).wf = true by intro u hu; simp at hu; rcases hu with rfl | rfl <;> assumption)
  clear wa wb
  obtain ⟨V, hV⟩ : ∃ V, totV [a, b] = V := ⟨_, rfl⟩
  obtain ⟨K, hK⟩ : ∃ K, errA (totOk [a, b]) = K := ⟨_, rfl⟩
  rw [hV, hK]
  have HV := Lib.hid hV; have HK := Lib.hid hK
  clear hV hK
  go_enter Try.func11, Try.ntmps11
  go_wp2_with (go_at_call 18; refine (total_two _ _ _ (by simp) _ _ _ _ HV.out HK.out HX.out).mono ?_; rintro e w1 ⟨rfl, rfl⟩)
  go_ret2
  exact ⟨rfl, by repeat (first | exact Below.refl _ _ | refine below_alloc_ ?_ _ | refine Below.drew ?_)⟩
end Go.Proofs.Ytefcofkodhichaa
