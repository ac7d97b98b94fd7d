/- Leases: the contracts of a voter, and of the document's. -/
import Derived.Test.YtajojpfenlafbaaSpc
import Derived.Test.YtajojpfenlafbaaWordB
import Derived.RegionTactic
import Derived.Deep.QuietTactic
import Derived.BigQuiet
import Derived.IntWalk
set_option linter.unusedSimpArgs false
set_option linter.unusedVariables false
namespace Go.Proofs.Ytajojpfenlafbaa
open Go.RowKit Mo
set_option maxHeartbeats 400000 in
theorem is_any (lo hi : Int) (w : World) : Calls Try.prog 26 #[.agg #[.int .i64 lo, .int .i64 hi]] w fun e w' => e = .returned (.bool (isS lo hi)) ∧ w' = w.alloc (.cells #[.int .i64 lo, .int .i64 hi] 33) := by
  rcases span_cases lo hi with ⟨hs, h1, h2, h3⟩ | ⟨hs, h | ⟨h1, h⟩ | ⟨h1, h2, h⟩ | ⟨h1, h2, h3, h⟩ | ⟨h1, h2, h3, h4, h⟩⟩
  all_goals
    rw [hs]; clear hs
    try have hdec : decide (lo ≤ hi) = false := by simp; omega
    go_enter Try.func26, Try.ntmps26
    go_wp2_with (go_at_call 35; go_in)
    all_goals (go_ret; refine ⟨by first | rfl | (simp; done) | (simp; omega), rfl⟩)
/-- what a voter answers, and what it is behind it -/
def GrIs (L U lo hi l len u E L' U' : Int) : Prop :=
  (isS lo hi = false ∧ u = 0 ∧ E = 240 ∧ L' = L ∧ U' = U) ∨
  (isS lo hi = true ∧ len < 1 ∧ u = 0 ∧ E = 240 ∧ L' = L ∧ U' = U) ∨
  (isS lo hi = true ∧ 1 ≤ len ∧ 1048576 < len ∧ u = 0 ∧ E = 240 ∧ L' = L ∧ U' = U) ∨
  (isS lo hi = true ∧ 1 ≤ len ∧ len ≤ 1048576 ∧ l < 1 ∧ u = 0 ∧ E = 242 ∧ L' = L ∧ U' = U) ∨
  (isS lo hi = true ∧ 1 ≤ len ∧ len ≤ 1048576 ∧ 1 ≤ l ∧ L = l ∧ u = max (min (lo + len) 1125899906842624) U ∧ E = 0 ∧ L' = l ∧ U' = u) ∨
  (isS lo hi = true ∧ 1 ≤ len ∧ len ≤ 1048576 ∧ 1 ≤ l ∧ L ≠ l ∧ lo ≤ U ∧ u = 0 ∧ E = 241 ∧ L' = L ∧ U' = U) ∨
  (isS lo hi = true ∧ 1 ≤ len ∧ len ≤ 1048576 ∧ 1 ≤ l ∧ L ≠ l ∧ U < lo ∧ u = min (lo + len) 1125899906842624 ∧ E = 0 ∧ L' = l ∧ U' = u)
theorem gr_of (L U lo hi l len : Int) : ∃ u E L' U', GrIs L U lo hi l len u E L' U' := by
  unfold GrIs
  cases isS lo hi
  · exact ⟨_, _, _, _, .inl ⟨rfl, rfl, rfl, rfl, rfl⟩⟩
  · by_cases h1 : len < 1
    · exact ⟨_, _, _, _, .inr (.inl ⟨rfl, h1, rfl, rfl, rfl, rfl⟩)⟩
    by_cases h2 : 1048576 < len
    · exact ⟨_, _, _, _, .inr (.inr (.inl ⟨rfl, by omega, h2, rfl, rfl, rfl, rfl⟩))⟩
    by_cases h3 : l < 1
    · exact ⟨_, _, _, _, .inr (.inr (.inr (.inl ⟨rfl, by omega, by omega, h3, rfl, rfl, rfl, rfl⟩)))⟩
    by_cases h4 : L = l
    · exact ⟨_, _, _, _, .inr (.inr (.inr (.inr (.inl ⟨rfl, by omega, by omega, by omega, h4, rfl, rfl, rfl, rfl⟩))))⟩
    by_cases h5 : lo ≤ U
    · exact ⟨_, _, _, _, .inr (.inr (.inr (.inr (.inr (.inl ⟨rfl, by omega, by omega, by omega, h4, h5, rfl, rfl, rfl, rfl⟩)))))⟩
    · exact ⟨_, _, _, _, .inr (.inr (.inr (.inr (.inr (.inr ⟨rfl, by omega, by omega, by omega, h4, by omega, rfl, rfl, rfl, rfl⟩)))))⟩
theorem newVoter_any (w : World) : Calls Try.prog 20 #[] w fun e w' => e = .returned (.pointer (some ⟨w.heap.size, 0, none⟩)) ∧ w.alloc (.cells #[.int .i64 0, .int .i64 0] 80) = w' := by
  go_enter Try.func20, Try.ntmps20
  go_wp2
  go_ret
  exact ⟨rfl, rfl⟩
set_option maxHeartbeats 1000000 in
theorem grant_any (g : Nat) (L U lo hi l len u E L' U' : Int) (w : World) (hs : Blk w g 80 #[.int .i64 L, .int .i64 U]) (h : GrIs L U lo hi l len u E L' U') :
    Calls Try.prog 24 #[.pointer (some ⟨g, 0, none⟩), .agg #[.int .i64 lo, .int .i64 hi], .int .i64 l, .int .i64 len] w fun e w' => e = .returned (.tuple #[.int .i64 u, .int .i64 E]) ∧ Blk w' g 80 #[.int .i64 L', .int .i64 U'] ∧ Keeps (· = g) w w' := by
  have HS0 := Lib.hid hs
  obtain ⟨q0, q1⟩ := hs.c2
  have hg := hs.lt
  have f0 := hs.frozen 0; have f1 := hs.frozen 1
  clear hs
  unfold GrIs at h
  generalize hs : isS lo hi = s at h
  have HS := Lib.hid hs
  rcases h with ⟨rfl, rfl, rfl, rfl, rfl⟩ | ⟨rfl, h1, rfl, rfl, rfl, rfl⟩ | ⟨rfl, h1, h2, rfl, rfl, rfl, rfl⟩ | ⟨rfl, h1, h2, h3, rfl, rfl, rfl, rfl⟩ | ⟨rfl, h1, h2, h3, rfl, rfl, rfl, rfl, rfl⟩ | ⟨rfl, h1, h2, h3, h4, h5, rfl, rfl, rfl, rfl⟩ | ⟨rfl, h1, h2, h3, h4, h5, rfl, rfl, rfl, rfl⟩
  · clear hs
    go_enter Try.func24, Try.ntmps24
    go_wp2_with (go_at_call 28; refine (check_any _ _ _).mono ?_; rintro e w1 ⟨rfl, rfl⟩; rw [HS.out])
    go_ret2
    exact ⟨rfl, (HS0.out.alloc _).alloc _, ((Keeps.refl _ _).alloc _).alloc _⟩
  · clear hs
    have hd : decide (len < 1) = true := by simp; omega
    go_enter Try.func24, Try.ntmps24
    go_wp2_with (go_at_call 28; refine (check_any _ _ _).mono ?_; rintro e w1 ⟨rfl, rfl⟩; rw [HS.out])
    go_ret2
    exact ⟨rfl, (HS0.out.alloc _).alloc _, ((Keeps.refl _ _).alloc _).alloc _⟩
  · clear hs
    have hd : decide (len < 1) = false := by simp; omega
    have hd2 : decide (1048576 < len) = true := by simp; omega
    go_enter Try.func24, Try.ntmps24
    go_wp2_with (go_at_call 28; refine (check_any _ _ _).mono ?_; rintro e w1 ⟨rfl, rfl⟩; rw [HS.out])
    go_ret2
    exact ⟨rfl, (HS0.out.alloc _).alloc _, ((Keeps.refl _ _).alloc _).alloc _⟩
  all_goals
    obtain ⟨g1, g2, g3⟩ := isS_iff.1 hs
    have hd : decide (len < 1) = false := by simp; omega
    have hd2 : decide (1048576 < len) = false := by simp; omega
    clear hs
  · have hd3 : decide (l < 1) = true := by simp; omega
    go_enter Try.func24, Try.ntmps24
    go_wp2_with (go_at_call 28; refine (check_any _ _ _).mono ?_; rintro e w1 ⟨rfl, rfl⟩; rw [HS.out])
    go_ret2
    exact ⟨rfl, (HS0.out.alloc _).alloc _, ((Keeps.refl _ _).alloc _).alloc _⟩
  · have hd3 : decide (L' < 1) = false := by simp; omega
    go_enter Try.func24, Try.ntmps24
    go_wp2_with (go_at_call 28; refine (check_any _ _ _).mono ?_; rintro e w1 ⟨rfl, rfl⟩; rw [HS.out])
    go_ret2
    exact ⟨rfl, ((blk_upd (blk_upd HS0.out rfl) rfl).alloc _).alloc _, Keeps.alloc (Keeps.alloc (Keeps.set_ (S := (· = g)) (Keeps.set_ (S := (· = g)) (Keeps.refl _ _) (Or.inl rfl) _) (Or.inl rfl) _) _) _⟩
  · have hd3 : decide (l < 1) = false := by simp; omega
    have hd4 : (L' == l) = false := by simpa using h4
    have hd5 : decide (lo ≤ U') = true := by simp; omega
    have hg1 : g < w.heap.size + 1 := by omega
    clear h4
    go_enter Try.func24, Try.ntmps24
    go_wp2_with (go_at_call 28; refine (check_any _ _ _).mono ?_; rintro e w1 ⟨rfl, rfl⟩; rw [HS.out])
    go_quiet (fail)
    go_wp2_with fail
    go_ret2
    exact ⟨rfl, ((HS0.out.alloc _).alloc _).drewN _, (((Keeps.refl _ _).alloc _).alloc _).drewN _⟩
  · have hd3 : decide (L' < 1) = false := by simp; omega
    have hd4 : (L == L') = false := by simpa using h4
    have hd5 : decide (lo ≤ U) = false := by simp; omega
    have hg1 : g < w.heap.size + 1 := by omega
    clear h4
    go_enter Try.func24, Try.ntmps24
    go_wp2_with (go_at_call 28; refine (check_any _ _ _).mono ?_; rintro e w1 ⟨rfl, rfl⟩; rw [HS.out])
    go_quiet (fail)
    go_wp2_with fail
    go_ret2
    exact ⟨rfl, blk_upd (blk_upd (((HS0.out.alloc _).alloc _).drewN _) rfl) rfl, Keeps.set_ (S := (· = g)) (Keeps.set_ (S := (· = g)) ((((Keeps.refl _ _).alloc _).alloc _).drewN _) (Or.inl rfl) _) (Or.inl rfl) _⟩
set_option maxHeartbeats 1000000 in
theorem rgrant_any (L U lo hi l len u E L' U' : Int) (w : World) (h : GrIs L U lo hi l len u E L' U') :
    Calls Try.prog 23 #[.agg #[.int .i64 L, .int .i64 U], .agg #[.int .i64 lo, .int .i64 hi], .int .i64 l, .int .i64 len] w fun e w' => e = .returned (.tuple #[.agg #[.int .i64 L', .int .i64 U'], .int .i64 u, .int .i64 E]) ∧ Below w.heap.size w w' := by
  unfold GrIs at h
  generalize hs : isS lo hi = s at h
  have HS := Lib.hid hs
  rcases h with ⟨rfl, rfl, rfl, rfl, rfl⟩ | ⟨rfl, h1, rfl, rfl, rfl, rfl⟩ | ⟨rfl, h1, h2, rfl, rfl, rfl, rfl⟩ | ⟨rfl, h1, h2, h3, rfl, rfl, rfl, rfl⟩ | ⟨rfl, h1, h2, h3, h4, hu, rfl, rfl, rfl⟩ | ⟨rfl, h1, h2, h3, h4, h5, rfl, rfl, rfl, rfl⟩ | ⟨rfl, h1, h2, h3, h4, h5, hu, rfl, rfl, rfl⟩
  · clear hs
    go_enter Try.func23, Try.ntmps23
    go_wp2_with (go_at_call 26; refine (is_any _ _ _).mono ?_; rintro e w1 ⟨rfl, rfl⟩; rw [HS.out])
    refine bodyPost_ret (v := .tuple #[.agg #[.int .i64 L', .int .i64 U'], .int .i64 0, .int .i64 240]) (by simp [results, Try.results23, go_sem]) rfl ⟨rfl, ?_⟩
    repeat (first | exact Hid.out (by assumption) | exact Below.refl _ _ | refine below_alloc_ ?_ _ | refine below_drewN_ ?_ _ | refine Below.drew ?_ | refine below_set_ ?_ (by first | exact Nat.le_refl _ | (simp; done) | (simp; omega)) _)
  · clear hs
    have hd : decide (len < 1) = true := by simp; omega
    go_enter Try.func23, Try.ntmps23
    go_wp2_with (go_at_call 26; refine (is_any _ _ _).mono ?_; rintro e w1 ⟨rfl, rfl⟩; rw [HS.out])
    refine bodyPost_ret (v := .tuple #[.agg #[.int .i64 L', .int .i64 U'], .int .i64 0, .int .i64 240]) (by simp [results, Try.results23, go_sem]) rfl ⟨rfl, ?_⟩
    repeat (first | exact Hid.out (by assumption) | exact Below.refl _ _ | refine below_alloc_ ?_ _ | refine below_drewN_ ?_ _ | refine Below.drew ?_ | refine below_set_ ?_ (by first | exact Nat.le_refl _ | (simp; done) | (simp; omega)) _)
  · clear hs
    have hd : decide (len < 1) = false := by simp; omega
    have hd2 : decide (1048576 < len) = true := by simp; omega
    go_enter Try.func23, Try.ntmps23
    go_wp2_with (go_at_call 26; refine (is_any _ _ _).mono ?_; rintro e w1 ⟨rfl, rfl⟩; rw [HS.out])
    refine bodyPost_ret (v := .tuple #[.agg #[.int .i64 L', .int .i64 U'], .int .i64 0, .int .i64 240]) (by simp [results, Try.results23, go_sem]) rfl ⟨rfl, ?_⟩
    repeat (first | exact Hid.out (by assumption) | exact Below.refl _ _ | refine below_alloc_ ?_ _ | refine below_drewN_ ?_ _ | refine Below.drew ?_ | refine below_set_ ?_ (by first | exact Nat.le_refl _ | (simp; done) | (simp; omega)) _)
  all_goals
    obtain ⟨g1, g2, g3⟩ := isS_iff.1 hs
    have hd : decide (len < 1) = false := by simp; omega
    have hd2 : decide (1048576 < len) = false := by simp; omega
    clear hs
  · have hd3 : decide (l < 1) = true := by simp; omega
    go_enter Try.func23, Try.ntmps23
    go_wp2_with (go_at_call 26; refine (is_any _ _ _).mono ?_; rintro e w1 ⟨rfl, rfl⟩; rw [HS.out])
    refine bodyPost_ret (v := .tuple #[.agg #[.int .i64 L', .int .i64 U'], .int .i64 0, .int .i64 242]) (by simp [results, Try.results23, go_sem]) rfl ⟨rfl, ?_⟩
    repeat (first | exact Hid.out (by assumption) | exact Below.refl _ _ | refine below_alloc_ ?_ _ | refine below_drewN_ ?_ _ | refine Below.drew ?_ | refine below_set_ ?_ (by first | exact Nat.le_refl _ | (simp; done) | (simp; omega)) _)
  · subst h4
    have hd3 : decide (L < 1) = false := by simp; omega
    rcases (show (1125899906842624 < lo + len ∧ ((1125899906842624 < U ∧ U' = U) ∨ (U ≤ 1125899906842624 ∧ U' = 1125899906842624))) ∨ (lo + len ≤ 1125899906842624 ∧ ((lo + len < U ∧ U' = U) ∨ (U ≤ lo + len ∧ U' = lo + len))) by omega) with ⟨a, ⟨b, rfl⟩ | ⟨b, rfl⟩⟩ | ⟨a, ⟨b, rfl⟩ | ⟨b, rfl⟩⟩
    all_goals
      clear hu
      first | (have hd4 : decide (1125899906842624 < U') = true := by simp; omega) | (have hd4 : decide (1125899906842624 < U) = false := by simp; omega) | (have hd4 : decide (lo + len < U') = true := by simp; omega) | (have hd4 : decide (lo + len < U) = false := by simp; omega)
      go_enter Try.func23, Try.ntmps23
      go_wp2_with (go_at_call 26; refine (is_any _ _ _).mono ?_; rintro e w1 ⟨rfl, rfl⟩; rw [HS.out])
      first
        | (refine bodyPost_ret (v := .tuple #[.agg #[.int .i64 L, .int .i64 U'], .int .i64 U', .int .i64 0]) (by simp [results, Try.results23, go_sem]) rfl ⟨rfl, ?_⟩; repeat (first | exact Hid.out (by assumption) | exact Below.refl _ _ | refine below_alloc_ ?_ _ | refine below_drewN_ ?_ _ | refine Below.drew ?_ | refine below_set_ ?_ (by first | exact Nat.le_refl _ | (simp; done) | (simp; omega)) _))
        | (refine bodyPost_ret (v := .tuple #[.agg #[.int .i64 L, .int .i64 1125899906842624], .int .i64 1125899906842624, .int .i64 0]) (by simp [results, Try.results23, go_sem]) rfl ⟨rfl, ?_⟩; repeat (first | exact Hid.out (by assumption) | exact Below.refl _ _ | refine below_alloc_ ?_ _ | refine below_drewN_ ?_ _ | refine Below.drew ?_ | refine below_set_ ?_ (by first | exact Nat.le_refl _ | (simp; done) | (simp; omega)) _))
        | (refine bodyPost_ret (v := .tuple #[.agg #[.int .i64 L, .int .i64 (lo + len)], .int .i64 (lo + len), .int .i64 0]) (by simp [results, Try.results23, go_sem]) rfl ⟨rfl, ?_⟩; repeat (first | exact Hid.out (by assumption) | exact Below.refl _ _ | refine below_alloc_ ?_ _ | refine below_drewN_ ?_ _ | refine Below.drew ?_ | refine below_set_ ?_ (by first | exact Nat.le_refl _ | (simp; done) | (simp; omega)) _))
  · have hd3 : decide (l < 1) = false := by simp; omega
    have hd4 : (L' != l) = true := by simpa using h4
    have hd6 : (L' == l) = false := by simpa using h4
    have hd5 : decide (U' < lo) = false := by simp; omega
    clear h4
    rcases (show 1125899906842624 < lo + len ∨ lo + len ≤ 1125899906842624 by omega) with a | a
    all_goals
      go_enter Try.func23, Try.ntmps23
      go_wp2_with (go_at_call 26; refine (is_any _ _ _).mono ?_; rintro e w1 ⟨rfl, rfl⟩; rw [HS.out])
      refine bodyPost_ret (v := .tuple #[.agg #[.int .i64 L', .int .i64 U'], .int .i64 0, .int .i64 241]) (by simp [results, Try.results23, go_sem]) rfl ⟨rfl, ?_⟩
      repeat (first | exact Hid.out (by assumption) | exact Below.refl _ _ | refine below_alloc_ ?_ _ | refine below_drewN_ ?_ _ | refine Below.drew ?_ | refine below_set_ ?_ (by first | exact Nat.le_refl _ | (simp; done) | (simp; omega)) _)
  · have hd3 : decide (L' < 1) = false := by simp; omega
    have hd4 : (L != L') = true := by simpa using h4
    have hd6 : (L == L') = false := by simpa using h4
    have hd5 : decide (U < lo) = true := by simp; omega
    clear h4
    rcases (show (1125899906842624 < lo + len ∧ U' = 1125899906842624) ∨ (lo + len ≤ 1125899906842624 ∧ U' = lo + len) by omega) with ⟨a, rfl⟩ | ⟨a, rfl⟩
    all_goals
      clear hu
      go_enter Try.func23, Try.ntmps23
      go_wp2_with (go_at_call 26; refine (is_any _ _ _).mono ?_; rintro e w1 ⟨rfl, rfl⟩; rw [HS.out])
      first
        | (refine bodyPost_ret (v := .tuple #[.agg #[.int .i64 L', .int .i64 1125899906842624], .int .i64 1125899906842624, .int .i64 0]) (by simp [results, Try.results23, go_sem]) rfl ⟨rfl, ?_⟩; repeat (first | exact Hid.out (by assumption) | exact Below.refl _ _ | refine below_alloc_ ?_ _ | refine below_drewN_ ?_ _ | refine Below.drew ?_ | refine below_set_ ?_ (by first | exact Nat.le_refl _ | (simp; done) | (simp; omega)) _))
        | (refine bodyPost_ret (v := .tuple #[.agg #[.int .i64 L', .int .i64 (lo + len)], .int .i64 (lo + len), .int .i64 0]) (by simp [results, Try.results23, go_sem]) rfl ⟨rfl, ?_⟩; repeat (first | exact Hid.out (by assumption) | exact Below.refl _ _ | refine below_alloc_ ?_ _ | refine below_drewN_ ?_ _ | refine Below.drew ?_ | refine below_set_ ?_ (by first | exact Nat.le_refl _ | (simp; done) | (simp; omega)) _))
theorem reborn_ok (lo hi : Int) (w : World) (h : isS lo hi = true) :
    Calls Try.prog 21 #[.agg #[.int .i64 lo, .int .i64 hi]] w fun e w' => ∃ g, e = .returned (.tuple #[.pointer (some ⟨g, 0, none⟩), .int .i64 0]) ∧ w.heap.size ≤ g ∧ Blk w' g 80 #[.int .i64 0, .int .i64 (min (hi + 1048576) 1125899906842624)] ∧ Below w.heap.size w w' := by
  have HS := Lib.hid h
  obtain ⟨g1, g2, g3⟩ := isS_iff.1 h
  clear h
  go_enter Try.func21, Try.ntmps21
  go_wp2_with (go_at_call 28; refine (check_any _ _ _).mono ?_; rintro e w1 ⟨rfl, rfl⟩; rw [HS.out])
  go_ret2
  exact ⟨_, rfl, by omega, Blk.new' (by simp), by repeat (first | exact Hid.out (by assumption) | exact Below.refl _ _ | refine below_alloc_ ?_ _ | refine below_drewN_ ?_ _ | refine Below.drew ?_ | refine below_set_ ?_ (by first | exact Nat.le_refl _ | (simp; done) | (simp; omega)) _)⟩
theorem reborn_bad (lo hi : Int) (w : World) (h : isS lo hi = false) :
    Calls Try.prog 21 #[.agg #[.int .i64 lo, .int .i64 hi]] w fun e w' => e = .returned (.tuple #[.pointer none, .int .i64 240]) ∧ Below w.heap.size w w' := by
  have HS := Lib.hid h
  clear h
  go_enter Try.func21, Try.ntmps21
  go_wp2_with (go_at_call 28; refine (check_any _ _ _).mono ?_; rintro e w1 ⟨rfl, rfl⟩; rw [HS.out])
  go_ret2
  exact ⟨rfl, by repeat (first | exact Hid.out (by assumption) | exact Below.refl _ _ | refine below_alloc_ ?_ _ | refine below_drewN_ ?_ _ | refine Below.drew ?_ | refine below_set_ ?_ (by first | exact Nat.le_refl _ | (simp; done) | (simp; omega)) _)⟩
def rbE (lo hi : Int) : Int := if isS lo hi = true then 0 else 240
def rbU (lo hi : Int) : Int := if isS lo hi = true then min (hi + 1048576) 1125899906842624 else 0
theorem rreborn_any (lo hi : Int) (w : World) :
    Calls Try.prog 22 #[.agg #[.int .i64 lo, .int .i64 hi]] w fun e w' => e = .returned (.tuple #[.agg #[.int .i64 0, .int .i64 (rbU lo hi)], .int .i64 (rbE lo hi)]) ∧ Below w.heap.size w w' := by
  unfold rbU rbE
  cases h : isS lo hi
  · have HS := Lib.hid h
    clear h
    go_enter Try.func22, Try.ntmps22
    go_wp2_with (go_at_call 26; refine (is_any _ _ _).mono ?_; rintro e w1 ⟨rfl, rfl⟩; rw [HS.out])
    refine bodyPost_ret (v := .tuple #[.agg #[.int .i64 0, .int .i64 0], .int .i64 240]) (by simp [results, Try.results22, go_sem]) rfl ⟨rfl, ?_⟩
    repeat (first | exact Hid.out (by assumption) | exact Below.refl _ _ | refine below_alloc_ ?_ _ | refine below_drewN_ ?_ _ | refine Below.drew ?_ | refine below_set_ ?_ (by first | exact Nat.le_refl _ | (simp; done) | (simp; omega)) _)
  · have HS := Lib.hid h
    obtain ⟨g1, g2, g3⟩ := isS_iff.1 h
    clear h
    simp only [if_true]
    rcases (show (1125899905794048 < hi ∧ min (hi + 1048576) 1125899906842624 = 1125899906842624) ∨ (hi ≤ 1125899905794048 ∧ min (hi + 1048576) 1125899906842624 = hi + 1048576) by omega) with ⟨a, e⟩ | ⟨a, e⟩
    all_goals
      rw [e]
      clear e
      go_enter Try.func22, Try.ntmps22
      go_wp2_with (go_at_call 26; refine (is_any _ _ _).mono ?_; rintro e w1 ⟨rfl, rfl⟩; rw [HS.out])
      first
        | (refine bodyPost_ret (v := .tuple #[.agg #[.int .i64 0, .int .i64 1125899906842624], .int .i64 0]) (by simp [results, Try.results22, go_sem]) rfl ⟨rfl, ?_⟩; repeat (first | exact Hid.out (by assumption) | exact Below.refl _ _ | refine below_alloc_ ?_ _ | refine below_drewN_ ?_ _ | refine Below.drew ?_ | refine below_set_ ?_ (by first | exact Nat.le_refl _ | (simp; done) | (simp; omega)) _))
        | (refine bodyPost_ret (v := .tuple #[.agg #[.int .i64 0, .int .i64 (hi + 1048576)], .int .i64 0]) (by simp [results, Try.results22, go_sem]) rfl ⟨rfl, ?_⟩; repeat (first | exact Hid.out (by assumption) | exact Below.refl _ _ | refine below_alloc_ ?_ _ | refine below_drewN_ ?_ _ | refine Below.drew ?_ | refine below_set_ ?_ (by first | exact Nat.le_refl _ | (simp; done) | (simp; omega)) _))
end Go.Proofs.Ytajojpfenlafbaa
