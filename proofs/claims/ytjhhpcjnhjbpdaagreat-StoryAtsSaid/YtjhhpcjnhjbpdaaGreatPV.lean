/- Joined: LgV, LgV2, LgV3, LgV4, LgV5. -/
import Derived.Test.YtjhhpcjnhjbpdaaGreatPL
import Derived.Deep.RegionHeld3
import Derived.Deep.RegionWith
/- The book: Move. -/
set_option linter.unusedSimpArgs false
set_option linter.unusedVariables false
namespace Go.Proofs.YtjhhpcjnhjbpdaaGreat
open Go.RowKit Mo
def mvOk (a c n : Int) : Prop := isAc a = true ∧ isAc c = true ∧ 1 ≤ n ∧ isA n = true ∧ a ≠ c
/-- what Move answers, and what the accounts are behind it -/
def MvIs (f : Int → Option (Int × Int)) (fee a c n V E : Int) (f' : Int → Option (Int × Int)) : Prop :=
  ((isAc a && isAc c) = false ∧ V = 0 ∧ E = 141 ∧ f = f') ∨
  (isAc a = true ∧ isAc c = true ∧ (n < 1 ∨ isA n = false) ∧ V = 0 ∧ E = 143 ∧ f = f') ∨
  (isAc a = true ∧ isAc c = true ∧ 1 ≤ n ∧ isA n = true ∧ a = c ∧ V = 0 ∧ E = 144 ∧ f = f') ∨
  (mvOk a c n ∧ f a = none ∧ V = 0 ∧ E = 145 ∧ f = f') ∨
  (∃ x, mvOk a c n ∧ f a = some x ∧ x.1 < n + fee ∧ V = 0 ∧ E = 146 ∧ f = f') ∨
  (∃ x, mvOk a c n ∧ f a = some x ∧ n + fee ≤ x.1 ∧ f c = none ∧ V = 0 ∧ E = 147 ∧ f = f') ∨
  (∃ x y, mvOk a c n ∧ f a = some x ∧ n + fee ≤ x.1 ∧ f c = some y ∧ isA (y.1 + n) = false ∧ V = 0 ∧ E = 148 ∧ f = f') ∨
  (∃ x y, mvOk a c n ∧ f a = some x ∧ n + fee ≤ x.1 ∧ f c = some y ∧ isA (y.1 + n) = true ∧ V = fee ∧ E = 0 ∧ fput (fput f a (x.1 - n - fee, x.2 + fee)) c (y.1 + n, y.2) = f')
theorem mv_of (f : Int → Option (Int × Int)) (fee a c n : Int) : ∃ V E f', MvIs f fee a c n V E f' := by
  by_cases h1 : (isAc a && isAc c) = false
  · exact ⟨_, _, _, .inl ⟨h1, rfl, rfl, rfl⟩⟩
  obtain ⟨h1, h2⟩ : isAc a = true ∧ isAc c = true := by simpa using h1
  by_cases h3 : n < 1 ∨ isA n = false
  · exact ⟨_, _, _, .inr (.inl ⟨h1, h2, h3, rfl, rfl, rfl⟩)⟩
  obtain ⟨h3, h4⟩ : 1 ≤ n ∧ isA n = true := by simp at h3; exact ⟨by omega, h3.2⟩
  by_cases h5 : a = c
  · exact ⟨_, _, _, .inr (.inr (.inl ⟨h1, h2, h3, h4, h5, rfl, rfl, rfl⟩))⟩
  have ho : mvOk a c n := ⟨h1, h2, h3, h4, h5⟩
  cases ex : f a with
  | none => exact ⟨_, _, _, .inr (.inr (.inr (.inl ⟨ho, ex, rfl, rfl, rfl⟩)))⟩
  | some x =>
    by_cases h6 : x.1 < n + fee
    · exact ⟨_, _, _, .inr (.inr (.inr (.inr (.inl ⟨x, ho, ex, h6, rfl, rfl, rfl⟩))))⟩
    have h6 : n + fee ≤ x.1 := by omega
    cases ey : f c with
    | none => exact ⟨_, _, _, .inr (.inr (.inr (.inr (.inr (.inl ⟨x, ho, ex, h6, ey, rfl, rfl, rfl⟩)))))⟩
    | some y =>
      cases hz : isA (y.1 + n)
      · exact ⟨_, _, _, .inr (.inr (.inr (.inr (.inr (.inr (.inl ⟨x, y, ho, ex, h6, ey, hz, rfl, rfl, rfl⟩))))))⟩
      · exact ⟨_, _, _, .inr (.inr (.inr (.inr (.inr (.inr (.inr ⟨x, y, ho, ex, h6, ey, hz, rfl, rfl, rfl⟩))))))⟩
end Go.Proofs.YtjhhpcjnhjbpdaaGreat

/- The book: Move, refused. -/
set_option linter.unusedSimpArgs false
set_option linter.unusedVariables false
namespace Go.Proofs.YtjhhpcjnhjbpdaaGreat
open Go.RowKit Mo
theorem isa_t {a : Int} (w : World) (h : isAc a = true) : Calls Tryz.prog 38 #[.int .i64 a] w fun e w' => e = .returned (.bool true) ∧ w = w' :=
  (is_any a w).mono fun e w' ⟨h1, h2⟩ => ⟨by rw [h1]; unfold isAc at h; rw [h], h2⟩
theorem isa_f {a : Int} (w : World) (h : isAc a = false) : Calls Tryz.prog 38 #[.int .i64 a] w fun e w' => e = .returned (.bool false) ∧ w = w' :=
  (is_any a w).mono fun e w' ⟨h1, h2⟩ => ⟨by rw [h1]; unfold isAc at h; rw [h], h2⟩
theorem chk_t {n : Int} (w : World) (h : isA n = true) : Calls Tryz.prog 34 #[.int .i64 n] w fun e w' => e = .returned (.int .i64 0) ∧ w = w' :=
  (acheck_any n w).mono fun e w' ⟨h1, h2⟩ => ⟨by rw [h1, h]; rfl, h2⟩
theorem chk_f {n : Int} (w : World) (h : isA n = false) : Calls Tryz.prog 34 #[.int .i64 n] w fun e w' => e = .returned (.int .i64 40) ∧ w = w' :=
  (acheck_any n w).mono fun e w' ⟨h1, h2⟩ => ⟨by rw [h1, h]; rfl, h2⟩
set_option maxRecDepth 100000 in
set_option maxHeartbeats 2000000 in
theorem move_acc (b r : Nat) (a c n : Int) (w : World) (h : (isAc a && isAc c) = false) :
    Calls Tryz.prog 17 #[.pointer (some ⟨b, 0, none⟩), .int .i64 a, .int .i64 c, .int .i64 n] w fun e w' => e = .returned (.tuple #[.int .i64 0, .int .i64 141]) ∧ w = w' := by
  cases ha : isAc a
  · have HA := Lib.hid ha
    clear ha h
    go_enter Tryz.func17, Tryz.ntmps17
    go_wp2_with (go_at_call 38; refine (isa_f _ HA.out).mono ?_; rintro e w1 ⟨rfl, rfl⟩)
    go_ret2
    exact ⟨rfl, rfl⟩
  · rw [ha] at h
    have hc : isAc c = false := by simpa using h
    have HA := Lib.hid ha; have HC := Lib.hid hc
    clear ha h hc
    go_enter Tryz.func17, Tryz.ntmps17
    go_wp2_with (first | (go_at_call 38; refine (isa_t (a := a) _ HA.out).mono ?_; rintro e w1 ⟨rfl, rfl⟩) | (go_at_call 38; refine (isa_f _ HC.out).mono ?_; rintro e w1 ⟨rfl, rfl⟩))
    go_ret2
    exact ⟨rfl, rfl⟩
set_option maxRecDepth 100000 in
set_option maxHeartbeats 2000000 in
theorem move_amt (b r : Nat) (a c n : Int) (w : World) (ha : isAc a = true) (hc : isAc c = true) (h : n < 1 ∨ isA n = false) :
    Calls Tryz.prog 17 #[.pointer (some ⟨b, 0, none⟩), .int .i64 a, .int .i64 c, .int .i64 n] w fun e w' => e = .returned (.tuple #[.int .i64 0, .int .i64 143]) ∧ w = w' := by
  have HA := Lib.hid ha; have HC := Lib.hid hc
  clear ha hc
  by_cases h1 : n < 1
  · clear h
    go_enter Tryz.func17, Tryz.ntmps17
    go_wp2_with (first | (go_at_call 38; refine (isa_t (a := a) _ HA.out).mono ?_; rintro e w1 ⟨rfl, rfl⟩) | (go_at_call 38; refine (isa_t (a := c) _ HC.out).mono ?_; rintro e w1 ⟨rfl, rfl⟩))
    go_ret2
    exact ⟨rfl, rfl⟩
  · have hn : isA n = false := by rcases h with h | h; exact absurd h h1; exact h
    have HN := Lib.hid hn
    have d : decide (n < 1) = false := decide_eq_false h1
    clear h hn
    go_enter Tryz.func17, Tryz.ntmps17
    go_wp2_with (first | (go_at_call 38; refine (isa_t (a := a) _ HA.out).mono ?_; rintro e w1 ⟨rfl, rfl⟩) | (go_at_call 38; refine (isa_t (a := c) _ HC.out).mono ?_; rintro e w1 ⟨rfl, rfl⟩) | (go_at_call 34; refine (chk_f _ HN.out).mono ?_; rintro e w1 ⟨rfl, rfl⟩))
    go_ret2
    exact ⟨rfl, rfl⟩
set_option maxRecDepth 100000 in
set_option maxHeartbeats 2000000 in
theorem move_self (b r : Nat) (a n : Int) (w : World) (ha : isAc a = true) (h1 : 1 ≤ n) (hn : isA n = true) :
    Calls Tryz.prog 17 #[.pointer (some ⟨b, 0, none⟩), .int .i64 a, .int .i64 a, .int .i64 n] w fun e w' => e = .returned (.tuple #[.int .i64 0, .int .i64 144]) ∧ w = w' := by
  have HA := Lib.hid ha; have HN := Lib.hid hn
  have d : decide (n < 1) = false := by simp; omega
  clear ha hn
  go_enter Tryz.func17, Tryz.ntmps17
  go_wp2_with (first | (go_at_call 38; refine (isa_t (a := a) _ HA.out).mono ?_; rintro e w1 ⟨rfl, rfl⟩) | (go_at_call 34; refine (chk_t _ HN.out).mono ?_; rintro e w1 ⟨rfl, rfl⟩))
  go_ret2
  exact ⟨rfl, rfl⟩
end Go.Proofs.YtjhhpcjnhjbpdaaGreat

/- The book: Move, refused by what accounts have. -/
set_option linter.unusedSimpArgs false
set_option linter.unusedVariables false
namespace Go.Proofs.YtjhhpcjnhjbpdaaGreat
open Go.RowKit Mo
theorem feeR {n : Int} {r : Nat} {fee : Int} (w : World) (hn : isA n = true) (hr : rateOk r = true) (hb : r < 18446744073709551616) (hf : prodV n r false = fee) : Calls Tryz.prog 39 #[.int .i64 n, .float .f64 r] w fun e w' => e = .returned (.tuple #[.int .i64 fee, .int .i64 0]) ∧ w = w' := by
  obtain ⟨h0, h1⟩ := isA_iff.1 hn
  have hv := fee_val n r h0 h1 hr
  refine fee_any n r fee 0 w (.inr (.inr ⟨hn, hr, hf.symm, hv.1.symm⟩)) (by omega) (by omega) hb
set_option maxRecDepth 100000 in
set_option maxHeartbeats 2000000 in
theorem move_from (b r m k : Nat) (f : Int → Option (Int × Int)) (a c n : Int) (w : World) (h : Bk w b r m k f) (ho : mvOk a c n) (wa : (Lit.int .i64 a).wf = true) (hf : f a = none) :
    Calls Tryz.prog 17 #[.pointer (some ⟨b, 0, none⟩), .int .i64 a, .int .i64 c, .int .i64 n] w fun e w' => e = .returned (.tuple #[.int .i64 0, .int .i64 145]) ∧ Below w.heap.size w w' := by
  obtain ⟨q0, q1⟩ := h.b.c2
  have bl := h.b.lt
  have hl := h.m.look wa
  rw [hf] at hl
  unfold accV at hl
  simp only [Option.getD_none, Option.isSome_none] at hl
  obtain ⟨ha, hc, h1, hn, hne⟩ := ho
  have HA := Lib.hid ha; have HC := Lib.hid hc; have HN := Lib.hid hn
  have d : decide (n < 1) = false := by simp; omega
  have d1 : (a == c) = false := by simp; exact hne
  clear ha hc hn h
  go_enter Tryz.func17, Tryz.ntmps17
  go_wp2_with (first | (go_at_call 38; with_reducible refine (isa_t (a := a) _ HA.out).mono ?_; rintro e w1 ⟨rfl, rfl⟩) | (go_at_call 38; with_reducible refine (isa_t (a := c) _ HC.out).mono ?_; rintro e w1 ⟨rfl, rfl⟩) | (go_at_call 34; with_reducible refine (chk_t _ HN.out).mono ?_; rintro e w1 ⟨rfl, rfl⟩))
  go_ret2
  exact ⟨rfl, by repeat (first | exact Below.refl _ _ | refine below_alloc_ ?_ _ | refine Below.drew ?_)⟩
set_option maxRecDepth 100000 in
set_option maxHeartbeats 2000000 in
theorem move_short (b r m k : Nat) (f : Int → Option (Int × Int)) (a c n fee x y : Int) (w : World) (h : Bk w b r m k f) (ho : mvOk a c n) (wa : (Lit.int .i64 a).wf = true) (hf : f a = some (x, y)) (hr : rateOk r = true) (hb : r < 18446744073709551616) (hfee : prodV n r false = fee) (hs : x < n + fee) :
    Calls Tryz.prog 17 #[.pointer (some ⟨b, 0, none⟩), .int .i64 a, .int .i64 c, .int .i64 n] w fun e w' => e = .returned (.tuple #[.int .i64 0, .int .i64 146]) ∧ Below w.heap.size w w' := by
  obtain ⟨q0, q1⟩ := h.b.c2
  have bl := h.b.lt
  have hl := h.m.look wa
  rw [hf] at hl
  unfold accV at hl
  simp only [Option.getD_some, Option.isSome_some] at hl
  obtain ⟨ha, hc, h1, hn, hne⟩ := ho
  obtain ⟨n0, n1⟩ := isA_iff.1 hn
  have hv := fee_val n r n0 n1 hr
  have f0 : 0 ≤ fee ∧ fee ≤ n := by rw [← hfee]; exact ⟨by rw [hv.2.1]; omega, hv.2.2⟩
  have w1 : IntKind.i64.wrap (n + fee) = n + fee := IntWalk.i64_in _ (by omega)
  have HA := Lib.hid ha; have HC := Lib.hid hc; have HN := Lib.hid hn; have HR := Lib.hid hr; have HF := Lib.hid hfee
  have d : decide (n < 1) = false := by simp; omega
  have d1 : (a == c) = false := by simp; exact hne
  clear ha hc hn h hr hfee hv
  go_enter Tryz.func17, Tryz.ntmps17
  go_wp2_with (first | (go_at_call 38; with_reducible refine (isa_t (a := a) _ HA.out).mono ?_; rintro e w1 ⟨rfl, rfl⟩) | (go_at_call 38; with_reducible refine (isa_t (a := c) _ HC.out).mono ?_; rintro e w1 ⟨rfl, rfl⟩) | (go_at_call 34; with_reducible refine (chk_t _ HN.out).mono ?_; rintro e w1 ⟨rfl, rfl⟩) | (go_at_call 39; with_reducible refine (feeR _ HN.out HR.out hb HF.out).mono ?_; rintro e w1 ⟨rfl, rfl⟩))
  go_ret2
  exact ⟨rfl, by repeat (first | exact Below.refl _ _ | refine below_alloc_ ?_ _ | refine Below.drew ?_)⟩
end Go.Proofs.YtjhhpcjnhjbpdaaGreat

/- The book: Move, refused by whom it goes to. -/
set_option linter.unusedSimpArgs false
set_option linter.unusedVariables false
namespace Go.Proofs.YtjhhpcjnhjbpdaaGreat
open Go.RowKit Mo
set_option maxRecDepth 100000 in
set_option maxHeartbeats 2000000 in
theorem move_to (b r m k : Nat) (f : Int → Option (Int × Int)) (a c n fee x y : Int) (w : World) (h : Bk w b r m k f) (ho : mvOk a c n) (wa : (Lit.int .i64 a).wf = true) (wc : (Lit.int .i64 c).wf = true) (hf : f a = some (x, y)) (hr : rateOk r = true) (hb : r < 18446744073709551616) (hfee : prodV n r false = fee) (hs : n + fee ≤ x) (hg : f c = none) :
    Calls Tryz.prog 17 #[.pointer (some ⟨b, 0, none⟩), .int .i64 a, .int .i64 c, .int .i64 n] w fun e w' => e = .returned (.tuple #[.int .i64 0, .int .i64 147]) ∧ Below w.heap.size w w' := by
  obtain ⟨q0, q1⟩ := h.b.c2
  have bl := h.b.lt
  have hl := h.m.look wa
  have hl2 := (h.m.alloc (.cells #[.int .i64 x, .int .i64 y] 74)).look wc
  rw [hf] at hl
  rw [hg] at hl2
  unfold accV at hl hl2
  simp only [Option.getD_some, Option.isSome_some] at hl
  simp only [Option.getD_none, Option.isSome_none] at hl2
  obtain ⟨ha, hc, h1, hn, hne⟩ := ho
  obtain ⟨n0, n1⟩ := isA_iff.1 hn
  have hv := fee_val n r n0 n1 hr
  have f0 : 0 ≤ fee ∧ fee ≤ n := by rw [← hfee]; exact ⟨by rw [hv.2.1]; omega, hv.2.2⟩
  have w1 : IntKind.i64.wrap (n + fee) = n + fee := IntWalk.i64_in _ (by omega)
  have HA := Lib.hid ha; have HC := Lib.hid hc; have HN := Lib.hid hn; have HR := Lib.hid hr; have HF := Lib.hid hfee
  have d : decide (n < 1) = false := by simp; omega
  have d1 : (a == c) = false := by simp; exact hne
  have d2 : decide (x < n + fee) = false := by simp; omega
  clear ha hc hn h hr hfee hv
  go_enter Tryz.func17, Tryz.ntmps17
  go_wp2_with (first | (go_at_call 38; with_reducible refine (isa_t (a := a) _ HA.out).mono ?_; rintro e w1 ⟨rfl, rfl⟩) | (go_at_call 38; with_reducible refine (isa_t (a := c) _ HC.out).mono ?_; rintro e w1 ⟨rfl, rfl⟩) | (go_at_call 34; with_reducible refine (chk_t _ HN.out).mono ?_; rintro e w1 ⟨rfl, rfl⟩) | (go_at_call 39; with_reducible refine (feeR _ HN.out HR.out hb HF.out).mono ?_; rintro e w1 ⟨rfl, rfl⟩))
  go_ret2
  exact ⟨rfl, by repeat (first | exact Below.refl _ _ | refine below_alloc_ ?_ _ | refine Below.drew ?_)⟩
end Go.Proofs.YtjhhpcjnhjbpdaaGreat

/- The book: Move, refused as too full. -/
set_option linter.unusedSimpArgs false
set_option linter.unusedVariables false
namespace Go.Proofs.YtjhhpcjnhjbpdaaGreat
open Go.RowKit Mo
theorem addR {x n : Int} {K : Int} (w : World) (hx : isA x = true) (hn : isA n = true) (hk : errA (isA (x + n)) = K) : Calls Tryz.prog 40 #[.int .i64 x, .int .i64 n] w fun e w' => (∃ V, e = .returned (.tuple #[.int .i64 V, .int .i64 K])) ∧ Below w.heap.size w w' := by
  obtain ⟨x0, x1⟩ := isA_iff.1 hx
  obtain ⟨n0, n1⟩ := isA_iff.1 hn
  have e : totOk [x, n] = isA (x + n) := by
    unfold totOk isA at *
    simp only [List.all_cons, List.all_nil, Bool.and_true, sumA, Int.add_zero]
    rw [hx, hn, decide_eq_true (show 0 ≤ x + n by omega)]
    rfl
  refine (add_any x n w (by simp [Lit.wf, IntKind.min, IntKind.max, IntKind.signed, IntKind.bits]; omega) (by simp [Lit.wf, IntKind.min, IntKind.max, IntKind.signed, IntKind.bits]; omega)).mono ?_
  rintro e' w' ⟨rfl, hb⟩
  exact ⟨⟨_, by rw [e, hk]⟩, hb⟩
set_option maxRecDepth 100000 in
set_option maxHeartbeats 2000000 in
theorem move_full (b r m k : Nat) (f : Int → Option (Int × Int)) (a c n fee x y p q : Int) (w : World) (h : Bk w b r m k f) (ho : mvOk a c n) (wa : (Lit.int .i64 a).wf = true) (wc : (Lit.int .i64 c).wf = true) (hf : f a = some (x, y)) (hr : rateOk r = true) (hb : r < 18446744073709551616) (hfee : prodV n r false = fee) (hs : n + fee ≤ x) (hg : f c = some (p, q)) (hp : isA p = true) (hz : isA (p + n) = false) :
    Calls Tryz.prog 17 #[.pointer (some ⟨b, 0, none⟩), .int .i64 a, .int .i64 c, .int .i64 n] w fun e w' => e = .returned (.tuple #[.int .i64 0, .int .i64 148]) ∧ Below w.heap.size w w' := by
  obtain ⟨q0, q1⟩ := h.b.c2
  have bl := h.b.lt
  have hl := h.m.look wa
  have hl2 := (h.m.alloc (.cells #[.int .i64 x, .int .i64 y] 74)).look wc
  rw [hf] at hl
  rw [hg] at hl2
  unfold accV at hl hl2
  simp only [Option.getD_some, Option.isSome_some] at hl hl2
  obtain ⟨ha, hc, h1, hn, hne⟩ := ho
  obtain ⟨n0, n1⟩ := isA_iff.1 hn
  have hv := fee_val n r n0 n1 hr
  have f0 : 0 ≤ fee ∧ fee ≤ n := by rw [← hfee]; exact ⟨by rw [hv.2.1]; omega, hv.2.2⟩
  have w1 : IntKind.i64.wrap (n + fee) = n + fee := IntWalk.i64_in _ (by omega)
  have HA := Lib.hid ha; have HC := Lib.hid hc; have HN := Lib.hid hn; have HR := Lib.hid hr; have HF := Lib.hid hfee; have HP := Lib.hid hp
  have HZ := Lib.hid (show errA (isA (p + n)) = 40 by rw [hz]; rfl)
  have d : decide (n < 1) = false := by simp; omega
  have d1 : (a == c) = false := by simp; exact hne
  have d2 : decide (x < n + fee) = false := by simp; omega
  clear ha hc hn h hr hfee hv hp hz
  go_enter Tryz.func17, Tryz.ntmps17
  go_wp2_with (first | (go_at_call 38; with_reducible refine (isa_t (a := a) _ HA.out).mono ?_; rintro e w1 ⟨rfl, rfl⟩) | (go_at_call 38; with_reducible refine (isa_t (a := c) _ HC.out).mono ?_; rintro e w1 ⟨rfl, rfl⟩) | (go_at_call 34; with_reducible refine (chk_t _ HN.out).mono ?_; rintro e w1 ⟨rfl, rfl⟩) | (go_at_call 39; with_reducible refine (feeR _ HN.out HR.out hb HF.out).mono ?_; rintro e w1 ⟨rfl, rfl⟩) | (go_at_call 40; with_reducible refine (addR _ HP.out HN.out HZ.out).mono ?_; rintro e w9 ⟨⟨V, rfl⟩, hb9⟩))
  go_ret2
  exact ⟨rfl, below_then (w := w) (by repeat (first | exact Below.refl _ _ | refine below_alloc_ ?_ _ | refine Below.drew ?_)) hb9⟩
end Go.Proofs.YtjhhpcjnhjbpdaaGreat
