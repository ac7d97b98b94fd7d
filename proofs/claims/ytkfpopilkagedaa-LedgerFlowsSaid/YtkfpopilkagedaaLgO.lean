/- The book: Open. -/
import Derived.Test.YtkfpopilkagedaaLgB
set_option linter.unusedSimpArgs false
set_option linter.unusedVariables false
namespace Go.Proofs.Ytkfpopilkagedaa
open Go.RowKit Mo
theorem MapF.keeps {S : Nat → Prop} {w w' : World} {m n : Nat} {f : Int → Option (Int × Int)} (h : MapF w m n f) (hk : Keeps S w w') (hs : ¬ S m) : MapF w' m n f := by
  have hl := h.lt
  obtain ⟨D, ⟨es, clock, hb, r⟩, e⟩ := h
  exact ⟨D, ⟨es, clock, (hk.block m hl hs).trans hb, r⟩, e⟩
theorem MapF.mono {w : World} {m n n' : Nat} {f : Int → Option (Int × Int)} (h : MapF w m n f) (hn : n ≤ n') : MapF w m n' f := by
  obtain ⟨D, h, e⟩ := h
  exact ⟨D, h.mono hn, e⟩
theorem Bk.keeps {S : Nat → Prop} {w w' : World} {b r m n : Nat} {f : Int → Option (Int × Int)} (h : Bk w b r m n f) (hk : Keeps S w w') (hb : ¬ S b) (hs : ¬ S m) : Bk w' b r m n f := ⟨h.b.keeps hk hb, h.m.keeps hk hs⟩
/-- a book's block is no map -/
theorem Bk.ne {w : World} {b r m n : Nat} {f : Int → Option (Int × Int)} (h : Bk w b r m n f) : b ≠ m := by
  rintro rfl
  obtain ⟨D, ⟨es, clock, hb, _⟩, _⟩ := h.m
  have := h.b
  unfold Blk at this
  rw [this] at hb
  cases hb
def isAc (a : Int) : Bool := decide (0 ≤ a) && decide (a < 4096)
/-- what Open answers, and what the accounts are behind it -/
def OpIs (f : Int → Option (Int × Int)) (a n E : Int) (f' : Int → Option (Int × Int)) : Prop :=
  (isAc a = false ∧ E = 141 ∧ f = f') ∨ (isAc a = true ∧ (f a).isSome = true ∧ E = 142 ∧ f = f') ∨ (isAc a = true ∧ (f a).isSome = false ∧ isA n = false ∧ E = 143 ∧ f = f') ∨
  (isAc a = true ∧ (f a).isSome = false ∧ isA n = true ∧ E = 0 ∧ f' = fput f a (n, 0))
theorem op_of (f : Int → Option (Int × Int)) (a n : Int) : ∃ E f', OpIs f a n E f' := by
  unfold OpIs
  cases isAc a
  · exact ⟨_, _, .inl ⟨rfl, rfl, rfl⟩⟩
  · cases (f a).isSome
    · cases isA n
      · exact ⟨_, _, .inr (.inr (.inl ⟨rfl, rfl, rfl, rfl, rfl⟩))⟩
      · exact ⟨_, _, .inr (.inr (.inr ⟨rfl, rfl, rfl, rfl, rfl⟩))⟩
    · exact ⟨_, _, .inr (.inl ⟨rfl, rfl, rfl, rfl⟩)⟩
set_option maxRecDepth 100000 in
set_option maxHeartbeats 2000000 in
theorem open_any (b r m k : Nat) (f : Int → Option (Int × Int)) (a n E : Int) (f' : Int → Option (Int × Int)) (w : World) (ha : (Lit.int .i64 a).wf = true) (hn : (Lit.int .i64 n).wf = true) (hk : k < maxLen) (h : Bk w b r m k f) (hO : OpIs f a n E f') :
    Calls Try.prog 13 #[.pointer (some ⟨b, 0, none⟩), .int .i64 a, .int .i64 n] w fun e w' => e = .returned (.int .i64 E) ∧ Bk w' b r m (k + 1) f' ∧ Keeps (· = m) w w' := by
  obtain ⟨q0, q1⟩ := h.b.c2
  have bl := h.b.lt
  have hl := h.m.look ha
  have HH := Lib.hid h
  have bw := Lib.hid h.ne
  unfold accV at hl
  have ga : ∀ W : World, W = w.alloc (.cells #[.int .i64 ((f a).getD (0, 0)).1, .int .i64 ((f a).getD (0, 0)).2] 61) → Bk W b r m (k + 1) f ∧ Keeps (· = m) w W := fun W e => by
    subst e
    exact ⟨⟨HH.out.b.alloc _, (HH.out.m.alloc _).mono (by omega)⟩, (Keeps.refl _ _).alloc _⟩
  have GA := Lib.hid ga
  clear ga
  rcases hO with ⟨h1, rfl, rfl⟩ | ⟨h1, h2, rfl, rfl⟩ | ⟨h1, h2, h3, rfl, rfl⟩ | ⟨h1, h2, h3, rfl, rfl⟩
  · have H1 := Lib.hid h1
    unfold isAc at H1
    generalize (f a).getD (0, 0) = p at *
    generalize (f a).isSome = s at *
    obtain ⟨x, y⟩ := p
    simp only at hl GA
    clear h h1
    go_enter Try.func13, Try.ntmps13
    go_wp2_with (go_at_call 23; refine (is_any _ _).mono ?_; rintro e w1 ⟨rfl, rfl⟩; rw [H1.out])
    go_ret
    exact ⟨rfl, GA.out _ rfl⟩
  · have H1 := Lib.hid h1
    unfold isAc at H1
    generalize (f a).getD (0, 0) = p at *
    rw [h2] at hl
    obtain ⟨x, y⟩ := p
    simp only at hl GA
    clear h h1 h2
    go_enter Try.func13, Try.ntmps13
    go_wp2_with (go_at_call 23; refine (is_any _ _).mono ?_; rintro e w1 ⟨rfl, rfl⟩; rw [H1.out])
    go_ret
    exact ⟨rfl, GA.out _ rfl⟩
  · have H1 := Lib.hid h1; have H3 := Lib.hid h3
    unfold isAc at H1
    generalize (f a).getD (0, 0) = p at *
    rw [h2] at hl
    obtain ⟨x, y⟩ := p
    simp only at hl GA
    clear h h1 h2 h3
    go_enter Try.func13, Try.ntmps13
    go_wp2_with (first | (go_at_call 23; refine (is_any _ _).mono ?_; rintro e w1 ⟨rfl, rfl⟩; rw [H1.out]) | (go_at_call 24; refine (acheck_any _ _).mono ?_; rintro e w1 ⟨rfl, rfl⟩; rw [H3.out, show errA false = 40 from rfl]))
    go_ret
    exact ⟨rfl, GA.out _ rfl⟩
  · have H1 := Lib.hid h1; have H3 := Lib.hid h3
    unfold isAc at H1
    have hz : (f a).getD (0, 0) = (0, 0) := by
      cases e : f a
      · rfl
      · rw [e] at h2; cases h2
    rw [hz, h2] at hl
    rw [hz] at GA
    simp only at hl GA
    obtain ⟨w2, hst, hM, hg⟩ := (h.m.alloc (.cells #[.int .i64 0, .int .i64 0] 61)).store hk ha (n, 0)
    unfold accV at hst
    simp only at hst
    have HM := Lib.hid hM
    have HG := Lib.hid (((Keeps.refl (· = m) w).alloc (.cells #[.int .i64 0, .int .i64 0] 61)).grown hg (fun k hk => .inl (Option.some.inj hk).symm))
    clear h h1 h2 h3 hz hM hg
    go_enter Try.func13, Try.ntmps13
    go_wp2_with (first | (go_at_call 23; refine (is_any _ _).mono ?_; rintro e w1 ⟨rfl, rfl⟩; rw [H1.out]) | (go_at_call 24; refine (acheck_any _ _).mono ?_; rintro e w1 ⟨rfl, rfl⟩; rw [H3.out, show errA true = 0 from rfl]))
    go_ret
    exact ⟨rfl, ⟨HH.out.b.keeps HG.out bw.out, HM.out⟩, HG.out⟩
end Go.Proofs.Ytkfpopilkagedaa
