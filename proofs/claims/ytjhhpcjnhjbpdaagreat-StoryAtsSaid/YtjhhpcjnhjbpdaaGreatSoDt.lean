/- What Check and At say, is one. -/
import Derived.Test.YtjhhpcjnhjbpdaaGreatQF
set_option linter.unusedSimpArgs false
set_option linter.unusedVariables false
namespace Go.Proofs.YtjhhpcjnhjbpdaaGreat
open Go.RowKit Mo
theorem first_one {P : Nat → Prop} {n i j : Nat} (hi : i < n) (hj : j < n) (h1 : P i) (h2 : P j) (n1 : ∀ k, k < i → ¬ P k) (n2 : ∀ k, k < j → ¬ P k) : i = j := by
  rcases Nat.lt_trichotomy i j with h | h | h
  · exact absurd h1 (n2 i h)
  · exact h
  · exact absurd h2 (n1 j h)
theorem opd_det {l : List VEntry} {V V' : Int} (h : OpdIs l V) (h' : OpdIs l V') : V = V' := by
  rcases h with ⟨i, hi, rfl, h1, h2⟩ | ⟨rfl, h1⟩ <;> rcases h' with ⟨j, hj, rfl, g1, g2⟩ | ⟨rfl, g1⟩
  · rw [first_one (P := fun k => badO l k = true) hi hj h1 g1 (fun k hk e => by rw [h2 k hk] at e; cases e) (fun k hk e => by rw [g2 k hk] at e; cases e)]
  · rw [g1 i hi] at h1; cases h1
  · rw [h1 j hj] at g1; cases g1
  · rfl
theorem cls_det {l : List VCall20} {V E V' E' : Int} (h : ClsIs l V E) (h' : ClsIs l V' E') : V = V' ∧ E = E' := by
  rcases h with ⟨i, hi, rfl, rfl, h1, h2⟩ | ⟨rfl, rfl, h1⟩ <;> rcases h' with ⟨j, hj, rfl, rfl, g1, g2⟩ | ⟨rfl, rfl, g1⟩
  · have := first_one (P := fun k => wrong l k ≠ 0) hi hj h1 g1 (fun k hk e => e (h2 k hk)) (fun k hk e => e (g2 k hk))
    subst this; exact ⟨rfl, rfl⟩
  · exact absurd (g1 i hi) h1
  · exact absurd (h1 j hj) g1
  · exact ⟨rfl, rfl⟩
theorem chkIs_det {l : List VCall20} {R : List Int} {EE : Nat → Int} {V E V' E' : Int} (h : ChkIs l R EE V E) (h' : ChkIs l R EE V' E') : V = V' ∧ E = E' := by
  have bad : ∀ {k : Nat} {E : Int}, ((tie l R k = true ∧ E = 215) ∨ (tie l R k = false ∧ EE k ≠ 0 ∧ E = 216)) → ¬ (tie l R k = false ∧ EE k = 0) := by
    rintro k E (⟨a, _⟩ | ⟨_, a, _⟩) ⟨b, c⟩
    · rw [a] at b; cases b
    · exact a c
  rcases h with ⟨i, hi, h1, rfl, h2⟩ | ⟨h1, rfl, rfl⟩ <;> rcases h' with ⟨j, hj, g1, rfl, g2⟩ | ⟨g1, rfl, rfl⟩
  · have := first_one (P := fun k => ¬ (tie l R k = false ∧ EE k = 0)) hi hj (bad h2) (bad g2) (fun k hk e => e (h1 k hk)) (fun k hk e => e (g1 k hk))
    subst this
    refine ⟨rfl, ?_⟩
    rcases h2 with ⟨a, rfl⟩ | ⟨a, _, rfl⟩ <;> rcases g2 with ⟨b, rfl⟩ | ⟨b, _, rfl⟩
    · rfl
    · rw [a] at b; cases b
    · rw [a] at b; cases b
    · rfl
  · exact absurd (g1 i hi) (bad h2)
  · exact absurd (h1 j hj) (bad g2)
  · exact ⟨rfl, rfl⟩
theorem chk_det {r : Nat} {ops : List VEntry} {l : List VCall20} {R : List Int} {EE : Nat → Int} {V E V' E' : Int} (h : ChkSpec r ops l R EE V E) (h' : ChkSpec r ops l R EE V' E') : V = V' ∧ E = E' := by
  rcases h with ⟨a, rfl, rfl⟩ | ⟨a, b, c, rfl⟩ | ⟨a, b, c, d⟩ | ⟨a, b, c, d⟩ <;> rcases h' with ⟨a', rfl, rfl⟩ | ⟨a', b', c', rfl⟩ | ⟨a', b', c', d'⟩ | ⟨a', b', c', d'⟩
  · exact ⟨rfl, rfl⟩
  · rw [a] at a'; cases a'
  · rw [a] at a'; cases a'
  · rw [a] at a'; cases a'
  · rw [a] at a'; cases a'
  · exact ⟨opd_det c c', rfl⟩
  · have := opd_det c b'; omega
  · have := opd_det c b'; omega
  · rw [a] at a'; cases a'
  · have := opd_det b c'; omega
  · exact cls_det c c'
  · exact absurd (cls_det c c').2 d
  · rw [a] at a'; cases a'
  · have := opd_det b c'; omega
  · exact absurd (cls_det c' c).2 d'
  · exact chkIs_det d d'
theorem at_det {r : Nat} {ops : List VEntry} {l : List VCall20} {R : List Int} {EE : Nat → Int} {G : Nat → Int → Option (Int × Int)} {t : Int} {k0 : Nat} {L L' : List (Int × Int)} {E E' : Int} (h : AtSpec r ops l R EE G t k0 L E) (h' : AtSpec r ops l R EE G t k0 L' E') : L = L' ∧ E = E' := by
  rcases h with ⟨V, a, b, rfl⟩ | ⟨V, a, b⟩ <;> rcases h' with ⟨V', a', b', rfl⟩ | ⟨V', a', b'⟩
  · exact ⟨rfl, (chk_det a a').2⟩
  · exact absurd (chk_det a a').2 b
  · exact absurd (chk_det a' a).2 b'
  · clear a a'
    rcases b with ⟨c, e1, e2⟩ | ⟨c, e1, e2⟩ <;> rcases b' with ⟨c', e1', e2'⟩ | ⟨c', e1', e2'⟩
    · exact ⟨e2.trans e2'.symm, e1.trans e1'.symm⟩
    · exact absurd (c.symm.trans c') (by decide)
    · exact absurd (c.symm.trans c') (by decide)
    · exact ⟨e2.trans e2'.symm, e1.trans e1'.symm⟩
end Go.Proofs.YtjhhpcjnhjbpdaaGreat
