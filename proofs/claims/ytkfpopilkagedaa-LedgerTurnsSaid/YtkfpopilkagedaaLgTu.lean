/- LedgerTurns: the walk. -/
import Derived.Test.YtkfpopilkagedaaLgMo
import Derived.Deep.DeepCutAuto
set_option linter.unusedSimpArgs false
set_option linter.unusedVariables false
namespace Go.Proofs.Ytkfpopilkagedaa
open Go.RowKit Mo
theorem OpIs.near {f f' g : Int → Option (Int × Int)} {c n E : Int} (h : OpIs f c n E f') (hg : g c = f c) : ∃ g', OpIs g c n E g' ∧ g' c = f' c ∧ ∀ t, t ≠ c → g' t = g t ∧ f' t = f t := by
  rcases h with ⟨h1, h2, rfl⟩ | ⟨h1, h2, h3, rfl⟩ | ⟨h1, h2, h3, h4, rfl⟩ | ⟨h1, h2, h3, h4, rfl⟩
  · exact ⟨g, .inl ⟨h1, h2, rfl⟩, hg, fun _ _ => ⟨rfl, rfl⟩⟩
  · exact ⟨g, .inr (.inl ⟨h1, by rw [hg]; exact h2, h3, rfl⟩), hg, fun _ _ => ⟨rfl, rfl⟩⟩
  · exact ⟨g, .inr (.inr (.inl ⟨h1, by rw [hg]; exact h2, h3, h4, rfl⟩)), hg, fun _ _ => ⟨rfl, rfl⟩⟩
  · refine ⟨_, .inr (.inr (.inr ⟨h1, by rw [hg]; exact h2, h3, h4, rfl⟩)), ?_, fun t ht => ⟨?_, ?_⟩⟩
    · unfold fput; rw [if_pos rfl, if_pos rfl]
    · unfold fput; rw [if_neg ht]
    · unfold fput; rw [if_neg ht]
theorem MvIs.near {f f' g : Int → Option (Int × Int)} {fee a c n V E : Int} (h : MvIs f fee a c n V E f') (ha : g a = f a) (hc : g c = f c) : ∃ g', MvIs g fee a c n V E g' ∧ g' a = f' a ∧ g' c = f' c ∧ ∀ t, t ≠ a → t ≠ c → g' t = g t ∧ f' t = f t := by
  rcases h with ⟨h1, h2, h3, rfl⟩ | ⟨h1, h2, h3, h4, h5, rfl⟩ | ⟨h1, h2, h3, h4, h5, h6, h7, rfl⟩ | ⟨h1, h2, h3, h4, rfl⟩ | ⟨x, h1, h2, h3, h4, h5, rfl⟩ | ⟨x, h1, h2, h3, h4, h5, h6, rfl⟩ | ⟨x, y, h1, h2, h3, h4, h5, h6, h7, rfl⟩ | ⟨x, y, h1, h2, h3, h4, h5, h6, h7, rfl⟩
  · exact ⟨g, .inl ⟨h1, h2, h3, rfl⟩, ha, hc, fun _ _ _ => ⟨rfl, rfl⟩⟩
  · exact ⟨g, .inr (.inl ⟨h1, h2, h3, h4, h5, rfl⟩), ha, hc, fun _ _ _ => ⟨rfl, rfl⟩⟩
  · exact ⟨g, .inr (.inr (.inl ⟨h1, h2, h3, h4, h5, h6, h7, rfl⟩)), ha, hc, fun _ _ _ => ⟨rfl, rfl⟩⟩
  · exact ⟨g, .inr (.inr (.inr (.inl ⟨h1, ha.trans h2, h3, h4, rfl⟩))), ha, hc, fun _ _ _ => ⟨rfl, rfl⟩⟩
  · exact ⟨g, .inr (.inr (.inr (.inr (.inl ⟨x, h1, ha.trans h2, h3, h4, h5, rfl⟩)))), ha, hc, fun _ _ _ => ⟨rfl, rfl⟩⟩
  · exact ⟨g, .inr (.inr (.inr (.inr (.inr (.inl ⟨x, h1, ha.trans h2, h3, hc.trans h4, h5, h6, rfl⟩))))), ha, hc, fun _ _ _ => ⟨rfl, rfl⟩⟩
  · exact ⟨g, .inr (.inr (.inr (.inr (.inr (.inr (.inl ⟨x, y, h1, ha.trans h2, h3, hc.trans h4, h5, h6, h7, rfl⟩)))))), ha, hc, fun _ _ _ => ⟨rfl, rfl⟩⟩
  · have hne := h1.2.2.2.2
    refine ⟨_, .inr (.inr (.inr (.inr (.inr (.inr (.inr ⟨x, y, h1, ha.trans h2, h3, hc.trans h4, h5, h6, h7, rfl⟩)))))), ?_, ?_, fun t t1 t2 => ⟨?_, ?_⟩⟩
    · unfold fput; rw [if_neg hne, if_pos rfl, if_neg hne, if_pos rfl]
    · unfold fput; rw [if_pos rfl, if_pos rfl]
    · unfold fput; rw [if_neg t2, if_neg t1]
    · unfold fput; rw [if_neg t2, if_neg t1]
theorem DoIs.near {f f' g : Int → Option (Int × Int)} {r : Nat} {kd a c n V E : Int} (h : DoIs f r kd a c n V E f') (ha : g a = f a) (hc : g c = f c) : ∃ g', DoIs g r kd a c n V E g' ∧ g' a = f' a ∧ g' c = f' c ∧ ∀ t, t ≠ a → t ≠ c → g' t = g t ∧ f' t = f t := by
  rcases h with ⟨h1, h2, h3⟩ | ⟨h1, h2⟩
  · obtain ⟨g', k1, k2, k3⟩ := h3.near hc
    refine ⟨g', .inl ⟨h1, h2, k1⟩, ?_, k2, fun t _ t2 => k3 t t2⟩
    by_cases e : a = c
    · rw [e]; exact k2
    · rw [(k3 a e).1, (k3 a e).2]; exact ha
  · obtain ⟨g', k1, k2, k3, k4⟩ := h2.near ha hc
    exact ⟨g', .inr ⟨h1, k1⟩, k2, k3, k4⟩
theorem DoIs.swap {f f1 f2 : Int → Option (Int × Int)} {r : Nat} {kd a c n V E kd2 a2 c2 n2 V2 E2 : Int} (h : DoIs f r kd a c n V E f1) (h2 : DoIs f1 r kd2 a2 c2 n2 V2 E2 f2) (d1 : a ≠ a2) (d2 : a ≠ c2) (d3 : c ≠ a2) (d4 : c ≠ c2) :
    ∃ g1, DoIs f r kd2 a2 c2 n2 V2 E2 g1 ∧ DoIs g1 r kd a c n V E f2 := by
  obtain ⟨_, _, _, _, far⟩ := h.near (g := f) rfl rfl
  obtain ⟨g1, k1, k2, k3, k4⟩ := h2.near (g := f) (far a2 d1.symm d3.symm).2.symm (far c2 d2.symm d4.symm).2.symm
  obtain ⟨g2, m1, m2, m3, m4⟩ := h.near (g := g1) (k4 a d1 d2).1 (k4 c d3 d4).1
  refine ⟨g1, k1, ?_⟩
  have e : g2 = f2 := by
    funext t
    by_cases ta : t = a
    · rw [ta, m2, (k4 a d1 d2).2]
    · by_cases tc : t = c
      · rw [tc, m3, (k4 c d3 d4).2]
      · rw [(m4 t ta tc).1]
        by_cases ta2 : t = a2
        · rw [ta2, k2]
        · by_cases tc2 : t = c2
          · rw [tc2, k3]
          · rw [(k4 t ta2 tc2).1, (k4 t ta2 tc2).2, (m4 t ta tc).2]
  rw [← e]
  exact m1
end Go.Proofs.Ytkfpopilkagedaa
