/- AmountRises: the walk. -/
import Derived.Test.YtefcofkodhichaaAmtTo
set_option linter.unusedSimpArgs false
set_option linter.unusedVariables false
namespace Go.Proofs.Ytefcofkodhichaa
open Go.RowKit Mo
theorem mag_le {r s : Nat} (h : r ≤ s) : mag r ≤ mag s := by
  rcases (show r < s ∨ r = s by omega) with g | rfl
  · exact Nat.le_of_lt (mag_lt g)
  · exact Nat.le_refl _
/-- a part, laid out to the least place -/
theorem part_mag (b : Nat) (h : expf b ≤ 1023) (N : Nat) : N * Mo.part b / 2 ^ (1075 - expf b) = N * mag (rung b) / 2 ^ 1074 := by
  have hm : mag (rung b) = Mo.part b * 2 ^ (expf b - 1) := by
    unfold mag Mo.part expf
    by_cases h0 : rung b < 4503599627370496
    · rw [if_pos h0, if_pos h0, if_pos h0]; simp
    · rw [if_neg h0, if_neg h0, if_neg h0]
  have he : 1 ≤ expf b := by unfold expf; split <;> omega
  generalize hK : 1074 = K
  have hp : 2 ^ K = 2 ^ (1075 - expf b) * 2 ^ (expf b - 1) := by rw [← Nat.pow_add]; congr 1; omega
  rw [hm, hp, ← Nat.mul_assoc, Nat.mul_div_mul_right _ _ (Nat.two_pow_pos _)]
theorem fee_val (n : Int) (b : Nat) (h0 : 0 ≤ n) (h1 : n ≤ 1000000000000000) (h : rateOk b = true) : prodE n b false = 0 ∧ prodV n b false = (n.natAbs * mag (rung b) / 2 ^ 1074 : Nat) ∧ prodV n b false ≤ n := by
  obtain ⟨r1, r2, r3⟩ := rate_parts b h
  have hsq : sq (n.natAbs * Mo.part b) (expf b) = n.natAbs * Mo.part b / 2 ^ (1075 - expf b) := by unfold sq; rw [if_neg (by omega)]
  have hle : n.natAbs * Mo.part b / 2 ^ (1075 - expf b) ≤ n.natAbs := by
    have h2 : n.natAbs * Mo.part b ≤ n.natAbs * 2 ^ (1075 - expf b) := Nat.mul_le_mul_left _ r3
    have h3 := Nat.div_le_div_right (c := 2 ^ (1075 - expf b)) h2
    rw [Nat.mul_div_cancel _ (Nat.two_pow_pos _)] at h3
    exact h3
  have hb : isNeg b = false ∨ Mo.part b = 0 := by
    unfold rateOk at h; simp at h
    rcases h with h | rfl
    · left; unfold isNeg; simp; omega
    · right; decide
  have hpn : decide (n < 0) = false := by simp; omega
  have hq : pabs n b false = n.natAbs * Mo.part b / 2 ^ (1075 - expf b) ∧ (pneg n b = true → pabs n b false = 0) := by
    rcases hb with hb | hb
    · have hg : pneg n b = false := by unfold pneg; rw [hpn, hb]; rfl
      unfold pabs
      rw [hsq, hg]
      simp
    · unfold pabs
      rw [hsq, hb]
      simp [sl]
  obtain ⟨q1, q2⟩ := hq
  have hE : prodE n b false = 0 := by
    unfold prodE
    rw [if_neg (by omega), if_neg (by omega), if_pos]
    unfold pfit
    rw [q1]
    split <;> simp <;> omega
  have hV : prodV n b false = (n.natAbs * Mo.part b / 2 ^ (1075 - expf b) : Nat) := by
    unfold prodV
    rw [if_pos hE]
    cases hg : pneg n b
    · rw [q1]; simp
    · have := q2 hg
      rw [this] at q1 ⊢
      rw [← q1]; simp
  refine ⟨hE, ?_, ?_⟩
  · rw [hV, part_mag b r2]
  · rw [hV]
    omega
theorem fee_mono (n m : Int) (b c : Nat) (h0 : 0 ≤ n) (h1 : n ≤ m) (hr : rung b ≤ rung c) : n.natAbs * mag (rung b) / 2 ^ 1074 ≤ m.natAbs * mag (rung c) / 2 ^ 1074 := by
  generalize 1074 = K
  exact Nat.div_le_div_right (Nat.mul_le_mul (by omega) (mag_le hr))
theorem rises_cases (n m : Int) (b c : Nat) (V E W F : Int) (hb : b < 18446744073709551616) (hc : c < 18446744073709551616) (h : FeeIs n b V E) (k : FeeIs m c W F) :
    (E = 40 ∨ E = 43) ∨ (E = 0 ∧ (F = 40 ∨ F = 43)) ∨ (E = 0 ∧ F = 0 ∧ isA V = true ∧ V ≤ n ∧ (m < n ∨ (n ≤ m ∧ (FloatKind.f64.format.order b c == some Ordering.gt) = true) ∨ (n ≤ m ∧ (FloatKind.f64.format.order b c == some Ordering.gt) = false ∧ V ≤ W))) := by
  rcases h with ⟨_, _, rfl⟩ | ⟨_, _, _, rfl⟩ | ⟨hn, hr, rfl, rfl⟩
  · exact .inl (.inl rfl)
  · exact .inl (.inr rfl)
  right
  obtain ⟨a1, a2⟩ := isA_iff.1 hn
  obtain ⟨e1, e2, e3⟩ := fee_val n b a1 a2 hr
  rcases k with ⟨_, _, rfl⟩ | ⟨_, _, _, rfl⟩ | ⟨hm, hs, rfl, rfl⟩
  · exact .inl ⟨e1, .inl rfl⟩
  · exact .inl ⟨e1, .inr rfl⟩
  right
  obtain ⟨c1, c2⟩ := isA_iff.1 hm
  obtain ⟨f1, f2, f3⟩ := fee_val m c c1 c2 hs
  refine ⟨e1, f1, isA_iff.2 (by rw [e2] at e3 ⊢; omega), e3, ?_⟩
  rcases (show m < n ∨ n ≤ m by omega) with g | g
  · exact .inl g
  right
  cases ho : (FloatKind.f64.format.order b c == some Ordering.gt)
  · right
    refine ⟨g, rfl, ?_⟩
    rw [f_gt hb hc] at ho
    have hnan : ∀ z, rateOk z = true → isNaN z = false := by
      intro z hz
      obtain ⟨r1, _⟩ := rate_parts z hz
      unfold isNaN; simp; omega
    rw [hnan b hr, hnan c hs] at ho
    simp only [Bool.not_false, Bool.true_and, decide_eq_false_iff_not, Int.not_lt] at ho
    have hrr : rung b ≤ rung c := by
      unfold ikey at ho
      have hz : ∀ z, rateOk z = true → isNeg z = true → rung z = 0 := by
        intro z hz hg
        unfold rateOk at hz; simp at hz
        rcases hz with hz | rfl
        · unfold isNeg at hg; simp at hg; omega
        · decide
      cases hg1 : isNeg b
      · cases hg2 : isNeg c
        · rw [hg1, hg2] at ho; simp at ho; omega
        · have := hz c hs hg2
          rw [hg1, hg2, this] at ho; simp at ho; omega
      · have := hz b hr hg1
        omega
    have := fee_mono n m b c a1 g hrr
    rw [e2, f2]
    omega
  · left
    exact ⟨g, rfl⟩
theorem blk_facts {w : World} {g : Nat} {t : TypeId} {a b : Value} (h : Blk w g t #[a, b]) : (w.cell? ⟨g, 0, none⟩ = some a ∧ w.cell? ⟨g, 1, none⟩ = some b) ∧ g < w.heap.size := ⟨h.c2, h.lt⟩
theorem blk_pass {w1 w2 w3 : World} {g : Nat} {t : TypeId} {cs : Array Value} (h : Blk w1 g t cs) (k : Below w1.heap.size w1 w2) (hb : Below w2.heap.size w2 w3) : Blk w3 g t cs :=
  (h.keeps (S := fun _ => False) (.of_below k) id).keeps (S := fun _ => False) (.of_below hb) id
set_option maxHeartbeats 2000000 in
theorem amountRises_walk (w : World) (n : Int) (r : Nat) (wn : (Lit.int .i64 n).wf = true) (wr : (Lit.float .f64 r).wf = true) (m : Int) (s : Nat) (wm : (Lit.int .i64 m).wf = true) (ws : (Lit.float .f64 s).wf = true) :
    Calls Try.prog 9 #[.agg #[.int .i64 n, .float .f64 r], .agg #[.int .i64 m, .float .f64 s]] w fun e w' => e = .returned (.bool true) ∧ Below w.heap.size w w' := by
  obtain ⟨n1, n2⟩ := i64_wf wn
  obtain ⟨m1, m2⟩ := i64_wf wm
  have hrb := f64_wf wr
  have hsb := f64_wf ws
  have HB : Hid (Below w.heap.size w w) := Lib.hid (Below.refl _ _)
  obtain ⟨V, E, hF⟩ := fee_of n r
  obtain ⟨W, F, hG⟩ := fee_of m s
  have HF := Lib.hid hF; have HG := Lib.hid hG
  have TA : Hid (Blk ((w.alloc (.cells #[.int .i64 n, .float .f64 r] 44)).alloc (.cells #[.int .i64 m, .float .f64 s] 44)) w.heap.size 44 #[.int .i64 n, .float .f64 r]) := Lib.hid ((Blk.new w _ _).alloc _)
  have TB : Hid (Blk ((w.alloc (.cells #[.int .i64 n, .float .f64 r] 44)).alloc (.cells #[.int .i64 m, .float .f64 s] 44)) (w.heap.size + 1) 44 #[.int .i64 m, .float .f64 s]) := Lib.hid (Blk.new' (by simp))
  clear wn wm wr ws
  rcases rises_cases n m r s V E W F hrb hsb hF hG with h | ⟨rfl, h⟩ | ⟨rfl, rfl, hv, hvn, h⟩
  · clear hF hG
    rcases h with rfl | rfl
    all_goals
      go_enter Try.func9, Try.ntmps9
      go_wp2_with (first
        | (go_at_call 15; refine (awake04_any _).mono ?_; rintro e w5 ⟨rfl, hb⟩; (replace TA := Lib.hid (blk_pass TA.out (by repeat (first | exact Below.refl _ _ | refine below_alloc_ ?_ _ | refine Below.drew ?_)) hb); (try clear q1 q2 q3); obtain ⟨⟨q1, q2⟩, q3⟩ := blk_facts TA.out; replace TB := Lib.hid (blk_pass TB.out (by repeat (first | exact Below.refl _ _ | refine below_alloc_ ?_ _ | refine Below.drew ?_)) hb); (try clear q4 q5 q6); obtain ⟨⟨q4, q5⟩, q6⟩ := blk_facts TB.out; replace HB := Lib.hid (below_then (w := w) (by repeat (first | exact HB.out | refine below_alloc_ ?_ _ | exact Below.refl _ _)) hb); clear hb))
        | (go_at_call 22; (have := HB0; clear this); refine (fee_any m s _ _ _ HG.out m1 m2 hsb).mono ?_; rintro e w1 ⟨rfl, rfl⟩)
        | (go_at_call 22; refine (fee_any n r _ _ _ HF.out n1 n2 hrb).mono ?_; rintro e w1 ⟨rfl, rfl⟩; have HB0 := trivial))
      go_ret
      exact ⟨rfl, HB.out⟩
  · clear hF hG
    rcases h with rfl | rfl
    all_goals
      go_enter Try.func9, Try.ntmps9
      go_wp2_with (first
        | (go_at_call 15; refine (awake04_any _).mono ?_; rintro e w5 ⟨rfl, hb⟩; (replace TA := Lib.hid (blk_pass TA.out (by repeat (first | exact Below.refl _ _ | refine below_alloc_ ?_ _ | refine Below.drew ?_)) hb); (try clear q1 q2 q3); obtain ⟨⟨q1, q2⟩, q3⟩ := blk_facts TA.out; replace TB := Lib.hid (blk_pass TB.out (by repeat (first | exact Below.refl _ _ | refine below_alloc_ ?_ _ | refine Below.drew ?_)) hb); (try clear q4 q5 q6); obtain ⟨⟨q4, q5⟩, q6⟩ := blk_facts TB.out; replace HB := Lib.hid (below_then (w := w) (by repeat (first | exact HB.out | refine below_alloc_ ?_ _ | exact Below.refl _ _)) hb); clear hb))
        | (go_at_call 22; (have := HB0; clear this); refine (fee_any m s _ _ _ HG.out m1 m2 hsb).mono ?_; rintro e w1 ⟨rfl, rfl⟩)
        | (go_at_call 22; refine (fee_any n r _ _ _ HF.out n1 n2 hrb).mono ?_; rintro e w1 ⟨rfl, rfl⟩; have HB0 := trivial))
      go_ret
      exact ⟨rfl, HB.out⟩
  · clear hF hG
    have HV := Lib.hid hv
    have d0 : decide (n < V) = false := by simp; omega
    clear hv
    rcases h with h | ⟨h, ho⟩ | ⟨h, ho, hvw⟩
    all_goals
      try have d1 : decide (m < n) = false := by simp; omega
      go_enter Try.func9, Try.ntmps9
      go_wp2_with (first
        | (go_at_call 15; refine (awake04_any _).mono ?_; rintro e w5 ⟨rfl, hb⟩; (replace TA := Lib.hid (blk_pass TA.out (by repeat (first | exact Below.refl _ _ | refine below_alloc_ ?_ _ | refine Below.drew ?_)) hb); (try clear q1 q2 q3); obtain ⟨⟨q1, q2⟩, q3⟩ := blk_facts TA.out; replace TB := Lib.hid (blk_pass TB.out (by repeat (first | exact Below.refl _ _ | refine below_alloc_ ?_ _ | refine Below.drew ?_)) hb); (try clear q4 q5 q6); obtain ⟨⟨q4, q5⟩, q6⟩ := blk_facts TB.out; replace HB := Lib.hid (below_then (w := w) (by repeat (first | exact HB.out | refine below_alloc_ ?_ _ | exact Below.refl _ _)) hb); clear hb))
        | (go_at_call 22; (have := HB0; clear this); refine (fee_any m s _ _ _ HG.out m1 m2 hsb).mono ?_; rintro e w1 ⟨rfl, rfl⟩)
        | (go_at_call 22; refine (fee_any n r _ _ _ HF.out n1 n2 hrb).mono ?_; rintro e w1 ⟨rfl, rfl⟩; have HB0 := trivial)
        | (go_at_call 16; refine (acheck_any _ _).mono ?_; rintro e w1 ⟨rfl, rfl⟩; rw [HV.out, show errA true = 0 from rfl]))
      go_ret
      exact ⟨rfl, HB.out⟩
end Go.Proofs.Ytefcofkodhichaa
