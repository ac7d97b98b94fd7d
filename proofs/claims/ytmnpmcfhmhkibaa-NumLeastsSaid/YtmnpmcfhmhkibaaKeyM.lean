/- Contracts of the document's functions of floats: Least. -/
import Derived.Test.YtmnpmcfhmhkibaaKeyW
import Derived.Deep.RegionHeld3
import Derived.LoopTactic
set_option linter.unusedSimpArgs false
set_option linter.unusedVariables false
namespace Go.Proofs.Ytmnpmcfhmhkibaa
open Go.RowKit Mo
theorem last2' {a0 a1 : Prop} {P : Prop} (h : a0 ∧ a1 ∧ Hid P) : P := h.2.2.out
def good (xs : List Nat) (i : Nat) : Prop := ∀ k, ∀ h : k < xs.length, ∀ h2 : i < xs.length, keyN xs[i] ≤ keyN xs[k] ∧ (k < i → keyN xs[i] < keyN xs[k])
theorem good_one {xs : List Nat} {i j : Nat} (hi : i < xs.length) (hj : j < xs.length) (h : good xs i) (k : good xs j) : i = j := by
  rcases (show i < j ∨ j < i ∨ i = j by omega) with g | g | g
  · have h1 := (k i hi hj).2 g
    have h2 := (h j hj hi).1
    omega
  · have h1 := (h j hj hi).2 g
    have h2 := (k i hi hj).1
    omega
  · exact g
theorem cmp_key (a b : Nat) : (cmpN a b < 0 ↔ keyN a < keyN b) ∧ (0 ≤ cmpN a b ↔ keyN b ≤ keyN a) ∧ (0 < cmpN a b ↔ keyN b < keyN a) := by
  unfold cmpN
  rcases (show keyN a < keyN b ∨ keyN b < keyN a ∨ keyN a = keyN b by omega) with g | g | g
  · rw [if_pos g]; omega
  · rw [if_neg (by omega), if_pos g]; omega
  · rw [if_neg (by omega), if_neg (by omega)]; omega
theorem least_upto (x0 : Nat) (l : List Nat) (k : Nat) (hk : k ≤ l.length) : ∃ i, ∃ h : i < (x0 :: l).length, i ≤ k ∧ leastF x0 (l.take k) = (x0 :: l)[i] ∧ ∀ j, ∀ hj : j < (x0 :: l).length, j ≤ k → keyN (x0 :: l)[i] ≤ keyN (x0 :: l)[j] ∧ (j < i → keyN (x0 :: l)[i] < keyN (x0 :: l)[j]) := by
  induction k with
  | zero => exact ⟨0, by simp, Nat.le_refl _, by simp [leastF], fun j hj h => by obtain rfl : j = 0 := (by omega); exact ⟨Nat.le_refl _, fun h => (by omega)⟩⟩
  | succ k ih =>
    obtain ⟨i, hi, hik, he, ha⟩ := ih (by omega)
    have hlt : k < l.length := by omega
    have hx : (x0 :: l)[k + 1]'(by simp; omega) = l[k] := rfl
    have ht := leastF_take x0 l k hlt
    rw [he] at ht
    by_cases hc : cmpN l[k] (x0 :: l)[i] < 0
    · rw [if_pos hc] at ht
      have hc' := (cmp_key _ _).1.1 hc
      refine ⟨k + 1, by simp; omega, Nat.le_refl _, ht.trans hx.symm, fun j hj h => ?_⟩
      rw [hx]
      rcases (show j ≤ k ∨ j = k + 1 by omega) with g | rfl
      · have := (ha j hj g).1
        exact ⟨by omega, fun _ => by omega⟩
      · exact ⟨Nat.le_refl _, fun h => by omega⟩
    · rw [if_neg hc] at ht
      have hc' : keyN (x0 :: l)[i] ≤ keyN l[k] := (cmp_key _ _).2.1.1 (by omega)
      refine ⟨i, hi, by omega, ht, fun j hj h => ?_⟩
      rcases (show j ≤ k ∨ j = k + 1 by omega) with g | rfl
      · exact ha j hj g
      · exact ⟨hc', fun h => by omega⟩
theorem least_good (x0 : Nat) (l : List Nat) : ∃ i, ∃ h : i < (x0 :: l).length, leastV (x0 :: l) = (x0 :: l)[i] ∧ good (x0 :: l) i := by
  obtain ⟨i, hi, _, he, ha⟩ := least_upto x0 l l.length (Nat.le_refl _)
  rw [List.take_length] at he
  exact ⟨i, hi, he, fun k hk _ => ha k hk (by simp at hk; omega)⟩
theorem good_least (xs : List Nat) (i : Nat) (hi : i < xs.length) (h : good xs i) : leastV xs = xs[i] ∧ leastOk xs = true := by
  cases xs with
  | nil => simp at hi
  | cons x0 l =>
    obtain ⟨j, hj, he, hg⟩ := least_good x0 l
    have := good_one hi hj h hg
    subst this
    exact ⟨he, rfl⟩
theorem bad_step {xs : List Nat} {i : Nat} (h : ∀ j, ∀ _ : j < i, ¬ good xs j) (k : ¬ good xs i) : ∀ j, ∀ _ : j < i + 1, ¬ good xs j := by
  intro j hj
  rcases (show j < i ∨ j = i by omega) with g | rfl
  · exact h j g
  · exact k
/-- what one round asks -/
def okAt (xs : List Nat) (i k : Nat) : Prop := ∀ h : k < xs.length, ∀ h2 : i < xs.length, 0 ≤ cmpN xs[k] xs[i] ∧ (i ≤ k ∨ 0 < cmpN xs[k] xs[i])
theorem ok_good (xs : List Nat) (i : Nat) (h : ∀ k, k < xs.length → okAt xs i k) : good xs i := by
  intro k hk hi
  obtain ⟨h1, h2⟩ := h k hk hk hi
  refine ⟨(cmp_key _ _).2.1.1 h1, fun hki => ?_⟩
  rcases h2 with h2 | h2
  · omega
  · exact (cmp_key _ _).2.2.1 h2
theorem good_ok (xs : List Nat) (i : Nat) (h : good xs i) (k : Nat) : okAt xs i k := by
  intro hk hi
  obtain ⟨h1, h2⟩ := h k hk hi
  refine ⟨(cmp_key _ _).2.1.2 h1, ?_⟩
  rcases (show i ≤ k ∨ k < i by omega) with g | g
  · exact .inl g
  · exact .inr ((cmp_key _ _).2.2.2 (h2 g))
set_option maxHeartbeats 4000000 in
theorem rleast_any (w : World) (A : Option Addr) (c : Nat) (xs : List Nat) (hr : Reads w w.heap.size 1 A xs.length (xs.map (Value.float .f64))) (hm : xs.length ≤ 200) (hx : ∀ u ∈ xs, u < 18446744073709551616) :
    Calls Try.prog 26 #[.slice A xs.length c] w fun e w' => e = .returned (.tuple #[.float .f64 (leastV xs), .bool (leastOk xs)]) ∧ Below w.heap.size w w' := by
  have HR := Lib.hid hr; have HX := Lib.hid hx
  clear hr hx
  go_enter Try.func26, Try.ntmps26
  go_wp2_with fail
  go_loopw [4] (fun i wr => ∃ (k : Nat), k ≤ xs.length ∧ i = .int .i64 k ∧ Hid (∀ j, ∀ h : j < k, ¬ good xs j) ∧ Hid (Below w.heap.size w wr)) (fun i _ => xs.length - (intOf i).toNat)
  case atStart => exact ⟨0, Nat.zero_le _, rfl, Lib.hid (fun j h => by omega), Lib.hid (Below.refl _ _)⟩
  case round =>
    obtain ⟨i, hi, rfl, HG, HW⟩ := hrel
    rename World => wo
    by_cases hlt : i < xs.length
    · have hd : decide ((i : Int) < xs.length) = true := by simp; omega
      go_wp2_with fail
      go_loopw [5, 6] (fun o k2 wr => ∃ (k : Nat) (q : Bool), k ≤ xs.length ∧ k2 = .int .i64 k ∧ o = .bool q ∧ Hid (q = true ↔ ∀ j, j < k → okAt xs i j) ∧ Hid (Below w.heap.size w wr)) (fun _ k2 _ => xs.length - (intOf k2).toNat)
      case atStart => exact ⟨0, true, Nat.zero_le _, rfl, rfl, Lib.hid (by simp), HW⟩
      case round =>
        obtain ⟨k, q, hk, rfl, rfl, HQ, HW2⟩ := hrel
        by_cases hlt2 : k < xs.length
        · have hd2 : decide ((k : Int) < xs.length) = true := by simp; omega
          have HRw := HR.out.kp (S := fun _ => False) (.of_below HW2.out) (fun _ _ h => h)
          obtain ⟨ad, u, rfl, hadb, hu, hcell⟩ := HRw.at_ hlt2
          obtain ⟨ad', u', e', hadb', hu', hcell'⟩ := HRw.at_ hlt
          obtain rfl : ad = ad' := by injection e'
          have hxk := HX.out xs[k] (List.getElem_mem hlt2)
          have hxi := HX.out xs[i] (List.getElem_mem hlt)
          obtain ⟨z, hz⟩ : ∃ z, cmpN xs[k] xs[i] = z := ⟨_, rfl⟩
          have hstep : (∀ j, j < k + 1 → okAt xs i j) ↔ ((∀ j, j < k → okAt xs i j) ∧ (0 ≤ z ∧ (i ≤ k ∨ 0 < z))) := by
            constructor
            · intro h
              have := h k (by omega) hlt2 hlt
              rw [hz] at this
              exact ⟨fun j hj => h j (by omega), this⟩
            · rintro ⟨h1, h2⟩ j hj
              rcases (show j < k ∨ j = k by omega) with g | rfl
              · exact h1 j g
              · intro a b; rw [hz]; exact h2
          rw [← HQ.out] at hstep
          have HST := Lib.hid hstep
          have HZ := Lib.hid hz
          obtain ⟨a, ha⟩ : ∃ a, xs[k] = a := ⟨_, rfl⟩
          obtain ⟨b, hb⟩ : ∃ b, xs[i] = b := ⟨_, rfl⟩
          obtain rfl : u = .float .f64 a := by simp [hlt2] at hu; rw [← hu, ha]
          obtain rfl : u' = .float .f64 b := by simp [hlt] at hu'; rw [← hu', hb]
          rw [ha, hb] at HZ
          rw [ha] at hxk
          rw [hb] at hxi
          clear hu hu' hz hstep HQ e' hadb' HRw ha hb
          go_wp2_with fail
          go_region_held3 (fun w' => w'.cell? (ad.add k) = some (.float .f64 a) ∧ w'.cell? (ad.add i) = some (.float .f64 b) ∧ Hid (Below w.heap.size w w'))
            (first | exact (by assumption) | exact ⟨hcell, hcell', Lib.hid (Below.drew HW2.out)⟩)
            (first | (go_at_call 17; refine (rcmp_any _ _ _ hxk hxi).mono ?_; rintro e w1 ⟨rfl, rfl⟩; rw [HZ.out]))
          all_goals
            have HW3 := Lib.hid (last2' (by assumption))
            rcases (show (z < 0) ∨ (z = 0 ∧ i ≤ k) ∨ (z = 0 ∧ k < i) ∨ (0 < z ∧ i ≤ k) ∨ (0 < z ∧ k < i) by omega) with hz | ⟨rfl, hz⟩ | ⟨rfl, hz⟩ | ⟨hz, hz2⟩ | ⟨hz, hz2⟩
            · have d1 : decide (0 ≤ z) = false := by simp; omega
              cases q
              all_goals
                go_wp2_with fail
                go_roundw
                case rel => exact ⟨k + 1, _, by omega, by go_num, rfl, Lib.hid (by rw [HST.out]; first | (simp; done) | (simp; omega)), HW3⟩
                case measure => simp [intOf]; omega
            · have d1 : decide ((i : Int) ≤ k) = true := by simp; omega
              cases q
              all_goals
                go_wp2_with fail
                go_roundw
                case rel => exact ⟨k + 1, _, by omega, by go_num, rfl, Lib.hid (by rw [HST.out]; first | (simp; done) | (simp; omega)), HW3⟩
                case measure => simp [intOf]; omega
            · have d1 : decide ((i : Int) ≤ k) = false := by simp; omega
              have d2 : ¬ (i ≤ k) := by omega
              cases q
              all_goals
                go_wp2_with fail
                go_roundw
                case rel => exact ⟨k + 1, _, by omega, by go_num, rfl, Lib.hid (by rw [HST.out]; first | (simp; done) | (simp; omega)), HW3⟩
                case measure => simp [intOf]; omega
            · have d1 : decide ((i : Int) ≤ k) = true := by simp; omega
              have d3 : decide (0 ≤ z) = true := by simp; omega
              cases q
              all_goals
                go_wp2_with fail
                go_roundw
                case rel => exact ⟨k + 1, _, by omega, by go_num, rfl, Lib.hid (by rw [HST.out]; first | (simp; done) | (simp; omega)), HW3⟩
                case measure => simp [intOf]; omega
            · have d1 : decide ((i : Int) ≤ k) = false := by simp; omega
              have d2 : ¬ (i ≤ k) := by omega
              have d3 : decide (0 ≤ z) = true := by simp; omega
              cases q
              all_goals
                go_wp2_with fail
                go_roundw
                case rel => exact ⟨k + 1, _, by omega, by go_num, rfl, Lib.hid (by rw [HST.out]; first | (simp; done) | (simp; omega)), HW3⟩
                case measure => simp [intOf]; omega
        · have hd2 : decide ((k : Int) < xs.length) = false := by simp; omega
          have hk9 : k = xs.length := by omega
          have hq := HQ.out
          rw [hk9] at hq
          clear hk9 HQ
          cases q
          · have hng : ¬ good xs i := fun hg => by
              have := hq.2 (fun j _ => good_ok xs i hg j)
              exact Bool.noConfusion this
            have HNG := Lib.hid hng
            clear hq hng
            go_wp2_with fail
            go_roundw
            case rel => exact ⟨i + 1, by omega, by go_num, Lib.hid (bad_step HG.out HNG.out), HW2⟩
            case measure => simp [intOf]; omega
          · obtain ⟨g1, g2⟩ := good_least xs i hlt (ok_good xs i (fun k hk => hq.1 rfl k hk))
            have HG1 := Lib.hid g1; have HG2 := Lib.hid g2
            have HRw := HR.out.kp (S := fun _ => False) (.of_below HW2.out) (fun _ _ h => h)
            obtain ⟨ad, u, rfl, hadb, hu, hcell⟩ := HRw.at_ hlt
            obtain rfl : u = .float .f64 xs[i] := by simp [hlt] at hu; rw [← hu]
            clear hq g1 g2 hu HRw
            go_wp2_with fail
            go_ret2
            rw [HG1.out, HG2.out]
            exact ⟨rfl, HW2.out⟩
    · have hd : decide ((i : Int) < xs.length) = false := by simp; omega
      have hxn : xs = [] := by
        cases xs with
        | nil => rfl
        | cons x0 l =>
          exfalso
          obtain ⟨j, hj, _, hg⟩ := least_good x0 l
          exact HG.out j (by omega) hg
      have HV := Lib.hid (show leastV xs = 0 ∧ leastOk xs = false by rw [hxn]; exact ⟨rfl, rfl⟩)
      clear hxn
      go_wp2
      go_ret2
      rw [HV.out.1, HV.out.2]
      exact ⟨rfl, HW.out⟩
end Go.Proofs.Ytmnpmcfhmhkibaa
