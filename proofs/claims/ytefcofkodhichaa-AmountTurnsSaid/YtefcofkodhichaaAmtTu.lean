/- AmountTurns: the walk. -/
import Derived.Test.YtefcofkodhichaaAmtTo
set_option linter.unusedSimpArgs false
set_option linter.unusedVariables false
namespace Go.Proofs.Ytefcofkodhichaa
open Go.RowKit Mo
theorem sumA_set (l : List Int) (j : Nat) (v : Int) (h : j < l.length) : sumA (l.set j v) + l[j] = sumA l + v := by
  induction l generalizing j with
  | nil => simp at h
  | cons x l ih =>
    cases j with
    | zero => simp only [List.set_cons_zero, sumA, List.getElem_cons_zero]; omega
    | succ j =>
      have := ih j (by simpa using h)
      simp only [List.set_cons_succ, sumA, List.getElem_cons_succ]
      omega
def swapL (l : List Int) (i k : Nat) (x y : Int) : List Int := (l.set i y).set k x
theorem swap_sum (l : List Int) (i k : Nat) (hi : i < l.length) (hk : k < l.length) : sumA (swapL l i k l[i] l[k]) = sumA l := by
  unfold swapL
  have h1 := sumA_set l i l[k] hi
  have h2 := sumA_set (l.set i l[k]) k l[i] (by simpa using hk)
  have h3 : (l.set i l[k])[k]'(by simpa using hk) = l[k] := by
    rw [List.getElem_set]
    split
    · rfl
    · rfl
  rw [h3] at h2
  omega
theorem swap_all (l : List Int) (i k : Nat) (hi : i < l.length) (hk : k < l.length) : (swapL l i k l[i] l[k]).all isA = l.all isA := by
  rw [Bool.eq_iff_iff, List.all_eq_true, List.all_eq_true]
  unfold swapL
  constructor
  · intro h x hx
    obtain ⟨j, hj, rfl⟩ := List.getElem_of_mem hx
    by_cases h1 : j = i
    · subst h1
      exact h _ (List.mem_iff_getElem.2 ⟨k, by simpa using hk, by rw [List.getElem_set_self]⟩)
    · by_cases h2 : j = k
      · subst h2
        exact h _ (List.mem_iff_getElem.2 ⟨i, by simpa using hi, by rw [List.getElem_set_ne (by omega), List.getElem_set_self]⟩)
      · exact h _ (List.mem_iff_getElem.2 ⟨j, by simpa using hj, by rw [List.getElem_set_ne (by omega), List.getElem_set_ne (by omega)]⟩)
  · intro h x hx
    rcases List.mem_or_eq_of_mem_set hx with hx | rfl
    · rcases List.mem_or_eq_of_mem_set hx with hx | rfl
      · exact h x hx
      · exact h _ (List.getElem_mem hk)
    · exact h _ (List.getElem_mem hi)
theorem swap_tot (l : List Int) (i k : Nat) (hi : i < l.length) (hk : k < l.length) : totOk (swapL l i k l[i] l[k]) = totOk l ∧ totV (swapL l i k l[i] l[k]) = totV l := by
  have h1 : totOk (swapL l i k l[i] l[k]) = totOk l := by unfold totOk; rw [swap_all l i k hi hk, swap_sum l i k hi hk]
  exact ⟨h1, by unfold totV; rw [h1, swap_sum l i k hi hk]⟩
theorem swap_wf (l : List Int) (i k : Nat) (x y : Int) (h : ∀ u ∈ l, (Lit.int .i64 u).wf = true) (hx : (Lit.int .i64 x).wf = true) (hy : (Lit.int .i64 y).wf = true) : ∀ u ∈ swapL l i k x y, (Lit.int .i64 u).wf = true := by
  intro u hu
  rcases List.mem_or_eq_of_mem_set hu with hu | rfl
  · rcases List.mem_or_eq_of_mem_set hu with hu | rfl
    · exact h u hu
    · exact hy
  · exact hx
theorem own_some {w : World} {base : Nat} {e : TypeId} {n : Nat} {v : Value} {xs : List Value} (h : w.ownsRow base e 1 v n xs) (hn : 0 < n) : ∃ g c, v = .slice (some ⟨g, 0, none⟩) n c ∧ base ≤ g := by
  rcases h.2 with ⟨_, h0⟩ | ⟨g, cap, cur, rfl, hb, _⟩
  · omega
  · exact ⟨g, cap, rfl, hb⟩
theorem u16_wf {n : Int} (h : (Lit.int .u16 n).wf = true) : 0 ≤ n ∧ n ≤ 65535 := by
  simpa [Lit.wf, IntKind.min, IntKind.max, IntKind.signed, IntKind.bits] using h
set_option maxHeartbeats 2000000 in
theorem amountTurns_walk (w : World) (A : Option Addr) (c : Nat) (xs : List Int) (hr : SlOk w 1 A c (xs.map (Value.int .i64))) (hc : xs.length ≤ c) (hm : c ≤ maxLen) (hx : ∀ u_ ∈ xs, (Lit.int .i64 u_).wf = true) (at_ : Int) (wat : (Lit.int .u16 at_).wf = true) (to_ : Int) (wto : (Lit.int .u16 to_).wf = true) :
    Calls Try.prog 10 #[.slice A xs.length c, .int .u16 at_, .int .u16 to_] w fun e w' => e = .returned (.bool true) ∧ Below w.heap.size w w' := by
  have hr := hr.reads (n := xs.length) (by simp) (by decide)
  obtain ⟨t1, t2⟩ := u16_wf wat
  obtain ⟨o1, o2⟩ := u16_wf wto
  have HR := Lib.hid hr
  have HX := Lib.hid hx
  have HB : Hid (Below w.heap.size w w) := Lib.hid (Below.refl _ _)
  clear hr hc hm hx wat wto
  rcases (show 5000 < xs.length ∨ xs.length = 0 ∨ (0 < xs.length ∧ xs.length ≤ 5000) by omega) with h | h | ⟨h0, h⟩
  · have hd : decide ((5000 : Int) < xs.length) = true := by simp; omega
    go_enter Try.func10, Try.ntmps10
    go_wp2_with ((go_at_call 15; refine (awake04_any _).mono ?_; rintro e w5 ⟨rfl, hb⟩; replace HB := Lib.hid (below_then (w := w) (by repeat (first | exact HB.out | refine below_alloc_ ?_ _ | exact Below.refl _ _)) hb); clear hb))
    go_ret
    exact ⟨rfl, HB.out⟩
  · obtain rfl : xs = [] := List.eq_nil_of_length_eq_zero h
    go_enter Try.func10, Try.ntmps10
    go_wp2_with ((go_at_call 15; refine (awake04_any _).mono ?_; rintro e w5 ⟨rfl, hb⟩; replace HB := Lib.hid (below_then (w := w) (by repeat (first | exact HB.out | refine below_alloc_ ?_ _ | exact Below.refl _ _)) hb); clear hb))
    go_ret
    exact ⟨rfl, HB.out⟩
  have hd : decide ((5000 : Int) < xs.length) = false := by simp; omega
  have hd2 : ((xs.length : Int) == 0) = false := beq_eq_false_iff_ne.2 (by omega)
  have hd3 : (xs.length == 0) = false := beq_eq_false_iff_ne.2 (by omega)
  have hn0 : (xs.length : Int) ≠ 0 := by omega
  have HMM := Lib.hid (show xs.length ≤ 9223372036854775807 by omega)
  obtain ⟨i, hi1, hi⟩ : ∃ i : Nat, at_ % (xs.length : Int) = i ∧ i < xs.length := by
    have h1 := Int.emod_nonneg at_ hn0
    have h2 := Int.emod_lt_of_pos at_ (show (0 : Int) < xs.length by omega)
    exact ⟨(at_ % (xs.length : Int)).toNat, by omega, by omega⟩
  obtain ⟨k, hk1, hk⟩ : ∃ k : Nat, to_ % (xs.length : Int) = k ∧ k < xs.length := by
    have h1 := Int.emod_nonneg to_ hn0
    have h2 := Int.emod_lt_of_pos to_ (show (0 : Int) < xs.length by omega)
    exact ⟨(to_ % (xs.length : Int)).toNat, by omega, by omega⟩
  have hi2 : at_.tmod xs.length = i := by rw [Int.tmod_eq_emod_of_nonneg t1]; exact hi1
  have hk2 : to_.tmod xs.length = k := by rw [Int.tmod_eq_emod_of_nonneg o1]; exact hk1
  obtain ⟨b1, b2⟩ := swap_tot xs i k hi hk
  have hwf := swap_wf xs i k xs[i] xs[k] HX.out (HX.out _ (List.getElem_mem hi)) (HX.out _ (List.getElem_mem hk))
  obtain ⟨V, hV⟩ : ∃ V, totV xs = V := ⟨_, rfl⟩
  obtain ⟨E, hE⟩ : ∃ E, errA (totOk xs) = E := ⟨_, rfl⟩
  rw [hV] at b2
  have HV := Lib.hid hV; have HE := Lib.hid hE; have B2 := Lib.hid b2
  have B1 := Lib.hid (show errA (totOk (swapL xs i k xs[i] xs[k])) = E by rw [b1]; exact hE)
  have HWF := Lib.hid hwf
  have HI := Lib.hid (show xs[i]? = some xs[i] from List.getElem?_eq_getElem hi)
  have HK := Lib.hid (show xs[k]? = some xs[k] from List.getElem?_eq_getElem hk)
  clear hV hE b1 b2 hwf
  generalize xs[i] = x at *
  generalize xs[k] = y at *
  have hin : (i : Int) < xs.length := by omega
  have hkn : (k : Int) < xs.length := by omega
  obtain ⟨i0, hi0, hz0, hz1, hz2⟩ := info_parts info_i64
  go_enter Try.func10, Try.ntmps10
  go_wp2_with (first
    | (at_builtin
       refine wpList_append_any _ rfl (.tmp 24) (.tmp 25) 27 rfl w.heap.size 2 i0 (.int .i64 0) 1 8 Try.underlying27 hi0 hz0 hz1 hz2 rfl (by omega) (.slice (some ⟨w.heap.size, 0, none⟩) 0 0) 0 [] (by rfl) (own_empty (by rfl) (Nat.le_refl _)) _ A xs.length c (xs.map (Value.int .i64)) (by rfl) (HR.out.al _) (one_ints xs) (by simp only [maxLen]; omega) (by omega) (by simp) ?_
       intro v1 w1 hown hg1 hat1
       simp only [Nat.zero_add, List.nil_append] at hown
       replace HB : Hid (Below w.heap.size w w1) := Lib.hid ((below_alloc_ (Below.refl _ _) _).grown hg1 (by simp) (by simp [Value.ownBlock]))
       obtain ⟨g, cp, rfl, hgb⟩ := own_some hown h0
       have HO := Lib.hid hown
       have HR2 := Lib.hid (HR.out.kp (S := fun _ => False) (.of_below HB.out) (fun _ _ h => h))
       clear hown hg1 hat1))
  go_quiet (fail)
  rename Nat => nq
  obtain ⟨w2, hw2⟩ : ∃ w2, w1.drewN nq = w2 := ⟨_, rfl⟩
  rw [hw2]
  have HO2 : Hid (w2.ownsRow w.heap.size 2 1 (.slice (some ⟨g, 0, none⟩) xs.length cp) xs.length (xs.map (Value.int .i64))) := by rw [← hw2]; exact HO
  have HR3 : Hid (Reads w2 w2.heap.size 1 A xs.length (xs.map (Value.int .i64))) := by rw [← hw2]; exact HR2
  have HB2 : Hid (Below w.heap.size w w2) := by rw [← hw2]; exact Lib.hid (Keeps.below ((Keeps.of_below HB.out).drewN _))
  clear hw2 HO HR2 HB
  have hci : w2.cell? ⟨g, i, none⟩ = some (.int .i64 x) := by rw [HO2.out.cellAt i (by omega), List.getElem?_map, HI.out]; rfl
  have hck : w2.cell? ⟨g, k, none⟩ = some (.int .i64 y) := by rw [HO2.out.cellAt k (by omega), List.getElem?_map, HK.out]; rfl
  have hf := HO2.out.frozenAt i
  have hf2 := HO2.out.frozenAt k
  have hglt : g < w2.heap.size := (HO2.out.lt g rfl).2
  have HS1 := Lib.hid (HO2.out.stored i (.int .i64 y)).1
  have hck2 : (w2.setCell ⟨g, i, none⟩ (.int .i64 y)).cell? ⟨g, k, none⟩ = some (.int .i64 y) := by
    rw [HS1.out.cellAt k (by omega)]
    by_cases hik : i = k
    · subst hik; rw [List.getElem?_set_self (by simpa using hi)]
    · rw [List.getElem?_set_ne hik, List.getElem?_map, HK.out]; rfl
  have hf3 := HS1.out.frozenAt k
  have HS2 := Lib.hid (HS1.out.stored k (.int .i64 x)).1
  have HBS : Hid (Below w.heap.size w ((w2.setCell ⟨g, i, none⟩ (.int .i64 y)).setCell ⟨g, k, none⟩ (.int .i64 x))) := Lib.hid ((HB2.out.setCell hgb _).setCell hgb _)
  have HR4 := Lib.hid (HR.out.kp (S := fun _ => False) (.of_below HBS.out) (fun _ _ h => h))
  obtain ⟨A', c', e', hli⟩ := own_li (l := swapL xs i k x y) (n := xs.length) (by unfold swapL; rw [List.map_set, List.map_set]; exact HS2.out) (by simp [swapL])
  have hsl : (swapL xs i k x y).length = xs.length := by simp [swapL]
  injection e' with e1 e2 e3
  subst e1 e3
  have HRS := Lib.hid hli.rd
  have HSL := Lib.hid hsl
  clear hli e2 hsl
  have HTM : Hid (∀ w', w' = (w2.setCell ⟨g, i, none⟩ (.int .i64 y)).setCell ⟨g, k, none⟩ (.int .i64 x) → Calls Try.prog 18 #[.slice (some ⟨g, 0, none⟩) xs.length cp] w' fun e w'' => e = .returned (.tuple #[.int .i64 V, .int .i64 E]) ∧ w' = w'') := Lib.hid (by
    rintro w' rfl
    have := total_any _ (some ⟨g, 0, none⟩) cp (swapL xs i k x y) HRS.out (by rw [HSL.out]; exact HMM.out) HWF.out
    rw [HSL.out, B1.out, B2.out] at this
    exact this)
  clear HRS HSL
  go_wp2_with (first
    | (go_at_call 15; refine (awake04_any _).mono ?_; rintro e w5 ⟨rfl, hb⟩; have HB3 : Hid (Below w.heap.size w w5) := Lib.hid (below_then HBS.out hb); clear hb)
    | (go_at_call 18; (have := HC0; clear this); refine (HTM.out _ rfl).mono ?_; rintro e w5 ⟨rfl, rfl⟩)
    | (go_at_call 18; refine (total_any _ A c xs HR4.out HMM.out HX.out).mono ?_; rintro e w5 ⟨rfl, rfl⟩; rw [HV.out, HE.out]; have HC0 := trivial))
  go_ret
  exact ⟨rfl, HB3.out⟩
end Go.Proofs.Ytefcofkodhichaa
