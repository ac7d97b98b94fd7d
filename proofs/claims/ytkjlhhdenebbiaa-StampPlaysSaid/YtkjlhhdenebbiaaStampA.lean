/- Contracts of the stamp package's functions. -/
import Derived.Test.YtkjlhhdenebbiaaRows
import Derived.Test.YtkjlhhdenebbiaaWords
import Derived.WalkKit
import Derived.WalkLawsBesides
import Derived.Lib.Hide
import Derived.Outline
import Derived.WalkSpells
set_option linter.unusedSimpArgs false
set_option linter.unusedVariables false
namespace Go.Proofs.Ytkjlhhdenebbiaa
open Go.RowKit

def tops (a : Int) (xs : List Int) : Int := xs.foldl max a
theorem tops_take (a : Int) (xs : List Int) (k : Nat) (h : k < xs.length) : tops a (xs.take (k + 1)) = max (tops a (xs.take k)) xs[k] := by
  unfold tops
  rw [List.take_succ_eq_append_getElem h, List.foldl_append]; rfl

set_option maxHeartbeats 400000 in
theorem raise_any (t : Nat) (top n : Int) (w : World) (ht : Blk w t 2 #[.int .i64 top]) :
    Calls Try.prog 18 #[.int .i64 n, .pointer (some ⟨t, 0, none⟩)] w fun e w' =>
      e = .returned (.tuple #[]) ∧ Blk w' t 2 #[.int .i64 (max top n)] ∧ Keeps (· = t) w w' := by
  have hc := ht.cell 0
  have hz := ht.frozen 0
  simp at hc
  have hs := ht.set_ 0 (.int .i64 top)
  have hs2 := ht.set_ 0 (.int .i64 n)
  simp only [List.setIfInBounds_toArray, List.set_cons_zero] at hs hs2
  have HT := Lib.hid ht; clear ht
  have HS := Lib.hid hs; clear hs
  have HS2 := Lib.hid hs2; clear hs2
  go_enter Try.func18, Try.ntmps18
  go_wp2
  · have h : top < n := by assumption
    go_end0
    rw [show max top n = n from by omega]
    exact ⟨rfl, HS2.out, Keeps.set_ (S := (· = t)) (Keeps.refl _ _) (.inl rfl) _⟩
  · have h : n ≤ top := by assumption
    go_end0
    rw [show max top n = top from by omega]
    exact ⟨rfl, HS.out, Keeps.set_ (S := (· = t)) (Keeps.refl _ _) (.inl rfl) _⟩

def nxE (t : Int) : Int := if 1125899906842624 ≤ t then 101 else 0
def nxT (t : Int) : Int := if 1125899906842624 ≤ t then 0 else t + 1
def nxL (l t : Int) : Int := if 1125899906842624 ≤ t then l else t + 1

set_option maxHeartbeats 1000000 in
theorem next_ok (g : Nat) (last lo hi : Int) (A : Option Addr) (xs : List Int) (c : Nat) (w : World) (h0 : 0 ≤ lo) (h1 : lo ≤ hi) (h2 : hi ≤ 1125899906842624)
    (hs : Blk w g 46 #[.int .i64 last]) (ha : Reads w w.heap.size 1 A xs.length (xs.map (Value.int .i64))) (hn : xs.length ≤ 140737488351232) (T : Int) (hT : tops (max last hi) xs = T) (hT0 : 0 ≤ T) :
    Calls Try.prog 9 #[.pointer (some ⟨g, 0, none⟩), .agg #[.int .i64 lo, .int .i64 hi], .slice A xs.length c] w fun e w' =>
      e = .returned (.tuple #[.int .i64 (nxT T), .int .i64 (nxE T)]) ∧ Blk w' g 46 #[.int .i64 (nxL last T)] ∧ Keeps (· = g) w w' := by
  have hg := hs.lt
  have hc := hs.cell 0
  have hz := hs.frozen 0
  simp at hc
  have HS := Lib.hid hs; clear hs
  have HT0 := Lib.hid hT; clear hT
  have HA := Lib.hid ha; clear ha
  go_enter Try.func9, Try.ntmps9
  go_wp2_with (first | (go_at_call 17; go_in) | (go_at_call 22; go_in) | (go_at_call 18; go_must (refine (raise_any (w.heap.size + 1 + 1) last hi _ (Blk.new' (by simp))).mono ?_); rintro e w1 ⟨rfl, hb1, hk1⟩; have HB1 := Lib.hid hb1; have HK1 := Lib.hid ((((Keeps.refl (fun _ => False) w).alloc _).alloc _).alloc _ |>.base hk1 (fun i h1 h2 => by omega)); clear hb1 hk1))
  go_loopw [26] (fun i wr => ∃ k : Nat, k ≤ xs.length ∧ i = .int .i64 k ∧ Blk wr (w.heap.size + 1 + 1) 2 #[.int .i64 (tops (max last hi) (xs.take k))] ∧ Keeps (fun _ => False) w wr) (fun i _ => xs.length - (intOf i).toNat)
  case atStart => exact ⟨0, Nat.zero_le _, rfl, by simpa [tops] using HB1.out, HK1.out⟩
  case round =>
    obtain ⟨k, hk, rfl, hb, hkp⟩ := hrel
    have HB := Lib.hid hb; clear hb
    have HKP := Lib.hid hkp; clear hkp
    by_cases hlt : k < xs.length
    · obtain ⟨ad, u, rfl, hadb, hx, hcell⟩ := (HA.out.keeps HKP.out (Nat.le_refl _) (fun _ _ h => h)).at_ hlt
      obtain rfl : Value.int .i64 xs[k] = u := by simpa [hlt] using hx
      clear hx
      go_wp2_with (go_at_call 18; go_must (refine (raise_any (w.heap.size + 1 + 1) (tops (max last hi) (xs.take k)) xs[k] _ HB.out).mono ?_); rintro e w2 ⟨rfl, hb2, hk2⟩; have HB2 := Lib.hid hb2; have HK2 := Lib.hid (HKP.out.base hk2 (fun i h1 h2 => by omega)); clear hb2 hk2)
      go_roundw
      case rel => exact ⟨k + 1, by omega, by go_num, by rw [tops_take _ _ _ hlt]; exact HB2.out, HK2.out⟩
      case measure => simp [intOf]; omega
    · obtain rfl : k = xs.length := by omega
      have HT := Lib.hid (show Blk wr (w.heap.size + 1 + 1) 2 #[.int .i64 T] by have := HB.out; rwa [List.take_length, HT0.out] at this)
      have hct := HT.out.cell 0
      simp at hct
      have HSr := Lib.hid (HS.out.keeps HKP.out id)
      have hcr := HSr.out.cell 0
      simp at hcr
      have hzr := HSr.out.frozen 0
      by_cases hT : 1125899906842624 ≤ T
      · go_wp2
        go_ret2
        simp only [nxT, nxE, nxL, if_pos hT]
        exact ⟨rfl, HSr.out, HKP.out.mono (fun _ _ h => h.elim)⟩
      · have HN := Lib.hid (HSr.out.set_ 0 (.int .i64 (T + 1)))
        go_wp2
        go_ret2
        simp only [nxT, nxE, nxL, if_neg (show ¬ 1125899906842624 ≤ T by omega)]
        exact ⟨rfl, by simpa using HN.out, Keeps.set_ (S := (· = g)) (HKP.out.mono (fun _ _ h => h.elim)) (.inl rfl) _⟩

/-- the same, with its answers named -/
theorem next_is (g : Nat) (last lo hi : Int) (A : Option Addr) (xs : List Int) (c : Nat) (w : World) (h0 : 0 ≤ lo) (h1 : lo ≤ hi) (h2 : hi ≤ 1125899906842624)
    (hs : Blk w g 46 #[.int .i64 last]) (ha : Reads w w.heap.size 1 A xs.length (xs.map (Value.int .i64))) (hn : xs.length ≤ 140737488351232) (T : Int) (hT : tops (max last hi) xs = T) (hT0 : 0 ≤ T)
    (r e l : Int) (hr : nxT T = r) (he : nxE T = e) (hl : nxL last T = l) :
    Calls Try.prog 9 #[.pointer (some ⟨g, 0, none⟩), .agg #[.int .i64 lo, .int .i64 hi], .slice A xs.length c] w fun e' w' =>
      e' = .returned (.tuple #[.int .i64 r, .int .i64 e]) ∧ Blk w' g 46 #[.int .i64 l] ∧ Keeps (· = g) w w' := by
  subst hr he hl
  exact next_ok g last lo hi A xs c w h0 h1 h2 hs ha hn T hT hT0

set_option maxHeartbeats 400000 in
/-- no span: refused, and nothing is changed -/
theorem next_bad (g : Nat) (lo hi : Int) (A : Option Addr) (n c : Nat) (w : World) (h : ¬ (0 ≤ lo ∧ lo ≤ hi ∧ hi ≤ 1125899906842624)) :
    Calls Try.prog 9 #[.pointer (some ⟨g, 0, none⟩), .agg #[.int .i64 lo, .int .i64 hi], .slice A n c] w fun e w' =>
      e = .returned (.tuple #[.int .i64 0, .int .i64 100]) ∧ Below w.heap.size w w' := by
  go_enter Try.func9, Try.ntmps9
  go_wp2_with (first | (go_at_call 17; go_in) | (go_at_call 22; go_in) | (go_at_call 18; exfalso; omega))
  all_goals go_ret2
  all_goals exact ⟨rfl, by repeat (first | exact Below.refl _ _ | refine below_alloc_ ?_ _ | refine Below.drew ?_)⟩

theorem new_any (w : World) : Calls Try.prog 7 #[] w fun e w' => e = .returned (.pointer (some ⟨w.heap.size, 0, none⟩)) ∧ w.alloc (.cells #[.int .i64 0] 46) = w' := by
  go_enter Try.func7, Try.ntmps7
  go_wp2
  go_ret
  exact ⟨rfl, rfl⟩

theorem last_any (g : Nat) (last : Int) (w : World) (hs : Blk w g 46 #[.int .i64 last]) :
    Calls Try.prog 13 #[.pointer (some ⟨g, 0, none⟩)] w fun e w' => e = .returned (.int .i64 last) ∧ w = w' := by
  have hc := hs.cell 0
  simp at hc
  go_enter Try.func13, Try.ntmps13
  go_wp2
  go_ret
  exact ⟨rfl, rfl⟩

theorem keep_ok (g : Nat) (last t : Int) (w : World) (hs : Blk w g 46 #[.int .i64 last]) (h1 : 1 ≤ t) (h2 : t ≤ 1125899906842624) (l : Int) (hl : max last t = l) :
    Calls Try.prog 12 #[.pointer (some ⟨g, 0, none⟩), .int .i64 t] w fun e w' => e = .returned (.int .i64 0) ∧ Blk w' g 46 #[.int .i64 l] ∧ Keeps (· = g) w w' := by
  subst hl
  have hc := hs.cell 0
  have hz := hs.frozen 0
  simp at hc
  have hs1 := hs.set_ 0 (.int .i64 last)
  have hs2 := hs.set_ 0 (.int .i64 t)
  simp only [List.setIfInBounds_toArray, List.set_cons_zero] at hs1 hs2
  have HS := Lib.hid hs1; have HS2 := Lib.hid hs2; clear hs hs1 hs2
  go_enter Try.func12, Try.ntmps12
  go_wp2
  · have h : last < t := by assumption
    go_ret
    rw [show max last t = t from by omega]
    exact ⟨rfl, HS2.out, Keeps.set_ (S := (· = g)) (Keeps.refl _ _) (.inl rfl) _⟩
  · have h : t ≤ last := by assumption
    go_ret
    rw [show max last t = last from by omega]
    exact ⟨rfl, HS.out, Keeps.set_ (S := (· = g)) (Keeps.refl _ _) (.inl rfl) _⟩

theorem keep_bad (g : Nat) (t : Int) (w : World) (h : t < 1 ∨ 1125899906842624 < t) :
    Calls Try.prog 12 #[.pointer (some ⟨g, 0, none⟩), .int .i64 t] w fun e w' => e = .returned (.int .i64 100) ∧ w = w' := by
  rcases h with h | h
  all_goals
   have hb : (decide (1 ≤ t) && decide (t ≤ 1125899906842624)) = false := by simp; omega
   try have hb2 : decide (t ≤ 1125899906842624) = false := by simp; omega
   try have hb3 : decide (1 ≤ t) = false := by simp; omega
   clear hb
   go_enter Try.func12, Try.ntmps12
   go_wp2
   go_ret
   exact ⟨rfl, rfl⟩

theorem tops_ge (a : Int) (xs : List Int) : a ≤ tops a xs := by
  unfold tops
  induction xs generalizing a with
  | nil => simp
  | cons x xs ih => simp only [List.foldl_cons]; exact Int.le_trans (by omega) (ih (max a x))
theorem tops_mem (a : Int) (xs : List Int) : ∀ x ∈ xs, x ≤ tops a xs := by
  unfold tops
  induction xs generalizing a with
  | nil => simp
  | cons y xs ih =>
    intro x hx
    simp only [List.foldl_cons]
    rcases List.mem_cons.1 hx with rfl | h
    · exact Int.le_trans (by omega) (tops_ge (max a x) xs)
    · exact ih (max a y) x h
theorem tops_is (a : Int) (xs : List Int) : tops a xs = a ∨ ∃ i, ∃ h : i < xs.length, xs[i] = tops a xs := by
  unfold tops
  induction xs generalizing a with
  | nil => simp
  | cons y xs ih =>
    simp only [List.foldl_cons]
    rcases ih (max a y) with h | ⟨i, hi, h⟩
    · rcases (show max a y = a ∨ max a y = y by omega) with e | e
      · left; rw [h, e]
      · right; exact ⟨0, by simp, by rw [h, e]; rfl⟩
    · right; exact ⟨i + 1, by simpa using hi, by simpa using h⟩
/-- what a source answers, and what it has behind it -/
def NextIs (last lo hi : Int) (xs : List Int) (n er l : Int) : Prop :=
  (¬ (0 ≤ lo ∧ lo ≤ hi ∧ hi ≤ 1125899906842624) ∧ n = 0 ∧ er = 100 ∧ last = l) ∨
  ((0 ≤ lo ∧ lo ≤ hi ∧ hi ≤ 1125899906842624) ∧ 1125899906842624 ≤ tops (max last hi) xs ∧ n = 0 ∧ er = 101 ∧ last = l) ∨
  ((0 ≤ lo ∧ lo ≤ hi ∧ hi ≤ 1125899906842624) ∧ tops (max last hi) xs < 1125899906842624 ∧ n = tops (max last hi) xs + 1 ∧ er = 0 ∧ l = tops (max last hi) xs + 1)
theorem next_cases (last lo hi : Int) (xs : List Int) : ∃ n er l, NextIs last lo hi xs n er l := by
  by_cases h : 0 ≤ lo ∧ lo ≤ hi ∧ hi ≤ 1125899906842624
  · by_cases h2 : 1125899906842624 ≤ tops (max last hi) xs
    · exact ⟨_, _, _, .inr (.inl ⟨h, h2, rfl, rfl, rfl⟩)⟩
    · exact ⟨_, _, _, .inr (.inr ⟨h, by omega, rfl, rfl, rfl⟩)⟩
  · exact ⟨_, _, _, .inl ⟨h, rfl, rfl, rfl⟩⟩
theorem next_any {last n er l : Int} (g : Nat) (lo hi : Int) (A : Option Addr) (xs : List Int) (c : Nat) (w : World)
    (hs : Blk w g 46 #[.int .i64 last]) (ha : Reads w w.heap.size 1 A xs.length (xs.map (Value.int .i64))) (hn : xs.length ≤ 140737488351232) (h : NextIs last lo hi xs n er l) :
    Calls Try.prog 9 #[.pointer (some ⟨g, 0, none⟩), .agg #[.int .i64 lo, .int .i64 hi], .slice A xs.length c] w fun e' w' =>
      e' = .returned (.tuple #[.int .i64 n, .int .i64 er]) ∧ Blk w' g 46 #[.int .i64 l] ∧ Keeps (· = g) w w' := by
  rcases h with ⟨h, rfl, rfl, rfl⟩ | ⟨⟨h0, h1, h2⟩, ht, rfl, rfl, rfl⟩ | ⟨⟨h0, h1, h2⟩, ht, rfl, rfl, rfl⟩
  · refine (next_bad g lo hi A xs.length c w h).mono ?_
    rintro e w' ⟨rfl, hb⟩
    exact ⟨rfl, hs.below hb hs.lt, .of_below hb⟩
  · exact next_is g _ lo hi A xs c w h0 h1 h2 hs ha hn _ rfl (by omega) 0 101 _ (by simp [nxT, ht]) (by simp [nxE, ht]) (by simp [nxL, ht])
  · exact next_is g _ lo hi A xs c w h0 h1 h2 hs ha hn _ rfl (Int.le_trans (by omega) (tops_ge (max last hi) xs)) _ 0 _ (by rw [nxT, if_neg (by omega)]) (by rw [nxE, if_neg (by omega)]) (by rw [nxL, if_neg (by omega)])

theorem next_any_n {last n er l : Int} {m : Nat} {xs : List Int} (g : Nat) (lo hi : Int) (A : Option Addr) (c : Nat) (w : World) (hm : xs.length = m)
    (hs : Blk w g 46 #[.int .i64 last]) (ha : Reads w w.heap.size 1 A m (xs.map (Value.int .i64))) (hn : m ≤ 140737488351232) (h : NextIs last lo hi xs n er l) :
    Calls Try.prog 9 #[.pointer (some ⟨g, 0, none⟩), .agg #[.int .i64 lo, .int .i64 hi], .slice A m c] w fun e' w' =>
      e' = .returned (.tuple #[.int .i64 n, .int .i64 er]) ∧ Blk w' g 46 #[.int .i64 l] ∧ Keeps (· = g) w w' := by
  subst hm
  exact next_any g lo hi A xs c w hs ha hn h
def KeepIs (last t kr l : Int) : Prop := (1 ≤ t ∧ t ≤ 1125899906842624 ∧ kr = 0 ∧ max last t = l) ∨ ((t < 1 ∨ 1125899906842624 < t) ∧ kr = 100 ∧ last = l)
theorem keep_any {last kr l : Int} (g : Nat) (t : Int) (w : World) (hs : Blk w g 46 #[.int .i64 last]) (h : KeepIs last t kr l) :
    Calls Try.prog 12 #[.pointer (some ⟨g, 0, none⟩), .int .i64 t] w fun e w' => e = .returned (.int .i64 kr) ∧ Blk w' g 46 #[.int .i64 l] ∧ Keeps (· = g) w w' := by
  rcases h with ⟨h1, h2, rfl, h3⟩ | ⟨h1, rfl, rfl⟩
  · exact keep_ok g last t w hs h1 h2 l h3
  · refine (keep_bad g t w h1).mono ?_
    rintro e w' ⟨rfl, rfl⟩
    exact ⟨rfl, hs, Keeps.refl _ _⟩
end Go.Proofs.Ytkjlhhdenebbiaa
