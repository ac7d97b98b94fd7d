/- Contracts of stamps, as far as leases reach them. -/
import Derived.Test.YtajojpfenlafbaaRows
import Derived.Test.YtajojpfenlafbaaWords
import Derived.Test.YtajojpfenlafbaaWordB
import Derived.WalkKit
import Derived.WalkLawsBesides
import Derived.Lib.Hide
import Derived.Outline
import Derived.WalkSpells
import Derived.LoopTactic
import Derived.IntWalk
import Derived.Deep.RegionLaw
import Derived.Deep.RegionHeld3
import Derived.Deep.DeepFit
import Derived.Deep.DrawnRows
import Derived.Deep.DeepCutAuto
set_option linter.unusedSimpArgs false
set_option linter.unusedVariables false
namespace Go.Proofs.Ytajojpfenlafbaa
open Go.RowKit
attribute [local go_sem ↓] Go.wp_at_zero Go.wp_at_succ
theorem reads_nil (w : World) (B : Nat) : Reads w B 1 none 0 [] := ⟨by simp, fun h => absurd h (by omega)⟩
def tops (a : Int) (xs : List Int) : Int := xs.foldl max a
theorem tops_take (a : Int) (xs : List Int) (k : Nat) (h : k < xs.length) : tops a (xs.take (k + 1)) = max (tops a (xs.take k)) xs[k] := by
  unfold tops
  rw [List.take_succ_eq_append_getElem h, List.foldl_append]; rfl

set_option maxHeartbeats 400000 in
theorem raise_any (t : Nat) (top n : Int) (w : World) (ht : Blk w t 2 #[.int .i64 top]) :
    Calls Try.prog 37 #[.int .i64 n, .pointer (some ⟨t, 0, none⟩)] w fun e w' =>
      e = .returned (.tuple #[]) ∧ Blk w' t 2 #[.int .i64 (max top n)] ∧ Keeps (· = t) w w' := by
  have hc := ht.cell 0
  have hz := ht.frozen 0
  simp at hc
  have hs := ht.set_ 0 (.int .i64 top)
  have hs2 := ht.set_ 0 (.int .i64 n)
  simp only [List.setIfInBounds_toArray, List.set_cons_zero] at hs hs2
  have HT := Lib.hid ht; clear ht
  have HS := Lib.hid hs; clear hs
  have HS2 := Lib.hid hs2; clear hs2
  go_enter Try.func37, Try.ntmps37
  go_wp2
  · have h : top < n := by assumption
    go_end0
    rw [show max top n = n from by omega]
    exact ⟨rfl, HS2.out, Keeps.set_ (S := (· = t)) (Keeps.refl _ _) (.inl rfl) _⟩
  · have h : n ≤ top := by assumption
    go_end0
    rw [show max top n = top from by omega]
    exact ⟨rfl, HS.out, Keeps.set_ (S := (· = t)) (Keeps.refl _ _) (.inl rfl) _⟩

def nxE (t : Int) : Int := if 1125899906842624 ≤ t then 101 else 0
def nxT (t : Int) : Int := if 1125899906842624 ≤ t then 0 else t + 1
def nxL (l t : Int) : Int := if 1125899906842624 ≤ t then l else t + 1

set_option maxHeartbeats 1000000 in
theorem next_ok (g : Nat) (last lo hi : Int) (A : Option Addr) (xs : List Int) (c : Nat) (w : World) (h0 : 0 ≤ lo) (h1 : lo ≤ hi) (h2 : hi ≤ 1125899906842624)
    (hs : Blk w g 74 #[.int .i64 last]) (ha : Reads w w.heap.size 1 A xs.length (xs.map (Value.int .i64))) (hn : xs.length ≤ 140737488351232) (T : Int) (hT : tops (max last hi) xs = T) (hT0 : 0 ≤ T) :
    Calls Try.prog 29 #[.pointer (some ⟨g, 0, none⟩), .agg #[.int .i64 lo, .int .i64 hi], .slice A xs.length c] w fun e w' =>
      e = .returned (.tuple #[.int .i64 (nxT T), .int .i64 (nxE T)]) ∧ Blk w' g 74 #[.int .i64 (nxL last T)] ∧ Keeps (· = g) w w' := by
  have hg := hs.lt
  have hc := hs.cell 0
  have hz := hs.frozen 0
  simp at hc
  have HS := Lib.hid hs; clear hs
  have HT0 := Lib.hid hT; clear hT
  have HA := Lib.hid ha; clear ha
  go_enter Try.func29, Try.ntmps29
  go_wp2_with (first | (go_at_call 28; go_in) | (go_at_call 36; go_in) | (go_at_call 37; go_must (refine (raise_any (w.heap.size + 1 + 1) last hi _ (Blk.new' (by simp))).mono ?_); rintro e w1 ⟨rfl, hb1, hk1⟩; have HB1 := Lib.hid hb1; have HK1 := Lib.hid ((((Keeps.refl (fun _ => False) w).alloc _).alloc _).alloc _ |>.base hk1 (fun i h1 h2 => by omega)); clear hb1 hk1))
  go_loopw [26] (fun i wr => ∃ k : Nat, k ≤ xs.length ∧ i = .int .i64 k ∧ Blk wr (w.heap.size + 1 + 1) 2 #[.int .i64 (tops (max last hi) (xs.take k))] ∧ Keeps (fun _ => False) w wr) (fun i _ => xs.length - (intOf i).toNat)
  case atStart => exact ⟨0, Nat.zero_le _, rfl, by simpa [tops] using HB1.out, HK1.out⟩
  case round =>
    obtain ⟨k, hk, rfl, hb, hkp⟩ := hrel
    have HB := Lib.hid hb; clear hb
    have HKP := Lib.hid hkp; clear hkp
    by_cases hlt : k < xs.length
    · obtain ⟨ad, u, rfl, hadb, hx, hcell⟩ := (HA.out.keeps HKP.out (Nat.le_refl _) (fun _ _ h => h)).at_ hlt
      obtain rfl : Value.int .i64 xs[k] = u := by simpa [hlt] using hx
      clear hx
      go_wp2_with (go_at_call 37; go_must (refine (raise_any (w.heap.size + 1 + 1) (tops (max last hi) (xs.take k)) xs[k] _ HB.out).mono ?_); rintro e w2 ⟨rfl, hb2, hk2⟩; have HB2 := Lib.hid hb2; have HK2 := Lib.hid (HKP.out.base hk2 (fun i h1 h2 => by omega)); clear hb2 hk2)
      go_roundw
      case rel => exact ⟨k + 1, by omega, by go_num, by rw [tops_take _ _ _ hlt]; exact HB2.out, HK2.out⟩
      case measure => simp [intOf]; omega
    · obtain rfl : k = xs.length := by omega
      have HT := Lib.hid (show Blk wr (w.heap.size + 1 + 1) 2 #[.int .i64 T] by have := HB.out; rwa [List.take_length, HT0.out] at this)
      have hct := HT.out.cell 0
      simp at hct
      have HSr := Lib.hid (HS.out.keeps HKP.out id)
      have hcr := HSr.out.cell 0
      simp at hcr
      have hzr := HSr.out.frozen 0
      by_cases hT : 1125899906842624 ≤ T
      · go_wp2
        go_ret2
        simp only [nxT, nxE, nxL, if_pos hT]
        exact ⟨rfl, HSr.out, HKP.out.mono (fun _ _ h => h.elim)⟩
      · have HN := Lib.hid (HSr.out.set_ 0 (.int .i64 (T + 1)))
        go_wp2
        go_ret2
        simp only [nxT, nxE, nxL, if_neg (show ¬ 1125899906842624 ≤ T by omega)]
        exact ⟨rfl, by simpa using HN.out, Keeps.set_ (S := (· = g)) (HKP.out.mono (fun _ _ h => h.elim)) (.inl rfl) _⟩

/-- the same, with its answers named -/
theorem next_is (g : Nat) (last lo hi : Int) (A : Option Addr) (xs : List Int) (c : Nat) (w : World) (h0 : 0 ≤ lo) (h1 : lo ≤ hi) (h2 : hi ≤ 1125899906842624)
    (hs : Blk w g 74 #[.int .i64 last]) (ha : Reads w w.heap.size 1 A xs.length (xs.map (Value.int .i64))) (hn : xs.length ≤ 140737488351232) (T : Int) (hT : tops (max last hi) xs = T) (hT0 : 0 ≤ T)
    (r e l : Int) (hr : nxT T = r) (he : nxE T = e) (hl : nxL last T = l) :
    Calls Try.prog 29 #[.pointer (some ⟨g, 0, none⟩), .agg #[.int .i64 lo, .int .i64 hi], .slice A xs.length c] w fun e' w' =>
      e' = .returned (.tuple #[.int .i64 r, .int .i64 e]) ∧ Blk w' g 74 #[.int .i64 l] ∧ Keeps (· = g) w w' := by
  subst hr he hl
  exact next_ok g last lo hi A xs c w h0 h1 h2 hs ha hn T hT hT0

set_option maxHeartbeats 400000 in
/-- no span: refused, and nothing is changed -/
theorem next_bad (g : Nat) (lo hi : Int) (A : Option Addr) (n c : Nat) (w : World) (h : ¬ (0 ≤ lo ∧ lo ≤ hi ∧ hi ≤ 1125899906842624)) :
    Calls Try.prog 29 #[.pointer (some ⟨g, 0, none⟩), .agg #[.int .i64 lo, .int .i64 hi], .slice A n c] w fun e w' =>
      e = .returned (.tuple #[.int .i64 0, .int .i64 100]) ∧ Below w.heap.size w w' := by
  go_enter Try.func29, Try.ntmps29
  go_wp2_with (first | (go_at_call 28; go_in) | (go_at_call 36; go_in) | (go_at_call 37; exfalso; omega))
  all_goals go_ret2
  all_goals exact ⟨rfl, by repeat (first | exact Below.refl _ _ | refine below_alloc_ ?_ _ | refine Below.drew ?_)⟩

theorem new_any (w : World) : Calls Try.prog 9 #[] w fun e w' => e = .returned (.pointer (some ⟨w.heap.size, 0, none⟩)) ∧ w.alloc (.cells #[.int .i64 0] 74) = w' := by
  go_enter Try.func9, Try.ntmps9
  go_wp2
  go_ret
  exact ⟨rfl, rfl⟩

theorem last_any (g : Nat) (last : Int) (w : World) (hs : Blk w g 74 #[.int .i64 last]) :
    Calls Try.prog 18 #[.pointer (some ⟨g, 0, none⟩)] w fun e w' => e = .returned (.int .i64 last) ∧ w = w' := by
  have hc := hs.cell 0
  simp at hc
  go_enter Try.func18, Try.ntmps18
  go_wp2
  go_ret
  exact ⟨rfl, rfl⟩

theorem tops_ge (a : Int) (xs : List Int) : a ≤ tops a xs := by
  unfold tops
  induction xs generalizing a with
  | nil => simp
  | cons x xs ih => simp only [List.foldl_cons]; exact Int.le_trans (by omega) (ih (max a x))
theorem tops_mem (a : Int) (xs : List Int) : ∀ x ∈ xs, x ≤ tops a xs := by
  unfold tops
  induction xs generalizing a with
  | nil => simp
  | cons y xs ih =>
    intro x hx
    simp only [List.foldl_cons]
    rcases List.mem_cons.1 hx with rfl | h
    · exact Int.le_trans (by omega) (tops_ge (max a x) xs)
    · exact ih (max a y) x h
theorem tops_is (a : Int) (xs : List Int) : tops a xs = a ∨ ∃ i, ∃ h : i < xs.length, xs[i] = tops a xs := by
  unfold tops
  induction xs generalizing a with
  | nil => simp
  | cons y xs ih =>
    simp only [List.foldl_cons]
    rcases ih (max a y) with h | ⟨i, hi, h⟩
    · rcases (show max a y = a ∨ max a y = y by omega) with e | e
      · left; rw [h, e]
      · right; exact ⟨0, by simp, by rw [h, e]; rfl⟩
    · right; exact ⟨i + 1, by simpa using hi, by simpa using h⟩
/-- what a source answers, and what it has behind it -/
def NextIs (last lo hi : Int) (xs : List Int) (n er l : Int) : Prop :=
  (¬ (0 ≤ lo ∧ lo ≤ hi ∧ hi ≤ 1125899906842624) ∧ n = 0 ∧ er = 100 ∧ last = l) ∨
  ((0 ≤ lo ∧ lo ≤ hi ∧ hi ≤ 1125899906842624) ∧ 1125899906842624 ≤ tops (max last hi) xs ∧ n = 0 ∧ er = 101 ∧ last = l) ∨
  ((0 ≤ lo ∧ lo ≤ hi ∧ hi ≤ 1125899906842624) ∧ tops (max last hi) xs < 1125899906842624 ∧ n = tops (max last hi) xs + 1 ∧ er = 0 ∧ l = tops (max last hi) xs + 1)
theorem next_cases (last lo hi : Int) (xs : List Int) : ∃ n er l, NextIs last lo hi xs n er l := by
  by_cases h : 0 ≤ lo ∧ lo ≤ hi ∧ hi ≤ 1125899906842624
  · by_cases h2 : 1125899906842624 ≤ tops (max last hi) xs
    · exact ⟨_, _, _, .inr (.inl ⟨h, h2, rfl, rfl, rfl⟩)⟩
    · exact ⟨_, _, _, .inr (.inr ⟨h, by omega, rfl, rfl, rfl⟩)⟩
  · exact ⟨_, _, _, .inl ⟨h, rfl, rfl, rfl⟩⟩
theorem next_any {last n er l : Int} (g : Nat) (lo hi : Int) (A : Option Addr) (xs : List Int) (c : Nat) (w : World)
    (hs : Blk w g 74 #[.int .i64 last]) (ha : Reads w w.heap.size 1 A xs.length (xs.map (Value.int .i64))) (hn : xs.length ≤ 140737488351232) (h : NextIs last lo hi xs n er l) :
    Calls Try.prog 29 #[.pointer (some ⟨g, 0, none⟩), .agg #[.int .i64 lo, .int .i64 hi], .slice A xs.length c] w fun e' w' =>
      e' = .returned (.tuple #[.int .i64 n, .int .i64 er]) ∧ Blk w' g 74 #[.int .i64 l] ∧ Keeps (· = g) w w' := by
  rcases h with ⟨h, rfl, rfl, rfl⟩ | ⟨⟨h0, h1, h2⟩, ht, rfl, rfl, rfl⟩ | ⟨⟨h0, h1, h2⟩, ht, rfl, rfl, rfl⟩
  · refine (next_bad g lo hi A xs.length c w h).mono ?_
    rintro e w' ⟨rfl, hb⟩
    exact ⟨rfl, hs.below hb hs.lt, .of_below hb⟩
  · exact next_is g _ lo hi A xs c w h0 h1 h2 hs ha hn _ rfl (by omega) 0 101 _ (by simp [nxT, ht]) (by simp [nxE, ht]) (by simp [nxL, ht])
  · exact next_is g _ lo hi A xs c w h0 h1 h2 hs ha hn _ rfl (Int.le_trans (by omega) (tops_ge (max last hi) xs)) _ 0 _ (by rw [nxT, if_neg (by omega)]) (by rw [nxE, if_neg (by omega)]) (by rw [nxL, if_neg (by omega)])

theorem next_any_n {last n er l : Int} {m : Nat} {xs : List Int} (g : Nat) (lo hi : Int) (A : Option Addr) (c : Nat) (w : World) (hm : xs.length = m)
    (hs : Blk w g 74 #[.int .i64 last]) (ha : Reads w w.heap.size 1 A m (xs.map (Value.int .i64))) (hn : m ≤ 140737488351232) (h : NextIs last lo hi xs n er l) :
    Calls Try.prog 29 #[.pointer (some ⟨g, 0, none⟩), .agg #[.int .i64 lo, .int .i64 hi], .slice A m c] w fun e' w' =>
      e' = .returned (.tuple #[.int .i64 n, .int .i64 er]) ∧ Blk w' g 74 #[.int .i64 l] ∧ Keeps (· = g) w w' := by
  subst hm
  exact next_any g lo hi A xs c w hs ha hn h
theorem info_i64 : (Try.prog.info? 2).map (fun i => (i.zero, i.size, i.bytes)) = some (some (.int .i64 0), 1, 8) := by kernel_rfl
theorem one_ints (xs : List Int) : ∀ u ∈ xs.map (Value.int .i64), u.oneCell' = true := by
  intro u hu
  obtain ⟨x, _, rfl⟩ := List.mem_map.1 hu
  rfl
theorem reads_blk1 {w : World} {g : Nat} {T : TypeId} {v : Value} (h : Blk w g T #[v]) : Reads w w.heap.size 1 (some ⟨g, 0, none⟩) 1 [v] := by
  refine ⟨rfl, fun _ => ⟨_, rfl, h.lt, fun j u hu => ?_⟩⟩
  rw [Addr.add_lit, h.cell (0 + j)]
  simpa using hu
/-- a list that the reference gave, with two numbers -/
def RNx (w : World) (A : Option Addr) (L : List Int) (n er : Int) (e' : Ending) (w' : World) : Prop := ∃ A' c', e' = .returned (.tuple #[.slice A' L.length c', .int .i64 n, .int .i64 er]) ∧ Reads w' w'.heap.size 1 A' L.length (L.map (Value.int .i64)) ∧ Below w.heap.size w w' ∧ ∀ a, A' = some a → A = some a ∨ w.heap.size ≤ a.block
set_option maxRecDepth 100000 in
set_option maxHeartbeats 4000000 in
theorem rnext_ok {m n : Nat} {mm ys : List Int} (A : Option Addr) (c : Nat) (lo hi : Int) (B : Option Addr) (d : Nat) (w : World) (hm : mm.length = m) (hr : Reads w w.heap.size 1 A m (mm.map (Value.int .i64))) (hmb : m ≤ 1000)
    (hn : ys.length = n) (hr2 : Reads w w.heap.size 1 B n (ys.map (Value.int .i64))) (hnb : n ≤ 1000) (h1 : 0 ≤ lo) (h2 : lo ≤ hi) (h3 : hi ≤ 1125899906842624) (T : Int) (hT : tops 0 (mm ++ [hi] ++ ys) = T) (ml : List Int) (hml : (if 1125899906842624 ≤ T then mm else mm ++ [T + 1]) = ml) :
    Calls Try.prog 27 #[.slice A m c, .agg #[.int .i64 lo, .int .i64 hi], .slice B n d] w (RNx w A ml (nxT T) (nxE T)) := by
  obtain ⟨i0, hi0, hz0, hz1, hz2⟩ := info_parts info_i64
  have HM := Lib.hid hm; have HR := Lib.hid hr; have HN := Lib.hid hn; have HR2 := Lib.hid hr2; have HT := Lib.hid hT; have HML := Lib.hid hml
  have PB : Hid (Blk (w.alloc (.cells #[.int .i64 lo, .int .i64 hi] 33)) w.heap.size 33 #[.int .i64 lo, .int .i64 hi]) := Lib.hid (Blk.new w _ _)
  have HB : Hid (Below w.heap.size w w) := Lib.hid (Below.refl _ _)
  clear hm hr hn hr2 hT hml
  go_enter Try.func27, Try.ntmps27
  go_wp2_with (first | (go_at_call 26; go_in) | (go_at_call 35; go_in) | (at_builtin; fail))
  go_upto_region 3 with fail
  go_cut [9] (fun s wx => ∃ A' c', s = .slice A' (m + 1 + n) c' ∧ Reads wx wx.heap.size 1 A' (m + 1 + n) ((mm ++ [hi] ++ ys).map (Value.int .i64)) ∧ Below w.heap.size w wx)
  case first =>
    go_wp2_with fail
    go_region_law (first
      | ((refine step_append_any (((((w.alloc (.cells #[.int .i64 lo, .int .i64 hi] 33)).alloc (.cells #[.int .i64 lo, .int .i64 hi] 33)).alloc (.cells #[.int .i64 hi] 2)).alloc (.cells #[] 2)).drew) (by rfl) (.tmp 16) (.tmp 17) 30 (by rfl) (w.heap.size + 1) 2 i0 _ 1 8 Try.underlying30 hi0 hz0 hz1 hz2 rfl (by decide) (.slice (some ⟨w.heap.size + 1 + 1 + 1, 0, none⟩) 0 0) 0 [] (by rfl) (by repeat (first | with_reducible exact own_empty (by simp) (by simp) | with_reducible refine own_al ?_ _ | with_reducible refine own_dr ?_)) _ A m c (mm.map (Value.int .i64)) (by rfl) (by repeat (first | with_reducible exact HR.out | with_reducible refine Reads.al ?_ _ | with_reducible refine Reads.dr ?_)) (one_ints _) (by unfold maxLen; omega) (by omega) (by simp <;> omega) ?_);
               intro v1 w1 ho1 hg1 hat1;
               (simp only [Nat.zero_add, List.nil_append] at ho1);
               have O1 := Lib.hid ho1;
               have N1 : Hid (∀ k, v1.ownBlock = some k → w.heap.size + 1 ≤ k) := Lib.hid (fun k hk => (ho1.lt k hk).1);
               have P1 := Lib.hid (Blk.grown (g := w.heap.size) (t := 33) (cs := #[.int .i64 lo, .int .i64 hi]) (by repeat (first | with_reducible exact PB.out | with_reducible refine Blk.alloc ?_ _ | with_reducible refine Blk.drew ?_)) hg1 (by simp [Value.ownBlock] <;> omega));
               have L1 := Lib.hid hg1.size;
               have T1 := Lib.hid (Blk.grown (w := ((((w.alloc (.cells #[.int .i64 lo, .int .i64 hi] 33)).alloc (.cells #[.int .i64 lo, .int .i64 hi] 33)).alloc (.cells #[.int .i64 hi] 2)).alloc (.cells #[] 2)).drew) (g := w.heap.size + 1 + 1) (t := 2) (cs := #[.int .i64 hi]) (Blk.drew (Blk.alloc (Blk.new' (by simp)) _)) hg1 (by simp [Value.ownBlock] <;> omega));
               have W1 : Hid (Below w.heap.size w w1) := Lib.hid (Below.grown (by repeat (first | exact Hid.out (by assumption) | exact Below.refl _ _ | refine below_alloc_ ?_ _ | refine below_drewN_ ?_ _ | refine Below.drew ?_ | refine below_set_ ?_ (by first | exact Nat.le_refl _ | (simp; done) | (simp; omega)) _)) hg1 (by simp <;> omega) (fun k e => by simp [Value.ownBlock] at e; omega));
               clear ho1 hg1 hat1;
               obtain ⟨p0, p1⟩ := P1.out.c2;
               have pl := P1.out.lt)
      | ((refine step_append_any (((((w.alloc (.cells #[.int .i64 lo, .int .i64 hi] 33)).alloc (.cells #[.int .i64 lo, .int .i64 hi] 33)).alloc (.cells #[] 2)).alloc (.cells #[.int .i64 hi] 2)).drew) (by rfl) (.tmp 16) (.tmp 17) 30 (by rfl) (w.heap.size + 1) 2 i0 _ 1 8 Try.underlying30 hi0 hz0 hz1 hz2 rfl (by decide) (.slice (some ⟨w.heap.size + 1 + 1, 0, none⟩) 0 0) 0 [] (by rfl) (by repeat (first | with_reducible exact own_empty (by simp) (by simp) | with_reducible refine own_al ?_ _ | with_reducible refine own_dr ?_)) _ A m c (mm.map (Value.int .i64)) (by rfl) (by repeat (first | with_reducible exact HR.out | with_reducible refine Reads.al ?_ _ | with_reducible refine Reads.dr ?_)) (one_ints _) (by unfold maxLen; omega) (by omega) (by simp <;> omega) ?_);
               intro v1 w1 ho1 hg1 hat1;
               (simp only [Nat.zero_add, List.nil_append] at ho1);
               have O1 := Lib.hid ho1;
               have N1 : Hid (∀ k, v1.ownBlock = some k → w.heap.size + 1 ≤ k) := Lib.hid (fun k hk => (ho1.lt k hk).1);
               have P1 := Lib.hid (Blk.grown (g := w.heap.size) (t := 33) (cs := #[.int .i64 lo, .int .i64 hi]) (by repeat (first | with_reducible exact PB.out | with_reducible refine Blk.alloc ?_ _ | with_reducible refine Blk.drew ?_)) hg1 (by simp [Value.ownBlock] <;> omega));
               have L1 := Lib.hid hg1.size;
               have T1 := Lib.hid (Blk.grown (w := ((((w.alloc (.cells #[.int .i64 lo, .int .i64 hi] 33)).alloc (.cells #[.int .i64 lo, .int .i64 hi] 33)).alloc (.cells #[] 2)).alloc (.cells #[.int .i64 hi] 2)).drew) (g := w.heap.size + 1 + 1 + 1) (t := 2) (cs := #[.int .i64 hi]) (Blk.drew (Blk.new' (by simp))) hg1 (by simp [Value.ownBlock] <;> omega));
               have W1 : Hid (Below w.heap.size w w1) := Lib.hid (Below.grown (by repeat (first | exact Hid.out (by assumption) | exact Below.refl _ _ | refine below_alloc_ ?_ _ | refine below_drewN_ ?_ _ | refine Below.drew ?_ | refine below_set_ ?_ (by first | exact Nat.le_refl _ | (simp; done) | (simp; omega)) _)) hg1 (by simp <;> omega) (fun k e => by simp [Value.ownBlock] at e; omega));
               clear ho1 hg1 hat1;
               obtain ⟨p0, p1⟩ := P1.out.c2;
               have pl := P1.out.lt)
      | ((refine step_append_any ((((w.alloc (.cells #[.int .i64 lo, .int .i64 hi] 33)).alloc (.cells #[.int .i64 lo, .int .i64 hi] 33)).alloc (.cells #[] 2)).drew) (by rfl) (.tmp 16) (.tmp 17) 30 (by rfl) (w.heap.size + 1) 2 i0 _ 1 8 Try.underlying30 hi0 hz0 hz1 hz2 rfl (by decide) (.slice (some ⟨w.heap.size + 1 + 1, 0, none⟩) 0 0) 0 [] (by rfl) (by repeat (first | with_reducible exact own_empty (by simp) (by simp) | with_reducible refine own_al ?_ _ | with_reducible refine own_dr ?_)) _ A m c (mm.map (Value.int .i64)) (by rfl) (by repeat (first | with_reducible exact HR.out | with_reducible refine Reads.al ?_ _ | with_reducible refine Reads.dr ?_)) (one_ints _) (by unfold maxLen; omega) (by omega) (by simp <;> omega) ?_);
               intro v1 w1 ho1 hg1 hat1;
               (simp only [Nat.zero_add, List.nil_append] at ho1);
               have O1 := Lib.hid ho1;
               have N1 : Hid (∀ k, v1.ownBlock = some k → w.heap.size + 1 ≤ k) := Lib.hid (fun k hk => (ho1.lt k hk).1);
               have P1 := Lib.hid (Blk.grown (g := w.heap.size) (t := 33) (cs := #[.int .i64 lo, .int .i64 hi]) (by repeat (first | with_reducible exact PB.out | with_reducible refine Blk.alloc ?_ _ | with_reducible refine Blk.drew ?_)) hg1 (by simp [Value.ownBlock] <;> omega));
               have L1 := Lib.hid hg1.size;
               have W1 : Hid (Below w.heap.size w w1) := Lib.hid (Below.grown (by repeat (first | exact Hid.out (by assumption) | exact Below.refl _ _ | refine below_alloc_ ?_ _ | refine below_drewN_ ?_ _ | refine Below.drew ?_ | refine below_set_ ?_ (by first | exact Nat.le_refl _ | (simp; done) | (simp; omega)) _)) hg1 (by simp <;> omega) (fun k e => by simp [Value.ownBlock] at e; omega));
               clear ho1 hg1 hat1;
               obtain ⟨p0, p1⟩ := P1.out.c2;
               have pl := P1.out.lt)
      | ((refine step_append_any w1 (by rfl) (.tmp 18) (.tmp 21) 30 (by rfl) (w.heap.size + 1) 2 i0 _ 1 8 Try.underlying30 hi0 hz0 hz1 hz2 rfl (by decide) v1 m (mm.map (Value.int .i64)) (by rfl) (by repeat (first | with_reducible exact O1.out | with_reducible refine own_al ?_ _ | with_reducible refine own_dr ?_)) _ (some ⟨_, 0, none⟩) 1 1 [.int .i64 hi] (by rfl) (reads_blk1 T1.out) (one_ints [hi]) (by unfold maxLen; omega) (by omega) (by have := L1.out; simp at this ⊢; omega) ?_);
               intro v2 w2 ho2 hg2 hat2;
               have O2 := Lib.hid ho2;
               have N2 : Hid (∀ k, v2.ownBlock = some k → w.heap.size + 1 ≤ k) := Lib.hid (fun k hk => (ho2.lt k hk).1);
               have P2 := Lib.hid (Blk.grown (g := w.heap.size) (t := 33) (cs := #[.int .i64 lo, .int .i64 hi]) (P1.out) hg2 (fun h => by have := N1.out _ h.symm; omega));
               have W2 : Hid (Below w.heap.size w w2) := Lib.hid (Below.grown (W1.out) hg2 (W1.out.size) (fun k e => by have := N1.out k e; omega));
               have L2 := Lib.hid hg2.size;
               clear ho2 hg2 hat2;
               obtain ⟨p0, p1⟩ := P2.out.c2;
               have pl := P2.out.lt)
      | ((refine step_append_any (w1.alloc (.cells #[.int .i64 hi] 2)) (by rfl) (.tmp 18) (.tmp 21) 30 (by rfl) (w.heap.size + 1) 2 i0 _ 1 8 Try.underlying30 hi0 hz0 hz1 hz2 rfl (by decide) v1 m (mm.map (Value.int .i64)) (by rfl) (by repeat (first | with_reducible exact O1.out | with_reducible refine own_al ?_ _ | with_reducible refine own_dr ?_)) _ (some ⟨_, 0, none⟩) 1 1 [.int .i64 hi] (by rfl) (reads_one rfl) (one_ints [hi]) (by unfold maxLen; omega) (by omega) (by have := L1.out; simp at this ⊢; omega) ?_);
               intro v2 w2 ho2 hg2 hat2;
               have O2 := Lib.hid ho2;
               have N2 : Hid (∀ k, v2.ownBlock = some k → w.heap.size + 1 ≤ k) := Lib.hid (fun k hk => (ho2.lt k hk).1);
               have P2 := Lib.hid (Blk.grown (g := w.heap.size) (t := 33) (cs := #[.int .i64 lo, .int .i64 hi]) (P1.out.alloc _) hg2 (fun h => by have := N1.out _ h.symm; omega));
               have W2 : Hid (Below w.heap.size w w2) := Lib.hid (Below.grown (below_alloc_ W1.out _) hg2 (Nat.le_trans W1.out.size (by simp)) (fun k e => by have := N1.out k e; omega));
               have L2 := Lib.hid hg2.size;
               clear ho2 hg2 hat2;
               obtain ⟨p0, p1⟩ := P2.out.c2;
               have pl := P2.out.lt)
      | ((refine step_append_any w2 (by rfl) (.tmp 22) (.tmp 23) 30 (by rfl) (w.heap.size + 1) 2 i0 _ 1 8 Try.underlying30 hi0 hz0 hz1 hz2 rfl (by decide) v2 (m + 1) (mm.map (Value.int .i64) ++ [.int .i64 hi]) (by rfl) O2.out _ B n d (ys.map (Value.int .i64)) (by rfl) (Reads.kp (S := fun _ => False) HR2.out (.of_below W2.out) (fun _ _ h => h)) (one_ints ys) (by unfold maxLen; omega) (by omega) (by have := L2.out; have := L1.out; simp at this ⊢; omega) ?_);
               intro v3 w3 ho3 hg3 hat3;
               obtain ⟨A', c', rfl, hrd, hblk⟩ := own_shape ho3;
               have RD := Lib.hid hrd; have BK := Lib.hid hblk;
               have P3 := Lib.hid (Blk.grown (g := w.heap.size) (t := 33) (cs := #[.int .i64 lo, .int .i64 hi]) P2.out hg3 (fun h => by have := N2.out _ h.symm; omega));
               have W3 : Hid (Below w.heap.size w w3) := Lib.hid (Below.grown W2.out hg3 W2.out.size (fun k e => by have := N2.out k e; omega));
               clear ho3 hg3 hat3 hrd hblk)
      | fail)
    all_goals
      go_wp2_with fail
      go_meet
      exact ⟨A', c', rfl, by simpa using RD.out, W3.out⟩
  case rest =>
    obtain ⟨A', c', rfl, hR, hB⟩ := hcut
    obtain ⟨LA, hLA⟩ : ∃ LA, mm ++ [hi] ++ ys = LA := ⟨_, rfl⟩
    have hlen : LA.length = m + 1 + n := by rw [← hLA, List.length_append, List.length_append, HM.out, HN.out]; rfl
    rw [hLA] at hR
    have HT2 := Lib.hid (show tops 0 LA = T by rw [← hLA]; exact HT.out)
    have HL := Lib.hid hlen; have HRR := Lib.hid hR; have HBB := Lib.hid hB
    clear hLA hlen hR hB PB HB
    go_wp2_with fail
    go_loop [10, 11] (fun st si => ∃ k : Nat, k ≤ m + 1 + n ∧ si = .int .i64 k ∧ st = .int .i64 (tops 0 (LA.take k))) (fun _ si => (m + 1 + n) - (intOf si).toNat)
    case atStart => exact ⟨0, Nat.zero_le _, rfl, by simp [tops]⟩
    case round =>
      obtain ⟨k, hk, rfl, rfl⟩ := hrel
      by_cases hlt : k < m + 1 + n
      · have hkl : k < LA.length := by rw [HL.out]; exact hlt
        obtain ⟨ad, u, rfl, hadb, hx, hcell⟩ := HRR.out.at_ (k := k) hlt
        obtain rfl : Value.int .i64 LA[k] = u := by simpa [hkl] using hx
        clear hx
        have E1 := Lib.hid (tops_take 0 LA k hkl)
        generalize LA[k] = z at *
        obtain ⟨F, hF⟩ : ∃ F, tops 0 (LA.take k) = F := ⟨_, rfl⟩
        rw [hF] at E1 ⊢
        clear hF
        rcases (show F < z ∨ z ≤ F by omega) with hf | hf
        all_goals
          go_wp2_with fail
          go_round
          case rel => exact ⟨k + 1, by omega, by go_num, by rw [E1.out]; first | rw [Int.max_eq_right (Int.le_of_lt hf)] | rw [Int.max_eq_left hf]⟩
          case measure => simp [intOf]; omega
      · obtain rfl : k = m + 1 + n := by omega
        rw [← HL.out, List.take_length, HT2.out]
        have HML2 := HML.out
        have hT0 : 0 ≤ T := by rw [← HT2.out]; exact tops_ge 0 LA
        have hd0 : decide (LA.length < m + 1 + n) = false := by rw [HL.out]; simp
        have hl2 := HL.out
        by_cases hT : 1125899906842624 ≤ T
        · rw [if_pos hT] at HML2
          have EM := Lib.hid HML2
          clear HML2 hl2
          go_wp2_with fail
          go_ret3
          refine ⟨A, c, ?_, ?_, HBB.out, fun a h => .inl h⟩
          · rw [← EM.out, HM.out]; unfold nxT nxE; rw [if_pos hT, if_pos hT]; rfl
          · rw [← EM.out, HM.out]; exact Reads.kp (S := fun _ => False) HR.out (.of_below HBB.out) (fun _ _ h => h)
        · rw [if_neg hT] at HML2
          have EM := Lib.hid HML2
          clear HML2 hl2
          have HRc := Lib.hid (show Reads wc wc.heap.size 1 A m (mm.map (Value.int .i64)) from Reads.kp (S := fun _ => False) HR.out (.of_below HBB.out) (fun _ _ h => h))
          have hT9 : T ≤ 1125899906842623 := by omega
          go_wp2_with (first | (at_builtin; refine wpList_append_any _ rfl (.tmp 44) (.tmp 45) 30 rfl wc.heap.size 2 i0 (.int .i64 0) 1 8 Try.underlying30 hi0 hz0 hz1 hz2 rfl (by decide) (.slice (some ⟨wc.heap.size, 0, none⟩) 0 0) 0 [] rfl (own_new #[] 0 rfl (by simp [maxLen]) rfl) wc.heap.size A m c (mm.map (Value.int .i64)) rfl (HRc.out.alloc (Nat.le_refl _) _) (one_ints _) (by unfold maxLen; omega) (by omega) (by simp) ?_; intro v1 w1 ho1 hg1 _; have HO := Lib.hid ho1; have HG := Lib.hid hg1; clear ho1 hg1) | (at_builtin; refine wpList_append_any _ rfl (.tmp 46) (.tmp 49) 30 rfl wc.heap.size 2 i0 (.int .i64 0) 1 8 Try.underlying30 hi0 hz0 hz1 hz2 rfl (by decide) v1 (0 + m) _ rfl (HO.out.alloc _) (w1.heap.size + 1) (some ⟨w1.heap.size, 0, none⟩) 1 1 [.int .i64 (T + 1)] rfl (reads_one rfl) (by simp [Value.oneCell']) (by unfold maxLen; omega) (by omega) (by have := HG.out.size; simp at this ⊢; omega) ?_; intro v2 w2 ho2 hg2 _; have HO2 := Lib.hid ho2; have HG2 := Lib.hid hg2; clear ho2 hg2))
          go_ret3
          obtain ⟨A2, c2, rfl, hR2, hA2⟩ := own_shape HO2.out
          refine ⟨A2, c2, ?_, ?_, ?_, fun a h => .inr (Nat.le_trans HBB.out.size (hA2 a h))⟩
          · rw [← EM.out, List.length_append, HM.out]; unfold nxT nxE; rw [if_neg (show ¬ 1125899906842624 ≤ T by omega), if_neg (show ¬ 1125899906842624 ≤ T by omega), Nat.zero_add]; rfl
          · have := hR2
            rw [Nat.zero_add] at this
            rw [← EM.out, List.length_append, HM.out]
            simpa using this
          · have k1 := Below.grown ((Below.refl wc.heap.size wc).alloc (Nat.le_refl _) _) HG.out (by simp) (fun k e => by simp [Value.ownBlock] at e; omega)
            exact below_then HBB.out (Below.grown (k1.alloc k1.size _) HG2.out (by have := k1.size; simp; omega) (fun k e => (HO.out.lt k e).1))
set_option maxHeartbeats 1000000 in
theorem rnext_bad (A : Option Addr) (m c : Nat) (L : List Int) (lo hi : Int) (B : Option Addr) (n d : Nat) (w : World) (hm : L.length = m) (hr : Reads w w.heap.size 1 A m (L.map (Value.int .i64))) (h : ¬ (0 ≤ lo ∧ lo ≤ hi ∧ hi ≤ 1125899906842624)) :
    Calls Try.prog 27 #[.slice A m c, .agg #[.int .i64 lo, .int .i64 hi], .slice B n d] w (RNx w A L 0 100) := by
  have HM := Lib.hid hm; have HR := Lib.hid hr
  clear hm hr
  go_enter Try.func27, Try.ntmps27
  rcases (show lo < 0 ∨ (0 ≤ lo ∧ 1125899906842624 < lo) ∨ (0 ≤ lo ∧ lo ≤ 1125899906842624 ∧ hi < 0) ∨ (0 ≤ lo ∧ lo ≤ 1125899906842624 ∧ 0 ≤ hi ∧ 1125899906842624 < hi) ∨ (0 ≤ lo ∧ lo ≤ 1125899906842624 ∧ 0 ≤ hi ∧ hi ≤ 1125899906842624 ∧ hi < lo) by omega) with h | ⟨h, h'⟩ | ⟨h, h', h''⟩ | ⟨h, h', h'', h3⟩ | ⟨h, h', h'', h3, h4⟩
  all_goals
    first | (have b0 : decide (0 ≤ lo) = false := by simp; omega) | (have b0 : decide (lo ≤ 1125899906842624) = false := by simp; omega) | (have b0 : decide (0 ≤ hi) = false := by simp; omega) | (have b0 : decide (hi ≤ 1125899906842624) = false := by simp; omega) | (have b0 : decide (lo ≤ hi) = false := by simp; omega)
    go_wp2_with (first | (go_at_call 26; go_in) | (go_at_call 35; go_in) | (at_builtin; fail))
    all_goals
      go_ret3
      refine ⟨A, c, by rw [HM.out]; rfl, ?_, by repeat (first | exact Below.refl _ _ | refine below_alloc_ ?_ _ | refine Below.drew ?_), fun a h => .inl h⟩
      rw [HM.out]
      exact Reads.kp (S := fun _ => False) HR.out (.of_below (by repeat (first | exact Below.refl _ _ | refine below_alloc_ ?_ _ | refine Below.drew ?_))) (fun _ _ h => h)
theorem tops_cat (mm ys : List Int) (hi : Int) : tops 0 (mm ++ [hi] ++ ys) = tops (max (tops 0 mm) hi) ys := by unfold tops; rw [List.foldl_append, List.foldl_append]; rfl
def mlOf (L : List Int) (n er : Int) : List Int := if er = 0 then L ++ [n] else L
theorem rnext_any {last n er l : Int} {m k : Nat} {mm ys : List Int} (A : Option Addr) (c : Nat) (lo hi : Int) (B : Option Addr) (d : Nat) (w : World) (hm : mm.length = m) (hr : Reads w w.heap.size 1 A m (mm.map (Value.int .i64))) (hmb : m ≤ 1000)
    (hn : ys.length = k) (hr2 : Reads w w.heap.size 1 B k (ys.map (Value.int .i64))) (hnb : k ≤ 1000) (hl : tops 0 mm = last) (h : NextIs last lo hi ys n er l) :
    Calls Try.prog 27 #[.slice A m c, .agg #[.int .i64 lo, .int .i64 hi], .slice B k d] w (RNx w A (mlOf mm n er) n er) ∧ tops 0 (mlOf mm n er) = l := by
  rcases h with ⟨h, rfl, rfl, rfl⟩ | ⟨⟨h0, h1, h2⟩, ht, rfl, rfl, rfl⟩ | ⟨⟨h0, h1, h2⟩, ht, rfl, rfl, rfl⟩
  · exact ⟨rnext_bad A m c mm lo hi B k d w hm hr h, hl⟩
  · have hT : tops 0 (mm ++ [hi] ++ ys) = tops (max last hi) ys := by rw [tops_cat, hl]
    have := rnext_ok A c lo hi B d w hm hr hmb hn hr2 hnb h0 h1 h2 _ hT mm (by rw [if_pos ht])
    unfold nxT nxE at this
    rw [if_pos ht, if_pos ht] at this
    exact ⟨this, hl⟩
  · have hT : tops 0 (mm ++ [hi] ++ ys) = tops (max last hi) ys := by rw [tops_cat, hl]
    have hnt : ¬ 1125899906842624 ≤ tops (max last hi) ys := by omega
    have := rnext_ok A c lo hi B d w hm hr hmb hn hr2 hnb h0 h1 h2 _ hT _ (by rw [if_neg hnt])
    unfold nxT nxE at this
    rw [if_neg hnt, if_neg hnt] at this
    refine ⟨this, ?_⟩
    have h3 := tops_ge (max last hi) ys
    unfold mlOf
    rw [if_pos rfl]
    unfold tops at hl ⊢
    rw [List.foldl_append, hl]
    show max last (tops (max last hi) ys + 1) = tops (max last hi) ys + 1
    omega
theorem rlast_any {m : Nat} {mm : List Int} (last : Int) (A : Option Addr) (c : Nat) (w : World) (hm : mm.length = m) (hmb : m ≤ 1000) (hr : Reads w w.heap.size 1 A m (mm.map (Value.int .i64))) (hl : tops 0 mm = last) :
    Calls Try.prog 19 #[.slice A m c] w fun e w' => e = .returned (.int .i64 last) ∧ w = w' := by
  have HM := Lib.hid hm; have HR := Lib.hid hr; have HL := Lib.hid hl
  clear hm hr hl
  go_enter Try.func19, Try.ntmps19
  go_wp2
  go_loop [3, 4] (fun st si => ∃ k : Nat, k ≤ m ∧ si = .int .i64 k ∧ st = .int .i64 (tops 0 (mm.take k))) (fun _ si => m - (intOf si).toNat)
  case atStart => exact ⟨0, Nat.zero_le _, rfl, by simp [tops]⟩
  case round =>
    obtain ⟨k, hk, rfl, rfl⟩ := hrel
    by_cases hlt : k < m
    · have hkl : k < mm.length := by rw [HM.out]; exact hlt
      obtain ⟨ad, u, rfl, hadb, hx, hcell⟩ := HR.out.at_ (k := k) hlt
      obtain rfl : Value.int .i64 mm[k] = u := by simpa [hkl] using hx
      clear hx
      have E1 := Lib.hid (tops_take 0 mm k hkl)
      generalize mm[k] = z at *
      obtain ⟨F, hF⟩ : ∃ F, tops 0 (mm.take k) = F := ⟨_, rfl⟩
      rw [hF] at E1 ⊢
      clear hF
      rcases (show F < z ∨ z ≤ F by omega) with hf | hf
      all_goals
        go_wp2_with fail
        go_round
        case rel => exact ⟨k + 1, by omega, by go_num, by rw [E1.out]; first | rw [Int.max_eq_right (Int.le_of_lt hf)] | rw [Int.max_eq_left hf]⟩
        case measure => simp [intOf]; omega
    · obtain rfl : k = m := by omega
      have e : mm.take k = mm := by rw [← HM.out, List.take_length]
      rw [e, HL.out]
      clear e
      go_wp2_with fail
      go_ret
      exact ⟨rfl, rfl⟩
theorem below_ks {w a b : World} (h : Below w.heap.size w a) (k : Keeps (· = w.heap.size) a b) : Below w.heap.size w b := below_kp h k (Nat.le_refl _)
theorem mlOf_len (L : List Int) (n er : Int) : (mlOf L n er).length ≤ L.length + 1 := by unfold mlOf; split <;> simp
theorem nextIs_ge {last lo hi n er l : Int} {xs : List Int} (h : NextIs last lo hi xs n er l) (h0 : 0 ≤ last) : 0 ≤ l := by
  have := tops_ge (max last hi) xs
  rcases h with ⟨_, _, _, h⟩ | ⟨_, _, _, _, h⟩ | ⟨_, _, _, _, h⟩ <;> omega
end Go.Proofs.Ytajojpfenlafbaa
