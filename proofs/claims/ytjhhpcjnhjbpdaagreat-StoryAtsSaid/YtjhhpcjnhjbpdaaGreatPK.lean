/- Joined: LgK, LgP, LgL, LgX, LgW, LgQ. -/
import Derived.Test.YtjhhpcjnhjbpdaaGreatPL
import Derived.Test.YtjhhpcjnhjbpdaaGreatIter
import Derived.CallsIn
import Derived.Test.YtjhhpcjnhjbpdaaGreatLgV6
import Derived.IntWalk
import Derived.LoopTactic
import Derived.Test.YtjhhpcjnhjbpdaaGreatOpenA
import Derived.Deep.QuietTactic
import Derived.BigQuiet
/- The accounts' numbers, rising: slices.Sorted(maps.Keys(b.m)). -/
set_option linter.unusedSimpArgs false
set_option linter.unusedVariables false
namespace Go.Proofs.YtjhhpcjnhjbpdaaGreat
open Go.RowKit Mo
open Go.Maps Go.Shelf
/-- the accounts' numbers, rising -/
def keysOf (f : Int → Option (Int × Int)) : List Int := ((List.range 4096).map (fun i : Nat => (i : Int))).filter (fun k => (f k).isSome)
def Sup (f : Int → Option (Int × Int)) : Prop := ∀ k, (f k).isSome = true → 0 ≤ k ∧ k < 4096
theorem range_int_sorted (n : Nat) : ((List.range n).map (fun i : Nat => (i : Int))).Pairwise (· < ·) := by
  rw [List.pairwise_map]
  exact List.pairwise_lt_range.imp (fun h => by omega)
theorem keysOf_sorted (f : Int → Option (Int × Int)) : (keysOf f).Pairwise (· < ·) := (range_int_sorted 4096).filter _
theorem keysOf_mem {f : Int → Option (Int × Int)} (hs : Sup f) (k : Int) : k ∈ keysOf f ↔ (f k).isSome = true := by
  unfold keysOf
  rw [List.mem_filter, List.mem_map]
  constructor
  · exact fun h => h.2
  · intro h
    obtain ⟨h0, h1⟩ := hs k h
    exact ⟨⟨k.toNat, by rw [List.mem_range]; omega, by omega⟩, h⟩
theorem keysOf_len (f : Int → Option (Int × Int)) : (keysOf f).length ≤ 4096 := by
  unfold keysOf
  exact Nat.le_trans (List.length_filter_le _ _) (by rw [List.length_map, List.length_range]; exact Nat.le_refl _)
theorem sorted_keys {w : World} {m n : Nat} {f : Int → Option (Int × Int)} {D : DataW Unit} (hown : w.ownsMap Tryz.prog 3 accR m n D) (hD : ∀ k, Maps.has D (.int .i64 k) = (f k).isSome) (hs : Sup f) {ss : List Int} (hp : ss.Perm (intKeys D)) :
    ss.mergeSort (fun x y => decide (x ≤ y)) = keysOf f := by
  obtain ⟨es, rfl, hpw, _⟩ := hown.entries int_law
  obtain ⟨es', hD', hko⟩ := hown.keysOf
  obtain rfl : es = es' := by simpa using hD'
  have h1 : (keysOf f).Perm (intKeys (.map es)) := perm_intKeys hpw (fun p hp => by obtain ⟨v, hv⟩ := hko p hp; obtain ⟨x, _, hx, _⟩ := Maps.keyOf_i64 Tryz.underlying3 hv; exact ⟨x, hx⟩) ((keysOf_sorted f).imp (fun h => by omega)) (fun x => by rw [keysOf_mem hs, hD])
  rw [show (fun x y : Int => decide (x ≤ y)) = leI from rfl, mergeSort_of_perm_i (hp.trans h1.symm)]
  exact List.mergeSort_of_pairwise ((keysOf_sorted f).imp (fun h => by simp only [leI, decide_eq_true_eq]; omega))
theorem mkeys_any (m : Nat) (W : World) : Calls Tryz.prog 48 #[.map (some m)] W fun e w' => e = .returned (.func (.func 60) #[] #[.pointer (some ⟨W.heap.size, 0, none⟩)]) ∧ w' = W.alloc (.cells #[.map (some m)] 76) :=
  (callsIn_wide (n := 5)).1 (AnyZI.keys_in Tryz.keysA Fence.wide 5 trivial rfl (some m) W)
theorem sortsA (m : Nat) : AnyZI.SortsIn Tryz.prog Tryz.sortedA_ren Fence.wide m :=
  ⟨fun blk off cap ss W hH hblk hsz => callsIn_wide.2 (AnyM.slices_Sort_int Tryz.sortA blk off cap ss W hH hblk hsz),
   fun p cap W => callsIn_wide.2 (AnyM.slices_Sort_int_none Tryz.sortA p cap W)⟩
set_option maxHeartbeats 1000000 in
theorem msorted_any (m n : Nat) (f : Int → Option (Int × Int)) (w : World) (h : MapF w m n f) (hn : n ≤ 1000000) (hs : Sup f) :
    Calls Tryz.prog 47 #[.func (.func 60) #[] #[.pointer (some ⟨w.heap.size, 0, none⟩)]] (w.alloc (.cells #[.map (some m)] 76)) fun e w' =>
      ∃ A c, e = .returned (.slice A (keysOf f).length c) ∧ Reads w' w'.heap.size 1 A (keysOf f).length ((keysOf f).map (Value.int .i64)) ∧ Below w.heap.size w w' := by
  have hlt := h.lt
  obtain ⟨D, hown, hD⟩ := h
  have hsz := hown.size_le
  have hseq : SeqGives Fence.wide 2 Tryz.prog 60 #[.pointer (some ⟨w.heap.size, 0, none⟩)] encZ (fun ss => ss.Perm (intKeys D)) (Maps.size D) (w.alloc (.cells #[.map (some m)] 76)) :=
    AnyZI.keys_gives (ρ := Tryz.keysA_ren) { Tryz.keysA with } Fence.wide _ trivial rfl (by omega) w.heap.size m n D _ (by simp) (by simp) (by
      obtain ⟨es, clock, hb, Ft, hs, hD⟩ := hown
      exact ⟨es, clock, (Below.heap_alloc _ _ m hlt).trans hb, Ft, hs, hD⟩)
  have cS := AnyZI.sorted_in Tryz.sortedA Fence.wide 5 trivial trivial trivial trivial rfl (by omega) (sortsA _) (enters_of Tryz.func59 (by kernel_rfl) rfl) 60 #[.pointer (some ⟨w.heap.size, 0, none⟩)] trivial (enters_of Tryz.func60 (by kernel_rfl) rfl) _ _ (by unfold maxLen; omega) (by omega) _ hseq
  refine ((callsIn_wide (n := 5)).1 cS).mono ?_
  rintro e w' ⟨v, ss, rfl, hS, hrow, -, hb⟩
  rw [sorted_keys hown (fun k => (hD k).1) hs hS] at hrow
  have hlen : ss.length = (keysOf f).length := by rw [← sorted_keys hown (fun k => (hD k).1) hs hS, List.length_mergeSort]
  rw [hlen] at hrow
  obtain ⟨A, c, rfl, hr, _⟩ := own_shape hrow
  exact ⟨A, c, rfl, hr, ((Below.refl _ w).alloc (Nat.le_refl _) _).trans (hb.mono (by simp))⟩
end Go.Proofs.YtjhhpcjnhjbpdaaGreat

/- Accounts in plain Lean: what they may be, what they come to, how they are listed. -/
set_option linter.unusedSimpArgs false
set_option linter.unusedVariables false
namespace Go.Proofs.YtjhhpcjnhjbpdaaGreat
open Go.RowKit Mo
def FOk (f : Int → Option (Int × Int)) (q : Int) : Prop := ∀ k p, f k = some p → isAc k = true ∧ isA p.1 = true ∧ 0 ≤ p.2 ∧ p.2 ≤ q * 1000000000000000
theorem FOk.nil (q : Int) : FOk (fun _ => none) q := fun _ _ h => by cases h
theorem FOk.mono {f : Int → Option (Int × Int)} {q q' : Int} (h : FOk f q) (hq : q ≤ q') : FOk f q' := fun k p hp => by
  obtain ⟨a, b, c, d⟩ := h k p hp
  exact ⟨a, b, c, by omega⟩
theorem FOk.put {f : Int → Option (Int × Int)} {q : Int} (h : FOk f q) {k : Int} {p : Int × Int} (hk : isAc k = true) (hp : isA p.1 = true) (h0 : 0 ≤ p.2) (h1 : p.2 ≤ q * 1000000000000000) : FOk (fput f k p) q := by
  intro i u hu
  unfold fput at hu
  split at hu
  · rename_i e
    subst e
    cases hu
    exact ⟨hk, hp, h0, h1⟩
  · exact h i u hu
theorem isAc_iff {k : Int} : isAc k = true ↔ 0 ≤ k ∧ k < 4096 := by unfold isAc; simp
theorem FOk.sup {f : Int → Option (Int × Int)} {q : Int} (h : FOk f q) : Sup f := by
  intro k hk
  obtain ⟨p, hp⟩ := Option.isSome_iff_exists.1 hk
  exact isAc_iff.1 (h k p hp).1
theorem FOk.opened {f f' : Int → Option (Int × Int)} {q a n E : Int} (h : FOk f q) (hq : 0 ≤ q) (hO : OpIs f a n E f') : FOk f' q := by
  rcases hO with ⟨_, _, rfl⟩ | ⟨_, _, _, rfl⟩ | ⟨_, _, _, _, rfl⟩ | ⟨h1, _, h3, _, rfl⟩
  · exact h
  · exact h
  · exact h
  · exact h.put h1 h3 (Int.le_refl _) (by omega)
theorem FOk.moved {f f' : Int → Option (Int × Int)} {q fee a c n V E : Int} (h : FOk f q) (hq : 0 ≤ q) (h0 : 0 ≤ fee) (h1 : fee ≤ 1000000000000000) (hO : MvIs f fee a c n V E f') : FOk f' (q + 1) := by
  have hm := h.mono (q' := q + 1) (by omega)
  rcases hO with ⟨_, _, _, rfl⟩ | ⟨_, _, _, _, _, rfl⟩ | ⟨_, _, _, _, _, _, _, rfl⟩ | ⟨_, _, _, _, rfl⟩ | ⟨_, _, _, _, _, _, rfl⟩ | ⟨_, _, _, _, _, _, _, rfl⟩ | ⟨_, _, _, _, _, _, _, _, _, rfl⟩ | ⟨x, y, ho, hx, hs, hy, hz, _, _, rfl⟩
  · exact hm
  · exact hm
  · exact hm
  · exact hm
  · exact hm
  · exact hm
  · exact hm
  · obtain ⟨g1, g2, g3, g4⟩ := h a x hx
    obtain ⟨k1, k2, k3, k4⟩ := h c y hy
    obtain ⟨o1, o2, o3, o4, o5⟩ := ho
    have hA := isA_iff.1 g2
    have hB := isA_iff.1 o4
    exact (hm.put g1 (isA_iff.2 (by dsimp only; omega)) (by dsimp only; omega) (by dsimp only; omega)).put k1 hz (by dsimp only; omega) (by dsimp only; omega)
/-- what an account has and has paid -/
def val : Option (Int × Int) → Int
  | none => 0
  | some p => p.1 + p.2
def totN (f : Int → Option (Int × Int)) : Nat → Int
  | 0 => 0
  | n + 1 => totN f n + val (f n)
def tot (f : Int → Option (Int × Int)) : Int := totN f 4096
theorem totN_put (f : Int → Option (Int × Int)) (k : Nat) (p : Int × Int) (n : Nat) : totN (fput f k p) n = totN f n + if k < n then p.1 + p.2 - val (f k) else 0 := by
  induction n with
  | zero => simp [totN]
  | succ n ih =>
    unfold totN
    rw [ih]
    rcases Nat.lt_trichotomy k n with h | h | h
    · rw [if_pos h, if_pos (by omega), show fput f k p n = f n from if_neg (by omega)]; omega
    · subst h
      rw [if_neg (by omega), if_pos (by omega), show fput f k p k = some p from if_pos rfl]; simp only [val]; omega
    · rw [if_neg (by omega), if_neg (by omega), show fput f k p n = f n from if_neg (by omega)]; omega
theorem tot_put (f : Int → Option (Int × Int)) {k : Int} (p : Int × Int) (hk : isAc k = true) : tot (fput f k p) = tot f + (p.1 + p.2 - val (f k)) := by
  obtain ⟨h0, h1⟩ := isAc_iff.1 hk
  obtain ⟨j, rfl⟩ : ∃ j : Nat, k = j := ⟨k.toNat, by omega⟩
  unfold tot
  rw [totN_put, if_pos (by omega)]
theorem tot_nil : tot (fun _ => none) = 0 := by
  have h : ∀ n, totN (fun _ => none) n = 0 := by
    intro n
    induction n with
    | zero => rfl
    | succ n ih => unfold totN; rw [ih]; rfl
  exact h 4096
theorem tot_opened {f f' : Int → Option (Int × Int)} {a n E : Int} (hO : OpIs f a n E f') : tot f' = tot f + if E = 0 then n else 0 := by
  rcases hO with ⟨_, rfl, rfl⟩ | ⟨_, _, rfl, rfl⟩ | ⟨_, _, _, rfl, rfl⟩ | ⟨h1, h2, h3, rfl, rfl⟩
  · simp
  · simp
  · simp
  · have e : f a = none := by simpa using h2
    rw [tot_put f _ h1, e]
    simp [val]
theorem tot_moved {f f' : Int → Option (Int × Int)} {fee a c n V E : Int} (hO : MvIs f fee a c n V E f') : tot f' = tot f := by
  rcases hO with ⟨_, _, _, rfl⟩ | ⟨_, _, _, _, _, rfl⟩ | ⟨_, _, _, _, _, _, _, rfl⟩ | ⟨_, _, _, _, rfl⟩ | ⟨_, _, _, _, _, _, rfl⟩ | ⟨_, _, _, _, _, _, _, rfl⟩ | ⟨_, _, _, _, _, _, _, _, _, rfl⟩ | ⟨x, y, ho, hx, hs, hy, hz, _, _, rfl⟩
  · rfl
  · rfl
  · rfl
  · rfl
  · rfl
  · rfl
  · rfl
  · obtain ⟨o1, o2, o3, o4, o5⟩ := ho
    rw [tot_put _ _ o2, tot_put _ _ o1, hx, show fput f a (x.1 - n - fee, x.2 + fee) c = f c from if_neg (fun h => o5 h.symm), hy]
    simp only [val]
    omega
theorem tot_nonneg {f : Int → Option (Int × Int)} {q : Int} (h : FOk f q) : 0 ≤ tot f := by
  have hn : ∀ n, 0 ≤ totN f n := by
    intro n
    induction n with
    | zero => exact Int.le_refl _
    | succ n ih =>
      unfold totN
      cases e : f n with
      | none => simpa [val] using ih
      | some p =>
        obtain ⟨_, h1, h2, _⟩ := h _ p e
        have := isA_iff.1 h1
        simp only [val]; omega
  exact hn 4096
/-- how accounts are listed -/
def hasAt (f : Int → Option (Int × Int)) (k : Int) : Int := ((f k).getD (0, 0)).1
def paidAt (f : Int → Option (Int × Int)) (k : Int) : Int := ((f k).getD (0, 0)).2
def entsH (f : Int → Option (Int × Int)) (l : List Int) : List (Int × Int) := l.map (fun k => (k, hasAt f k))
def entsP (f : Int → Option (Int × Int)) (l : List Int) : List (Int × Int) := (l.filter (fun k => paidAt f k != 0)).map (fun k => (4096 + k, paidAt f k))
def ents (f : Int → Option (Int × Int)) : List (Int × Int) := entsH f (keysOf f) ++ entsP f (keysOf f)
def eC (p : Int × Int) : List Value := [.int .i64 p.1, .int .i64 p.2]
theorem entsP_len (f : Int → Option (Int × Int)) (l : List Int) : (entsP f l).length ≤ l.length := by
  unfold entsP
  rw [List.length_map]
  exact List.length_filter_le _ _
theorem entsH_len (f : Int → Option (Int × Int)) (l : List Int) : (entsH f l).length = l.length := by unfold entsH; rw [List.length_map]
theorem ents_len (f : Int → Option (Int × Int)) : (ents f).length ≤ 8192 := by
  have := keysOf_len f
  have := entsP_len f (keysOf f)
  unfold ents
  rw [List.length_append, entsH_len]
  omega
theorem entsH_snoc (f : Int → Option (Int × Int)) (l : List Int) (k : Int) : entsH f (l ++ [k]) = entsH f l ++ [(k, hasAt f k)] := by unfold entsH; rw [List.map_append]; rfl
theorem entsP_snoc0 (f : Int → Option (Int × Int)) (l : List Int) (k : Int) (h : paidAt f k = 0) : entsP f (l ++ [k]) = entsP f l := by
  unfold entsP
  rw [List.filter_append]
  simp [h]
theorem entsP_snoc1 (f : Int → Option (Int × Int)) (l : List Int) (k : Int) (h : paidAt f k ≠ 0) : entsP f (l ++ [k]) = entsP f l ++ [(4096 + k, paidAt f k)] := by
  unfold entsP
  rw [List.filter_append]
  simp [h]
theorem ents_sorted {f : Int → Option (Int × Int)} (hs : Sup f) : (ents f).Pairwise (fun a b => a.1 < b.1) := by
  unfold ents
  refine List.pairwise_append.2 ⟨?_, ?_, ?_⟩
  · unfold entsH
    rw [List.pairwise_map]
    exact keysOf_sorted f
  · unfold entsP
    rw [List.pairwise_map]
    exact ((keysOf_sorted f).filter _).imp (fun h => by dsimp only; omega)
  · intro a ha b hb
    unfold entsH at ha
    unfold entsP at hb
    obtain ⟨k, hk, rfl⟩ := List.mem_map.1 ha
    obtain ⟨j, hj, rfl⟩ := List.mem_map.1 hb
    have h1 := hs k ((keysOf_mem hs k).1 hk)
    have h2 := hs j ((keysOf_mem hs j).1 ((List.mem_filter.1 hj).1))
    dsimp only
    omega
theorem ents_val {f : Int → Option (Int × Int)} {q : Int} (h : FOk f q) : ∀ p ∈ ents f, 0 ≤ p.1 ∧ p.1 < 8192 ∧ 0 ≤ p.2 ∧ (p.1 < 4096 → p.2 ≤ 1000000000000000) ∧ p.2 ≤ 1000000000000000 + q * 1000000000000000 := by
  intro p hp
  have hs := h.sup
  unfold ents at hp
  rcases List.mem_append.1 hp with hp | hp
  · obtain ⟨k, hk, rfl⟩ := List.mem_map.1 hp
    obtain ⟨u, hu⟩ := Option.isSome_iff_exists.1 ((keysOf_mem hs k).1 hk)
    obtain ⟨h1, h2, h3, h4⟩ := h k u hu
    have a1 := isAc_iff.1 h1; have a2 := isA_iff.1 h2
    simp only [hasAt, hu, Option.getD_some]
    omega
  · obtain ⟨k, hk, rfl⟩ := List.mem_map.1 hp
    obtain ⟨u, hu⟩ := Option.isSome_iff_exists.1 ((keysOf_mem hs k).1 ((List.mem_filter.1 hk).1))
    obtain ⟨h1, h2, h3, h4⟩ := h k u hu
    have a1 := isAc_iff.1 h1; have a2 := isA_iff.1 h2
    simp only [paidAt, hu, Option.getD_some]
    omega
theorem sumA_ents (f : Int → Option (Int × Int)) (l : List Int) : sumA ((entsH f l ++ entsP f l).map Prod.snd) = sumA (l.map (fun k => hasAt f k + paidAt f k)) := by
  rw [List.map_append, sumA_append]
  induction l with
  | nil => rfl
  | cons k l ih =>
    have e1 : sumA ((entsH f (k :: l)).map Prod.snd) = hasAt f k + sumA ((entsH f l).map Prod.snd) := rfl
    have e2 : sumA ((entsP f (k :: l)).map Prod.snd) = paidAt f k + sumA ((entsP f l).map Prod.snd) := by
      unfold entsP
      by_cases h : paidAt f k = 0
      · simp [h]
      · simp [h, sumA]
    have e3 : sumA ((k :: l).map (fun k => hasAt f k + paidAt f k)) = hasAt f k + paidAt f k + sumA (l.map (fun k => hasAt f k + paidAt f k)) := rfl
    rw [e1, e2, e3, ← ih]
    omega
theorem sumA_keys (f : Int → Option (Int × Int)) (n : Nat) : sumA ((((List.range n).map (fun i : Nat => (i : Int))).filter (fun k => (f k).isSome)).map (fun k => hasAt f k + paidAt f k)) = totN f n := by
  induction n with
  | zero => rfl
  | succ n ih =>
    rw [List.range_succ, List.map_append, List.filter_append, List.map_append, sumA_append, ih]
    show _ = totN f n + val (f n)
    cases e : f n with
    | none => simp [e, val, sumA]
    | some p => simp [e, val, sumA, hasAt, paidAt]
theorem ents_tot (f : Int → Option (Int × Int)) : sumA ((ents f).map Prod.snd) = tot f := by
  unfold ents
  rw [sumA_ents]
  exact sumA_keys f 4096
theorem sum_take_le (l : List Int) (h : ∀ x ∈ l, 0 ≤ x) (k : Nat) : 0 ≤ sumA (l.take k) ∧ sumA (l.take k) ≤ sumA l := by
  have nn : ∀ l : List Int, (∀ x ∈ l, 0 ≤ x) → 0 ≤ sumA l := by
    intro l
    induction l with
    | nil => intro _; exact Int.le_refl _
    | cons x l ih =>
      intro h
      have := h x (by simp)
      have := ih (fun y hy => h y (by simp [hy]))
      simp only [sumA]; omega
  have h1 := nn (l.take k) (fun x hx => h x (List.mem_of_mem_take hx))
  have h2 := nn (l.drop k) (fun x hx => h x (List.mem_of_mem_drop hx))
  have h3 := sumA_append (l.take k) (l.drop k)
  rw [List.take_append_drop] at h3
  omega
end Go.Proofs.YtjhhpcjnhjbpdaaGreat

/- The book: List. -/
set_option linter.unusedSimpArgs false
set_option linter.unusedVariables false
namespace Go.Proofs.YtjhhpcjnhjbpdaaGreat
open Go.RowKit Mo
theorem info_en : (Tryz.prog.info? 42).map (fun i => (i.zero, i.size, i.bytes)) = some (some (.agg #[.int .i64 0, .int .i64 0]), 2, 16) := by kernel_rfl
theorem one_en (p : Int × Int) : ∀ u ∈ eC p, u.oneCell' = true := by
  intro u hx
  unfold eC at hx
  simp at hx
  rcases hx with rfl | rfl <;> rfl
theorem one_ens (L : List (Int × Int)) : ∀ u ∈ L.flatMap eC, u.oneCell' = true := by
  intro u hu
  obtain ⟨x, _, hx⟩ := List.mem_flatMap.1 hu
  exact one_en x u hx
theorem reads_cells {w : World} {e : TypeId} {cs : Array Value} {b size : Nat} (hb : w.heap.size = b) (hs : cs.size = size) : Reads (w.alloc (.cells cs e)) (b + 1) size (some ⟨b, 0, none⟩) 1 cs.toList := by
  subst hb
  refine ⟨by simp [hs], fun _ => ⟨_, rfl, by simp, fun j u hu => ?_⟩⟩
  rw [Addr.add_lit, World.cell?_alloc_new]
  simpa using hu
/-- two rows that lie in no one block -/
def Apart (s t : Value) : Prop := ∀ g, s.ownBlock = some g → t.ownBlock = some g → False
theorem Apart.symm {s t : Value} (h : Apart s t) : Apart t s := fun g a b => h g b a
theorem Apart.ne {s t : Value} (h : Apart s t) : s.ownBlock = none ∨ s.ownBlock ≠ t.ownBlock := by
  cases e : s.ownBlock with
  | none => exact .inl rfl
  | some g => exact .inr (fun e' => h g e e'.symm)
/-- a row appended to, another one kept -/
theorem own_push {B : Nat} {w1 W w2 : World} {e : TypeId} {size n : Nat} {s3 s4 v1 : Value} {zs : List Value} (h4 : W.ownsRow B e size s4 n zs) (hl : ∀ g, s3.ownBlock = some g → B ≤ g) (ap : Apart s3 s4) (hb : Below B w1 W) (hB : B ≤ W.heap.size) (hg : W.grownBy w2 s3.ownBlock) (hat : v1.ownBlock = s3.ownBlock ∨ v1.ownBlock = some W.heap.size) :
    w2.ownsRow B e size s4 n zs ∧ Apart v1 s4 ∧ Below B w1 w2 := by
  refine ⟨h4.kept hg ap.symm.ne, ?_, hb.grown hg hB hl⟩
  intro g h1 h2
  rcases hat with h | h
  · exact ap g (h ▸ h1) h2
  · have := (h4.lt g h2).2
    rw [h] at h1
    cases h1
    omega
/-- where List's round stands -/
structure LsR (B : Nat) (w1 wr : World) (f : Int → Option (Int × Int)) (k : Nat) (s3 s4 : Value) : Prop where
  h : wr.ownsRow B 42 2 s3 k ((entsH f ((keysOf f).take k)).flatMap eC)
  p : wr.ownsRow B 42 2 s4 (entsP f ((keysOf f).take k)).length ((entsP f ((keysOf f).take k)).flatMap eC)
  ap : Apart s3 s4
  b : Below B w1 wr
theorem LsR.start (w1 : World) (f : Int → Option (Int × Int)) : LsR w1.heap.size w1 w1 f 0 (.slice none 0 0) (.slice none 0 0) :=
  ⟨⟨by simp [entsH], .inl ⟨rfl, rfl⟩⟩, ⟨by simp [entsP], .inl ⟨rfl, rfl⟩⟩, fun _ h => by simp [Value.ownBlock] at h, Below.refl _ _⟩
theorem entsH_take {f : Int → Option (Int × Int)} {k : Nat} {a : Int} (ha : (keysOf f)[k]? = some a) : (entsH f ((keysOf f).take k)).flatMap eC ++ eC (a, hasAt f a) = (entsH f ((keysOf f).take (k + 1))).flatMap eC := by
  obtain ⟨hl, hv⟩ := List.getElem?_eq_some_iff.1 ha
  rw [List.take_succ_eq_append_getElem hl, hv, entsH_snoc, List.flatMap_append]
  simp
theorem entsP_take1 {f : Int → Option (Int × Int)} {k : Nat} {a : Int} (ha : (keysOf f)[k]? = some a) (hp : paidAt f a ≠ 0) : (entsP f ((keysOf f).take k)).flatMap eC ++ eC (4096 + a, paidAt f a) = (entsP f ((keysOf f).take (k + 1))).flatMap eC ∧ (entsP f ((keysOf f).take k)).length + 1 = (entsP f ((keysOf f).take (k + 1))).length := by
  obtain ⟨hl, hv⟩ := List.getElem?_eq_some_iff.1 ha
  rw [List.take_succ_eq_append_getElem hl, hv, entsP_snoc1 f _ _ hp, List.flatMap_append]
  simp
theorem entsP_take0 {f : Int → Option (Int × Int)} {k : Nat} {a : Int} (ha : (keysOf f)[k]? = some a) (hp : paidAt f a = 0) : entsP f ((keysOf f).take (k + 1)) = entsP f ((keysOf f).take k) := by
  obtain ⟨hl, hv⟩ := List.getElem?_eq_some_iff.1 ha
  rw [List.take_succ_eq_append_getElem hl, hv, entsP_snoc0 f _ _ hp]
/-- a book's list -/
def Lst (w : World) (f : Int → Option (Int × Int)) (e : Ending) (w' : World) : Prop := ∃ A c, e = .returned (.slice A (ents f).length c) ∧ Reads w' w'.heap.size 2 A (ents f).length ((ents f).flatMap eC) ∧ (∀ a, A = some a → w.heap.size ≤ a.block) ∧ Below w.heap.size w w'
theorem own_mono {w : World} {base base' : Nat} {e : TypeId} {size n : Nat} {v : Value} {xs : List Value} (h : w.ownsRow base e size v n xs) (hb : base' ≤ base) : w.ownsRow base' e size v n xs :=
  ⟨h.1, h.2.imp id (fun ⟨g, cap, cur, a, b, rest⟩ => ⟨g, cap, cur, a, Nat.le_trans hb b, rest⟩)⟩
/-- a book's list, as a row of the call's own -/
def LstO (w : World) (f : Int → Option (Int × Int)) (e : Ending) (w' : World) : Prop := ∃ A c, e = .returned (.slice A (ents f).length c) ∧ w'.ownsRow w.heap.size 42 2 (.slice A (ents f).length c) (ents f).length ((ents f).flatMap eC) ∧ Below w.heap.size w w'
set_option maxRecDepth 100000 in
set_option maxHeartbeats 4000000 in
theorem list_own (b r m n : Nat) (f : Int → Option (Int × Int)) (w : World) (h : Bk w b r m n f) (hn : n ≤ 1000000) (hs : Sup f) : Calls Tryz.prog 25 #[.pointer (some ⟨b, 0, none⟩)] w (LstO w f) := by
  obtain ⟨q0, q1⟩ := h.b.c2
  have bl := h.b.lt
  have HB := Lib.hid h
  have HS := Lib.hid hs
  clear h hs
  obtain ⟨i0, hi0, hz0, hz1, hz2⟩ := info_parts info_en
  go_enter Tryz.func25, Tryz.ntmps25
  go_wp2_with (first | (go_at_call 48; with_reducible refine (mkeys_any m _).mono ?_; rintro e w1 ⟨rfl, rfl⟩) | (go_at_call 47; with_reducible refine (msorted_any m n f w HB.out.m hn HS.out).mono ?_; rintro e w1 ⟨A, c, rfl, hr, hb⟩))
  have B1 := Lib.hid (HB.out.keeps (Keeps.of_below (S := fun _ => False) hb) id id)
  have L1 := Lib.hid hr
  have W1 := Lib.hid hb
  have KL := keysOf_len f
  obtain ⟨N, hN⟩ : ∃ N, (keysOf f).length = N := ⟨_, rfl⟩
  have HN := Lib.hid hN
  rw [hN] at L1 KL ⊢
  clear hr hb hN q0 q1 bl
  go_loopw [3, 4, 15] (fun s3 s4 s15 wr => ∃ k : Nat, k ≤ N ∧ s15 = .int .i64 k ∧ LsR w1.heap.size w1 wr f k s3 s4) (fun _ _ s _ => N - (intOf s).toNat)
  case atStart => exact ⟨0, Nat.zero_le _, rfl, LsR.start w1 f⟩
  case round =>
    obtain ⟨k, hk, rfl, R⟩ := hrel
    have B2 := Lib.hid (B1.out.keeps (Keeps.of_below (S := fun _ => False) R.b) id id)
    obtain ⟨q0, q1⟩ := B2.out.b.c2
    have bl := B2.out.b.lt
    have hsz := R.b.size
    by_cases hlt : k < N
    · have hkN : k < (keysOf f).length := by rw [HN.out]; exact hlt
      have hd : decide ((k : Int) < (N : Int)) = true := by simp; omega
      obtain ⟨ad, u, rfl, hadb, hu, hcell⟩ := L1.out.at_ hlt
      have ha : (keysOf f)[k]? = some (keysOf f)[k] := List.getElem?_eq_getElem hkN
      have hsu := HS.out (keysOf f)[k] ((keysOf_mem HS.out _).1 (List.getElem_mem hkN))
      obtain rfl : u = .int .i64 (keysOf f)[k] := by simp [hkN] at hu; rw [← hu]
      replace hcell := (R.b.cell (p := ad.add k) (by rw [block_of_add]; exact hadb)).trans hcell
      clear hu
      generalize (keysOf f)[k] = a at *
      obtain ⟨a0, a1⟩ := hsu
      have hl := B2.out.m.look1 (k := a) (by simp [Lit.wf, IntKind.min, IntKind.max, IntKind.signed, IntKind.bits]; omega)
      rw [show accV ((f a).getD (0, 0)) = .agg #[.int .i64 (hasAt f a), .int .i64 (paidAt f a)] from rfl] at hl
      have hwr : IntKind.i64.wrap (4096 + a) = 4096 + a := IntWalk.i64_in _ (by omega)
      have R0 := Lib.hid R
      have ha1 := Lib.hid ha
      have hP : paidAt f a = 0 ∨ paidAt f a ≠ 0 := by omega
      obtain ⟨x, hx⟩ : ∃ x, hasAt f a = x := ⟨_, rfl⟩
      obtain ⟨y, hy⟩ : ∃ y, paidAt f a = y := ⟨_, rfl⟩
      rw [hx, hy] at hl
      rw [hy] at hP
      have HX := Lib.hid hx; have HY := Lib.hid hy
      clear ha hx hy R
      have OL : Hid (∀ g, u3.ownBlock = some g → w1.heap.size ≤ g ∧ g < wr.heap.size) := Lib.hid (fun g hg => R0.out.h.lt g hg)
      have NB : Hid (∀ g, u3.ownBlock = some g → some wr.heap.size ≠ some g) := Lib.hid (fun g hg e => by have := (OL.out g hg).2; cases e; omega)
      rcases hP with hP | hP
      · have hb0 : (y == 0) = true := by simpa using hP
        have HP := Lib.hid hP
        clear hP
        go_wp2_with (at_builtin
                     refine wpList_append_any _ rfl (.tmp 25) (.tmp 30) 23 rfl w1.heap.size 42 i0 _ 2 16 Tryz.underlying23 hi0 hz0 hz1 hz2 rfl (by omega) u3 k _ (by rfl) ((R0.out.h.alloc _).alloc _) (wr.heap.size + 1 + 1) (some ⟨wr.heap.size + 1, 0, none⟩) 1 1 (eC (a, x)) (by rfl) (reads_cells (by simp) rfl) (one_en _) (by simp only [maxLen]; omega) (by omega) (by simp; omega) ?_
                     intro v1 w2 hown1 hg1 hat1
                     have HO := Lib.hid hown1
                     have HP4 := Lib.hid (own_push ((R0.out.p.alloc _).alloc _) (fun g hg => (OL.out g hg).1) R0.out.ap (below_alloc_ (below_alloc_ R0.out.b _) _) (by simp; omega) hg1 hat1)
                     have X2 := Lib.hid (Blk.grown (g := wr.heap.size) (t := 74) (cs := #[.int .i64 x, .int .i64 y]) ((Blk.new wr _ _).alloc _) hg1 (fun e => by exact NB.out _ e.symm rfl))
                     obtain ⟨x0, x1⟩ := X2.out.c2
                     have xl := X2.out.lt
                     clear hown1 hg1 hat1)
        go_roundw
        case rel =>
          refine ⟨k + 1, by omega, by go_num, ⟨?_, ?_, HP4.out.2.1, HP4.out.2.2⟩⟩
          · rw [← entsH_take ha1.out, HX.out]; exact HO.out
          · rw [entsP_take0 ha1.out (HY.out.trans HP.out)]; exact HP4.out.1
        case measure => simp [intOf]; omega
      · have hb0 : (y == 0) = false := by simpa using hP
        have HP := Lib.hid hP
        clear hP
        go_wp2_with (first
          | (at_builtin
             refine wpList_append_any _ rfl (.tmp 25) (.tmp 30) 23 rfl w1.heap.size 42 i0 _ 2 16 Tryz.underlying23 hi0 hz0 hz1 hz2 rfl (by omega) u3 k _ (by rfl) ((R0.out.h.alloc _).alloc _) (wr.heap.size + 1 + 1) (some ⟨wr.heap.size + 1, 0, none⟩) 1 1 (eC (a, x)) (by rfl) (reads_cells (by simp) rfl) (one_en _) (by simp only [maxLen]; omega) (by omega) (by simp; omega) ?_
             intro v1 w2 hown1 hg1 hat1
             have HO := Lib.hid hown1
             have HP4 := Lib.hid (own_push ((R0.out.p.alloc _).alloc _) (fun g hg => (OL.out g hg).1) R0.out.ap (below_alloc_ (below_alloc_ R0.out.b _) _) (by simp; omega) hg1 hat1)
             have X2 := Lib.hid (Blk.grown (g := wr.heap.size) (t := 74) (cs := #[.int .i64 x, .int .i64 y]) ((Blk.new wr _ _).alloc _) hg1 (fun e => by exact NB.out _ e.symm rfl))
             obtain ⟨x0, x1⟩ := X2.out.c2
             have xl := X2.out.lt
             clear hown1 hg1 hat1)
          | (at_builtin
             refine wpList_append_any _ rfl (.tmp 35) (.tmp 41) 23 rfl w1.heap.size 42 i0 _ 2 16 Tryz.underlying23 hi0 hz0 hz1 hz2 rfl (by omega) u4 (entsP f ((keysOf f).take k)).length _ (by rfl) (HP4.out.1.alloc _) (w2.heap.size + 1) (some ⟨w2.heap.size, 0, none⟩) 1 1 (eC (4096 + a, y)) (by rfl) (reads_cells rfl rfl) (one_en _) (by simp only [maxLen]; have := entsP_len f ((keysOf f).take k); have := List.length_take_le k (keysOf f); omega) (by have := entsP_len f ((keysOf f).take k); have := List.length_take_le k (keysOf f); omega) (by simp; have := HP4.out.2.2.size; omega) ?_
             intro v2 w3 hown2 hg2 hat2
             have HO2 := Lib.hid hown2
             have HP5 := Lib.hid (own_push (HO.out.alloc _) (fun g hg => (HP4.out.1.lt g hg).1) HP4.out.2.1.symm (below_alloc_ HP4.out.2.2 _) (by simp; have := HP4.out.2.2.size; omega) hg2 hat2)
             clear hown2 hg2 hat2))
        go_roundw
        case rel =>
          refine ⟨k + 1, by omega, by go_num, ⟨?_, ?_, HP5.out.2.1.symm, HP5.out.2.2⟩⟩
          · rw [← entsH_take ha1.out, HX.out]; exact HP5.out.1
          · have e := entsP_take1 ha1.out (by rw [HY.out]; exact HP.out)
            rw [HY.out] at e
            rw [← e.1, ← e.2]; exact HO2.out
        case measure => simp [intOf]; omega
    · have hd : decide ((k : Int) < (N : Int)) = false := by simp; omega
      have hkN : k = N := by omega
      have RH := R.h; have RP := R.p
      rw [hkN, ← HN.out, List.take_length] at RH
      rw [hkN, ← HN.out, List.take_length] at RP
      obtain ⟨A4, c4, h4, hr4, -⟩ := own_shape RP
      rw [HN.out] at RH
      have R0 := Lib.hid R; have H0 := Lib.hid RH; have R4 := Lib.hid hr4
      have P4 := entsP_len f (keysOf f)
      rw [HN.out] at P4
      obtain ⟨M, hM⟩ : ∃ M, (entsP f (keysOf f)).length = M := ⟨_, rfl⟩
      have HM := Lib.hid hM
      rw [hM] at R4 h4 P4
      clear R RH RP hr4 hM hkN q0 q1 bl
      subst h4
      go_wp2_with (at_builtin
                   refine wpList_append_any _ rfl (.tmp 44) (.tmp 45) 23 rfl w1.heap.size 42 i0 _ 2 16 Tryz.underlying23 hi0 hz0 hz1 hz2 rfl (by omega) u3 N _ (by rfl) H0.out wr.heap.size A4 M c4 ((entsP f (keysOf f)).flatMap eC) (by rfl) R4.out (one_ens _) (by simp only [maxLen]; omega) (by omega) (by omega) ?_
                   intro v1 w2 hown1 hg1 hat1
                   obtain ⟨A', c', rfl, hrd, hblk⟩ := own_shape hown1
                   have RD := Lib.hid hrd; have BK := Lib.hid hblk; have HO := Lib.hid hown1
                   have HB2 := Lib.hid ((R0.out.b).grown hg1 (by omega) (fun g hg => (H0.out.lt g hg).1))
                   clear hown1 hrd hblk hg1 hat1)
      go_ret
      have hlen : (ents f).length = N + M := by unfold ents; rw [List.length_append, entsH_len, HN.out, HM.out]
      refine ⟨A', c', by rw [hlen]; rfl, ?_, ?_⟩
      · rw [hlen]; unfold ents; rw [List.flatMap_append]; exact own_mono HO.out W1.out.size
      · exact W1.out.trans (HB2.out.mono W1.out.size)
theorem list_any (b r m n : Nat) (f : Int → Option (Int × Int)) (w : World) (h : Bk w b r m n f) (hn : n ≤ 1000000) (hs : Sup f) : Calls Tryz.prog 25 #[.pointer (some ⟨b, 0, none⟩)] w (Lst w f) := by
  refine (list_own b r m n f w h hn hs).mono ?_
  rintro e w' ⟨A, c, rfl, ho, hb⟩
  obtain ⟨A', c', e', hr, ha⟩ := own_shape ho
  cases e'
  exact ⟨A, c, rfl, hr, ha, hb⟩
end Go.Proofs.YtjhhpcjnhjbpdaaGreat

/- Lists of entries: the same? what do they come to? -/
set_option linter.unusedSimpArgs false
set_option linter.unusedVariables false
namespace Go.Proofs.YtjhhpcjnhjbpdaaGreat
open Go.RowKit Mo
theorem below_dn {B : Nat} {w a : World} (h : Below B w a) (n : Nat) : Below B w (a.drewN n) := ⟨h.os, h.tape, h.output, h.size, h.block⟩
def sameL (a b : List (Int × Int)) : Bool := decide (a = b)
theorem eC_at (xs : List (Int × Int)) (k : Nat) (hk : k < xs.length) : (xs.flatMap eC)[k * 2]? = some (.int .i64 xs[k].1) ∧ (xs.flatMap eC)[k * 2 + 1]? = some (.int .i64 xs[k].2) := by
  have h := fun j (hj : j < 2) => flatMap_at xs eC 2 (fun _ => rfl) k j hk hj
  have h0 := h 0 (by omega); have h1 := h 1 (by omega)
  exact ⟨h0, h1⟩
theorem ents_at {w : World} {B n : Nat} {ad : Addr} {xs : List (Int × Int)} (h : ∀ j u, (xs.flatMap eC)[j]? = some u → w.cell? (ad.add j) = some u) (k : Nat) (hk : k < xs.length) : w.cell? (ad.add (k * 2)) = some (.int .i64 xs[k].1) ∧ w.cell? (ad.add (k * 2 + 1)) = some (.int .i64 xs[k].2) :=
  ⟨h _ _ (eC_at xs k hk).1, h _ _ (eC_at xs k hk).2⟩
set_option maxRecDepth 100000 in
set_option maxHeartbeats 4000000 in
theorem same_any (A B : Option Addr) (c d : Nat) (xs ys : List (Int × Int)) (w : World) (ha : Reads w w.heap.size 2 A xs.length (xs.flatMap eC)) (hb : Reads w w.heap.size 2 B ys.length (ys.flatMap eC)) (hx : xs.length ≤ 100000) (hy : ys.length ≤ 100000) :
    Calls Tryz.prog 9 #[.slice A xs.length c, .slice B ys.length d] w fun e w' => e = .returned (.bool (sameL xs ys)) ∧ Below w.heap.size w w' := by
  have HA := Lib.hid ha; have HB := Lib.hid hb
  clear ha hb
  by_cases hl : xs.length = ys.length
  · have b0 : ((xs.length : Int) == (ys.length : Int)) = true := by simp; omega
    have b1 : (xs.length == ys.length) = true := by simpa using hl
    have HL := Lib.hid hl
    clear hl
    go_enter Tryz.func9, Tryz.ntmps9
    go_wp2_with fail
    go_loopw [5] (fun s wr => ∃ k : Nat, k ≤ xs.length ∧ s = .int .i64 k ∧ Hid (xs.take k = ys.take k) ∧ Hid (Below w.heap.size w wr)) (fun s _ => xs.length - (intOf s).toNat)
    case atStart => exact ⟨0, Nat.zero_le _, rfl, Lib.hid (by simp), Lib.hid (Below.refl _ _)⟩
    case round =>
      obtain ⟨k, hk, rfl, HT, HW⟩ := hrel
      by_cases hlt : k < xs.length
      · have hly : k < ys.length := by rw [← HL.out]; exact hlt
        have hd : decide ((k : Int) < (xs.length : Int)) = true := by simp; omega
        obtain ⟨ad, hA, hadb, hcell⟩ := (HA.out.below HW.out).2 (by omega)
        obtain ⟨bd, hB, hbdb, hcell2⟩ := (HB.out.below HW.out).2 (by omega)
        subst hA; subst hB
        obtain ⟨q0, q1⟩ := ents_at (B := 0) (n := 0) hcell k hlt
        obtain ⟨r0, r1⟩ := ents_at (B := 0) (n := 0) hcell2 k hly
        replace q1 := cell_in _ 1 (by omega) q1; replace r1 := cell_in _ 1 (by omega) r1
        have HX := Lib.hid (List.take_succ_eq_append_getElem hlt); have HY := Lib.hid (List.take_succ_eq_append_getElem hly)
        have hne : (xs[k] ≠ ys[k]) → sameL xs ys = false := fun h => by
          unfold sameL
          rw [decide_eq_false_iff_not]
          rintro rfl
          exact h rfl
        have NE := Lib.hid hne
        clear hcell hcell2 hne
        generalize xs[k] = x at *
        generalize ys[k] = y at *
        obtain ⟨x1, x2⟩ := x
        obtain ⟨y1, y2⟩ := y
        simp only at q0 q1 r0 r1
        rcases (show x1 ≠ y1 ∨ (x1 = y1 ∧ x2 ≠ y2) ∨ (x1 = y1 ∧ x2 = y2) by omega) with h | ⟨h, h2⟩ | ⟨h, h2⟩
        · have e1 : (x1 == y1) = false := by simpa using h
          have n1 : (x1 != y1) = true := by simpa using h
          have e := NE.out (fun e => h (congrArg Prod.fst e))
          have E := Lib.hid e
          clear h e
          go_wp2_with fail
          go_quiet (fail)
          go_wp2_with fail
          go_ret
          exact ⟨by rw [E.out]; rfl, below_dn HW.out _⟩
        · subst h
          have e2 : (x2 == y2) = false := by simpa using h2
          have n2 : (x2 != y2) = true := by simpa using h2
          have n1 : (x1 != x1) = false := by simp
          have e := NE.out (fun e => h2 (congrArg Prod.snd e))
          have E := Lib.hid e
          clear h2 e
          go_wp2_with fail
          go_quiet (fail)
          go_wp2_with fail
          go_ret
          exact ⟨by rw [E.out]; rfl, below_dn HW.out _⟩
        · subst h; subst h2
          have n1 : (x1 != x1) = false := by simp
          have n2 : (x2 != x2) = false := by simp
          go_wp2_with fail
          go_quiet (fail)
          go_wp2_with fail
          go_roundw
          case rel => exact ⟨k + 1, by omega, by go_num, Lib.hid (by rw [HX.out, HY.out, HT.out]), Lib.hid (below_dn HW.out _)⟩
          case measure => simp [intOf]; omega
      · have hd : decide ((k : Int) < (xs.length : Int)) = false := by simp; omega
        have e : sameL xs ys = true := by
          have hk9 : k = xs.length := by omega
          have h := HT.out
          rw [hk9, List.take_length] at h
          rw [HL.out, List.take_length] at h
          unfold sameL
          exact decide_eq_true h
        have E := Lib.hid e
        clear e
        go_wp2_with fail
        go_ret
        exact ⟨by rw [E.out]; rfl, HW.out⟩
  · have b0 : ((xs.length : Int) == (ys.length : Int)) = false := by simp; omega
    have b1 : (xs.length == ys.length) = false := by simpa using hl
    have e : sameL xs ys = false := by
      unfold sameL
      rw [decide_eq_false_iff_not]
      rintro rfl
      exact hl rfl
    have E := Lib.hid e
    clear e hl
    go_enter Tryz.func9, Tryz.ntmps9
    go_wp2_with fail
    go_ret
    exact ⟨by rw [E.out]; rfl, Below.refl _ _⟩
end Go.Proofs.YtjhhpcjnhjbpdaaGreat

/- The book: Move whole; a call. -/
set_option linter.unusedSimpArgs false
set_option linter.unusedVariables false
namespace Go.Proofs.YtjhhpcjnhjbpdaaGreat
open Go.RowKit Mo
theorem Bk.mono {w : World} {b r m n n' : Nat} {f : Int → Option (Int × Int)} (h : Bk w b r m n f) (hn : n ≤ n') : Bk w b r m n' f := ⟨h.b, h.m.mono hn⟩
theorem move_any (b r m k : Nat) (f : Int → Option (Int × Int)) (a c n fee V E q : Int) (f' : Int → Option (Int × Int)) (w : World) (h : Bk w b r m k f) (hF : FOk f q) (hq : q ≤ 8000) (wa : (Lit.int .i64 a).wf = true) (wc : (Lit.int .i64 c).wf = true) (hr : rateOk r = true) (hb : r < 18446744073709551616) (hfee : prodV n r false = fee) (hk : k + 2 < maxLen) (hO : MvIs f fee a c n V E f') :
    Calls Tryz.prog 17 #[.pointer (some ⟨b, 0, none⟩), .int .i64 a, .int .i64 c, .int .i64 n] w fun e w' => e = .returned (.tuple #[.int .i64 V, .int .i64 E]) ∧ Bk w' b r m (k + 2) f' ∧ Keeps (· = m) w w' := by
  have hb0 : ∀ w', Below w.heap.size w w' → Bk w' b r m (k + 2) f ∧ Keeps (· = m) w w' := fun w' hw => ⟨(h.keeps (Keeps.of_below (S := fun _ => False) hw) id id).mono (by omega), Keeps.of_below hw⟩
  rcases hO with ⟨h1, rfl, rfl, rfl⟩ | ⟨h1, h2, h3, rfl, rfl, rfl⟩ | ⟨h1, h2, h3, h4, rfl, rfl, rfl, rfl⟩ | ⟨ho, hx, rfl, rfl, rfl⟩ | ⟨x, ho, hx, hs, rfl, rfl, rfl⟩ | ⟨x, ho, hx, hs, hy, rfl, rfl, rfl⟩ | ⟨x, y, ho, hx, hs, hy, hz, rfl, rfl, rfl⟩ | ⟨x, y, ho, hx, hs, hy, hz, rfl, rfl, rfl⟩
  · refine (move_acc b r a c n w h1).mono ?_
    rintro e w' ⟨rfl, rfl⟩
    exact ⟨rfl, h.mono (by omega), Keeps.refl _ _⟩
  · refine (move_amt b r a c n w h1 h2 h3).mono ?_
    rintro e w' ⟨rfl, rfl⟩
    exact ⟨rfl, h.mono (by omega), Keeps.refl _ _⟩
  · refine (move_self b r a n w h1 h3 h4).mono ?_
    rintro e w' ⟨rfl, rfl⟩
    exact ⟨rfl, h.mono (by omega), Keeps.refl _ _⟩
  · refine (move_from b r m k f a c n w h ho wa hx).mono ?_
    rintro e w' ⟨rfl, hw⟩
    exact ⟨rfl, hb0 _ hw⟩
  · refine (move_short b r m k f a c n fee x.1 x.2 w h ho wa hx hr hb hfee hs).mono ?_
    rintro e w' ⟨rfl, hw⟩
    exact ⟨rfl, hb0 _ hw⟩
  · refine (move_to b r m k f a c n fee x.1 x.2 w h ho wa wc hx hr hb hfee hs hy).mono ?_
    rintro e w' ⟨rfl, hw⟩
    exact ⟨rfl, hb0 _ hw⟩
  · refine (move_full b r m k f a c n fee x.1 x.2 y.1 y.2 w h ho wa wc hx hr hb hfee hs hy (hF c y hy).2.1 hz).mono ?_
    rintro e w' ⟨rfl, hw⟩
    exact ⟨rfl, hb0 _ hw⟩
  · obtain ⟨_, g2, g3, g4⟩ := hF a x hx
    exact move_done b r m k f a c n _ x.1 x.2 y.1 y.2 w h ho wa wc hx hr hb hfee hs hy g2 (hF c y hy).2.1 hz g3 (by omega) hk
theorem fee_bd {n : Int} {r : Nat} (hr : rateOk r = true) (hn : isA n = true) : 0 ≤ prodV n r false ∧ prodV n r false ≤ n := by
  obtain ⟨n0, n1⟩ := isA_iff.1 hn
  have hv := fee_val n r n0 n1 hr
  exact ⟨by rw [hv.2.1]; omega, hv.2.2⟩
/-- what a move asks of its fee holds of an amount -/
theorem MvIs.fee_ok {f f' : Int → Option (Int × Int)} {r : Nat} {a c n V E : Int} {q : Int} (hr : rateOk r = true) (h : FOk f q) (hq : 0 ≤ q) (hO : MvIs f (prodV n r false) a c n V E f') : FOk f' (q + 1) := by
  by_cases hn : isA n = true
  · have := fee_bd hr hn
    have := isA_iff.1 hn
    exact h.moved hq (by omega) (by omega) hO
  · have hm := h.mono (q' := q + 1) (by omega)
    rcases hO with ⟨_, _, _, rfl⟩ | ⟨_, _, _, _, _, rfl⟩ | ⟨_, _, _, _, _, _, _, rfl⟩ | ⟨_, _, _, _, rfl⟩ | ⟨_, _, _, _, _, _, rfl⟩ | ⟨_, _, _, _, _, _, _, rfl⟩ | ⟨_, _, _, _, _, _, _, _, _, rfl⟩ | ⟨x, y, ho, _⟩
    · exact hm
    · exact hm
    · exact hm
    · exact hm
    · exact hm
    · exact hm
    · exact hm
    · exact absurd ho.2.2.2.1 hn
end Go.Proofs.YtjhhpcjnhjbpdaaGreat

/- The book: words for laws. -/
set_option linter.unusedSimpArgs false
set_option linter.unusedVariables false
namespace Go.Proofs.YtjhhpcjnhjbpdaaGreat
open Go.RowKit Mo
theorem MvIs.cases {f f' : Int → Option (Int × Int)} {fee a c n V E : Int} (h : MvIs f fee a c n V E f') :
    (E ≠ 0 ∧ V = 0 ∧ f = f') ∨ (∃ x1 x2 y1 y2, E = 0 ∧ V = fee ∧ mvOk a c n ∧ f a = some (x1, x2) ∧ f c = some (y1, y2) ∧ n + fee ≤ x1 ∧ f' a = some (x1 - n - fee, x2 + fee) ∧ f' c = some (y1 + n, y2) ∧ ∀ t, t ≠ a → t ≠ c → f' t = f t) := by
  rcases h with ⟨_, h, rfl, h'⟩ | ⟨_, _, _, h, rfl, h'⟩ | ⟨_, _, _, _, _, h, rfl, h'⟩ | ⟨_, _, h, rfl, h'⟩ | ⟨_, _, _, _, h, rfl, h'⟩ | ⟨_, _, _, _, _, h, rfl, h'⟩ | ⟨_, _, _, _, _, _, _, h, rfl, h'⟩ | ⟨x, y, ho, hx, hs, hy, hz, h, rfl, rfl⟩
  · exact .inl ⟨by decide, h, h'⟩
  · exact .inl ⟨by decide, h, h'⟩
  · exact .inl ⟨by decide, h, h'⟩
  · exact .inl ⟨by decide, h, h'⟩
  · exact .inl ⟨by decide, h, h'⟩
  · exact .inl ⟨by decide, h, h'⟩
  · exact .inl ⟨by decide, h, h'⟩
  · have hne := ho.2.2.2.2
    refine .inr ⟨x.1, x.2, y.1, y.2, rfl, h, ho, hx, hy, hs, ?_, ?_, ?_⟩
    · unfold fput
      rw [if_neg hne, if_pos rfl]
    · unfold fput
      rw [if_pos rfl]
    · intro t h1 h2
      unfold fput
      rw [if_neg h2, if_neg h1]
theorem Bk.pass {w w' : World} {b r m n : Nat} {f : Int → Option (Int × Int)} (h : Bk w b r m n f) (hb : Below w.heap.size w w') : Bk w' b r m n f := h.keeps (Keeps.of_below (S := fun _ => False) hb) id id
theorem sameL_refl (l : List (Int × Int)) : sameL l l = true := by unfold sameL; simp
/-- two lists, and whether they are the same -/
theorem lists_same {A B : Option Addr} {c d : Nat} {xs : List (Int × Int)} (w : World) (ha : Reads w w.heap.size 2 A xs.length (xs.flatMap eC)) (hb : Reads w w.heap.size 2 B xs.length (xs.flatMap eC)) (hx : xs.length ≤ 100000) :
    Calls Tryz.prog 9 #[.slice A xs.length c, .slice B xs.length d] w fun e w' => e = .returned (.bool true) ∧ Below w.heap.size w w' := by
  have := same_any A B c d xs xs w ha hb hx hx
  rw [sameL_refl] at this
  exact this
theorem Reads.pass {w w' : World} {size n : Nat} {A : Option Addr} {xs : List Value} (h : Reads w w.heap.size size A n xs) (hb : Below w.heap.size w w') : Reads w' w'.heap.size size A n xs := (h.below hb).more hb.size
end Go.Proofs.YtjhhpcjnhjbpdaaGreat
