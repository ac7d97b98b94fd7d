/- Joined: SoA, SoP, SoB, SoQ, SoC, SoD. -/
import Derived.Test.YtjhhpcjnhjbpdaaGreatPL
import Derived.IntWalk
import Derived.RegionTactic
import Derived.BigRegion
import Derived.LoopTactic
import Derived.Test.YtjhhpcjnhjbpdaaGreatProg
import Derived.WalkKit
import Derived.Deep.DeepCutAuto
import Derived.Deep.RegionWith
import Derived.Deep.QuietTactic
import Derived.BigQuiet
import Derived.WalkLawsBesides
/- A row of numbers, known place by place. -/
set_option linter.unusedSimpArgs false
set_option linter.unusedVariables false
namespace Go.Proofs.YtjhhpcjnhjbpdaaGreat
open Go.RowKit
/-- row g holds the numbers D 0, D 1, .. (n of them) -/
def Arr (W : World) (g n cap : Nat) (D : Nat → Int) : Prop := W.ownsRow 0 3 1 (.slice (some ⟨g, 0, none⟩) n cap) n ((List.range n).map (fun i => Value.int .i64 (D i)))
def upd (D : Nat → Int) (i : Nat) (v : Int) : Nat → Int := fun j => if j = i then v else D j
variable {W : World} {g n cap : Nat} {D : Nat → Int}
theorem Arr.cell (h : Arr W g n cap D) {i : Nat} (hi : i < n) : W.cell? ⟨g, i, none⟩ = some (.int .i64 (D i)) := by
  rw [World.ownsRow.cellAt h i (by omega)]
  simp [hi]
theorem Arr.frozen (h : Arr W g n cap D) (i : Nat) : W.frozen? ⟨g, i, none⟩ = false := World.ownsRow.frozenAt h i
theorem Arr.drewN (h : Arr W g n cap D) (k : Nat) : Arr (W.drewN k) g n cap D := h
theorem Arr.drew (h : Arr W g n cap D) : Arr W.drew g n cap D := h
theorem Arr.lt (h : Arr W g n cap D) : g < W.heap.size := (World.ownsRow.lt h g rfl).2
theorem Arr.set (h : Arr W g n cap D) (i : Nat) (v : Int) : Arr (W.setCell ⟨g, i, none⟩ (.int .i64 v)) g n cap (upd D i v) := by
  have h1 := (World.ownsRow.stored h i (.int .i64 v)).1
  unfold Arr
  rw [show (List.range n).map (fun j => Value.int .i64 (upd D i v j)) = ((List.range n).map (fun j => Value.int .i64 (D j))).set i (.int .i64 v) from ?_]
  · exact h1
  · apply List.ext_getElem?
    intro j
    rw [List.getElem?_set]
    by_cases hj : i = j
    · subst hj
      by_cases hn : i < n
      · simp [hn, upd]
      · simp [hn]
    · rw [if_neg hj]
      by_cases hn : j < n
      · simp [hn, upd, show j ≠ i from fun e => hj e.symm]
      · simp [hn]
theorem Arr.keeps {S : Nat → Prop} {W' : World} (h : Arr W g n cap D) (hk : Keeps S W W') (hs : ¬ S g) : Arr W' g n cap D := by
  refine ⟨h.1, ?_⟩
  rcases h.2 with hn | ⟨g', c', cur, e, hb, hg, rest⟩
  · exact .inl hn
  · refine .inr ⟨g', c', cur, e, hb, ?_, rest⟩
    injection e with e
    injection e with e
    injection e with e
    subst e
    rw [hk.block g (Array.getElem?_eq_some_iff.1 hg).1 hs]
    exact hg
theorem Arr.ext (h : Arr W g n cap D) {D' : Nat → Int} (e : ∀ i, i < n → D' i = D i) : Arr W g n cap D' := by
  unfold Arr at *
  rw [show (List.range n).map (fun j => Value.int .i64 (D' j)) = (List.range n).map (fun j => Value.int .i64 (D j)) from List.map_congr_left (fun j hj => by rw [e j (List.mem_range.1 hj)])]
  exact h
/-- two places change -/
def swp (D : Nat → Int) (i j : Nat) : Nat → Int := fun k => if k = i then D j else if k = j then D i else D k
theorem swp_upd (D : Nat → Int) (i j : Nat) : upd (upd D i (D j)) j (D i) = swp D i j := by
  funext k
  unfold upd swp
  by_cases hi : k = i <;> by_cases hj : k = j <;> simp_all
theorem swp_upd' (D : Nat → Int) (i j : Nat) : upd (upd D j (D i)) i (D j) = swp D i j := by
  funext k
  unfold upd swp
  by_cases hi : k = i <;> by_cases hj : k = j <;> simp_all
theorem Arr.swap (h : Arr W g n cap D) {i j : Nat} {x y : Int} (hx : D i = x) (hy : D j = y) : Arr ((W.setCell ⟨g, i, none⟩ (.int .i64 y)).setCell ⟨g, j, none⟩ (.int .i64 x)).drew g n cap (swp D i j) := by
  rw [← swp_upd, hx, hy]
  exact (h.set i y).set j x
/-- a world in which only row g may have turned -/
structure Env (g : Nat) (I : World → Prop) : Prop where
  set : ∀ W i v, I W → I (W.setCell ⟨g, i, none⟩ v)
  drewN : ∀ W k, I W → I (W.drewN k)
theorem Env.drew {g : Nat} {I : World → Prop} (h : Env g I) {W : World} (hI : I W) : I W.drew := h.drewN W 1 hI
theorem Env.swap {g : Nat} {I : World → Prop} (h : Env g I) {W : World} (hI : I W) (i j : Nat) (u v : Value) : I ((W.setCell ⟨g, i, none⟩ u).setCell ⟨g, j, none⟩ v).drew := h.drew (h.set _ _ _ (h.set _ _ _ hI))
theorem keeps_swap {g : Nat} {w W : World} (h : Keeps (· = g) w W) (i j : Nat) (u v : Value) : Keeps (· = g) w ((W.setCell ⟨g, i, none⟩ u).setCell ⟨g, j, none⟩ v).drew := ((h.set_ (Or.inl rfl) u).set_ (Or.inl rfl) v).drew
end Go.Proofs.YtjhhpcjnhjbpdaaGreat

/- Sorting in plain Lean: orders, ranges, rotations. -/
set_option linter.unusedSimpArgs false
set_option linter.unusedVariables false
namespace Go.Proofs.YtjhhpcjnhjbpdaaGreat
/-- by T, and by the number itself where T is one -/
def lexT (T : Int → Int) (x y : Int) : Prop := T x < T y ∨ (T x = T y ∧ x < y)
theorem lexT.trans {T : Int → Int} {x y z : Int} (h : lexT T x y) (k : lexT T y z) : lexT T x z := by unfold lexT at *; omega
theorem lexT.asymm {T : Int → Int} {x y : Int} (h : lexT T x y) : ¬ lexT T y x := by unfold lexT at *; omega
theorem lexT.total {T : Int → Int} {x y : Int} (h : x ≠ y) : lexT T x y ∨ lexT T y x := by unfold lexT; omega
theorem lexT.ne {T : Int → Int} {x y : Int} (h : lexT T x y) : x ≠ y := by unfold lexT at h; intro e; subst e; omega
/-- a range stands in the order -/
def Srt (T : Int → Int) (D : Nat → Int) (a b : Nat) : Prop := ∀ i j, a ≤ i → i < j → j < b → lexT T (D i) (D j)
def Img (D : Nat → Int) (a b : Nat) (x : Int) : Prop := ∃ i, a ≤ i ∧ i < b ∧ D i = x
/-- the same numbers in a range, and all else as it was -/
def Sam (D D' : Nat → Int) (a b : Nat) : Prop := (∀ x, Img D a b x ↔ Img D' a b x) ∧ ∀ i, (i < a ∨ b ≤ i) → D' i = D i
theorem Sam.refl (D : Nat → Int) (a b : Nat) : Sam D D a b := ⟨fun _ => Iff.rfl, fun _ _ => rfl⟩
theorem Sam.trans {D E F : Nat → Int} {a b : Nat} (h : Sam D E a b) (k : Sam E F a b) : Sam D F a b := ⟨fun x => (h.1 x).trans (k.1 x), fun i hi => (k.2 i hi).trans (h.2 i hi)⟩
theorem Sam.sub {D E : Nat → Int} {a b a' b' : Nat} (h : Sam D E a' b') (ha : a ≤ a') (hb : b' ≤ b) : Sam D E a b := by
  refine ⟨fun x => ⟨?_, ?_⟩, fun i hi => h.2 i (by omega)⟩
  · rintro ⟨i, h1, h2, h3⟩
    by_cases hi : a' ≤ i ∧ i < b'
    · obtain ⟨j, k1, k2, k3⟩ := (h.1 x).1 ⟨i, hi.1, hi.2, h3⟩
      exact ⟨j, by omega, by omega, k3⟩
    · exact ⟨i, h1, h2, (h.2 i (by omega)).trans h3⟩
  · rintro ⟨i, h1, h2, h3⟩
    by_cases hi : a' ≤ i ∧ i < b'
    · obtain ⟨j, k1, k2, k3⟩ := (h.1 x).2 ⟨i, hi.1, hi.2, h3⟩
      exact ⟨j, by omega, by omega, k3⟩
    · exact ⟨i, h1, h2, (h.2 i (by omega)).symm.trans h3⟩
theorem Sam.bij {D E : Nat → Int} {a b : Nat} (p q : Nat → Nat) (hp : ∀ i, a ≤ i → i < b → (a ≤ p i ∧ p i < b) ∧ E i = D (p i)) (hq : ∀ i, a ≤ i → i < b → (a ≤ q i ∧ q i < b) ∧ D i = E (q i)) (ho : ∀ i, (i < a ∨ b ≤ i) → E i = D i) : Sam D E a b := by
  refine ⟨fun x => ⟨?_, ?_⟩, ho⟩
  · rintro ⟨i, h1, h2, h3⟩
    obtain ⟨k1, k2⟩ := hq i h1 h2
    exact ⟨q i, k1.1, k1.2, k2.symm.trans h3⟩
  · rintro ⟨i, h1, h2, h3⟩
    obtain ⟨k1, k2⟩ := hp i h1 h2
    exact ⟨p i, k1.1, k1.2, k2.symm.trans h3⟩
theorem Sam.swap (D : Nat → Int) {a b i j : Nat} (hi : a ≤ i ∧ i < b) (hj : a ≤ j ∧ j < b) : Sam D (swp D i j) a b := by
  refine Sam.bij (fun k => if k = i then j else if k = j then i else k) (fun k => if k = i then j else if k = j then i else k) ?_ ?_ ?_
  · intro k h1 h2
    refine ⟨?_, ?_⟩
    · split <;> (try split) <;> omega
    · unfold swp; split <;> (try split) <;> rfl
  · intro k h1 h2
    refine ⟨?_, ?_⟩
    · split <;> (try split) <;> omega
    · unfold swp
      by_cases e1 : k = i
      · by_cases e2 : j = i
        · simp [e1, e2]
        · simp [e1, e2]
      · by_cases e2 : k = j
        · simp [e1, e2]
        · simp [e1, e2]
  · intro k hk
    unfold swp
    rw [if_neg (by omega), if_neg (by omega)]
/-- ranges a .. a+k and b .. b+k changed -/
def swr (D : Nat → Int) (a b : Nat) : Nat → Nat → Int
  | 0 => D
  | k + 1 => swp (swr D a b k) (a + k) (b + k)
theorem swr_eq (D : Nat → Int) (a b m : Nat) (hab : a + m ≤ b ∨ b + m ≤ a) (i : Nat) : swr D a b m i = if a ≤ i ∧ i < a + m then D (b + (i - a)) else if b ≤ i ∧ i < b + m then D (a + (i - b)) else D i := by
  induction m generalizing i with
  | zero => unfold swr; rw [if_neg (by omega), if_neg (by omega)]
  | succ m ih =>
    have ih' := fun i => ih (by omega) i
    unfold swr swp
    by_cases h1 : i = a + m
    · rw [if_pos h1, if_pos (by omega), ih', if_neg (by omega), if_neg (by omega)]
      congr 1; omega
    · rw [if_neg h1]
      by_cases h2 : i = b + m
      · rw [if_pos h2, if_neg (by omega), if_pos (by omega), ih', if_neg (by omega), if_neg (by omega)]
        congr 1; omega
      · rw [if_neg h2, ih']
        by_cases h3 : a ≤ i ∧ i < a + m
        · rw [if_pos h3, if_pos (by omega)]
        · rw [if_neg h3]
          by_cases h4 : b ≤ i ∧ i < b + m
          · rw [if_pos h4, if_neg (by omega), if_pos (by omega)]
          · rw [if_neg h4, if_neg (by omega), if_neg (by omega)]
/-- the ranges a .. m and m .. e changed in order -/
def rot (D : Nat → Int) (a m e : Nat) : Nat → Int := fun i => if a ≤ i ∧ i < a + (e - m) then D (m + (i - a)) else if a + (e - m) ≤ i ∧ i < e then D (a + (i - (a + (e - m)))) else D i
theorem rot_same (D : Nat → Int) {a m e : Nat} (h1 : a ≤ m) (h2 : m ≤ e) : Sam D (rot D a m e) a e := by
  refine Sam.bij (fun i => if i < a + (e - m) then m + (i - a) else a + (i - (a + (e - m)))) (fun i => if i < m then i + (e - m) else i - (m - a)) ?_ ?_ ?_
  · intro i hi hj
    refine ⟨by split <;> omega, ?_⟩
    unfold rot
    by_cases h : i < a + (e - m)
    · rw [if_pos ⟨hi, h⟩, if_pos h]
    · rw [if_neg (by omega), if_pos (by omega), if_neg h]
  · intro i hi hj
    refine ⟨by split <;> omega, ?_⟩
    unfold rot
    by_cases h : i < m
    · rw [if_pos h, if_neg (by omega), if_pos (by omega)]
      congr 1; omega
    · rw [if_neg h, if_pos (by omega)]
      congr 1; omega
  · intro i hi
    unfold rot
    rw [if_neg (by omega), if_neg (by omega)]
theorem rot_left (D : Nat → Int) (a e : Nat) : rot D a a e = D := by
  funext i
  unfold rot
  by_cases h : a ≤ i ∧ i < a + (e - a)
  · rw [if_pos h]; congr 1; omega
  · rw [if_neg h, if_neg (by omega)]
theorem rot_right (D : Nat → Int) (a m : Nat) (h : a ≤ m) : rot D a m m = D := by
  funext i
  unfold rot
  rw [if_neg (by omega)]
  by_cases h2 : a + (m - m) ≤ i ∧ i < m
  · rw [if_pos h2]; congr 1; omega
  · rw [if_neg h2]
theorem rot_step1 (D : Nat → Int) (m i j : Nat) (hi : i ≤ m) (hij : j < i) : rot (swr D (m - i) m j) (m - (i - j)) m (m + j) = rot D (m - i) m (m + j) := by
  funext t
  unfold rot
  simp only [swr_eq D (m - i) m j (by omega)]
  by_cases h1 : m - (i - j) ≤ t ∧ t < m - (i - j) + (m + j - m)
  · rw [if_pos h1, if_neg (by omega), if_pos (by omega), if_neg (by omega), if_pos (by omega)]
    congr 1; omega
  · rw [if_neg h1]
    by_cases h2 : m - (i - j) + (m + j - m) ≤ t ∧ t < m + j
    · rw [if_pos h2]
      by_cases h3 : m ≤ m - (i - j) + (t - (m - (i - j) + (m + j - m))) ∧ m - (i - j) + (t - (m - (i - j) + (m + j - m))) < m + j
      · exfalso; omega
      · rw [if_neg (by omega), if_neg h3, if_neg (by omega), if_pos (by omega)]
        congr 1; omega
    · rw [if_neg h2]
      by_cases h3 : m - i ≤ t ∧ t < m - i + j
      · rw [if_pos h3, if_pos (by omega)]
      · rw [if_neg h3, if_neg (by omega), if_neg (by omega), if_neg (by omega)]
theorem rot_step2 (D : Nat → Int) (m i j : Nat) (hi : i ≤ m) (hij : i < j) : rot (swr D (m - i) (m + j - i) i) (m - i) m (m + (j - i)) = rot D (m - i) m (m + j) := by
  funext t
  unfold rot
  simp only [swr_eq D (m - i) (m + j - i) i (by omega)]
  by_cases h1 : m - i ≤ t ∧ t < m - i + (m + (j - i) - m)
  · rw [if_pos h1, if_neg (by omega)]
    by_cases h2 : m + j - i ≤ m + (t - (m - i)) ∧ m + (t - (m - i)) < m + j - i + i
    · exfalso; omega
    · rw [if_neg h2, if_pos (by omega)]
  · rw [if_neg h1]
    by_cases h2 : m - i + (m + (j - i) - m) ≤ t ∧ t < m + (j - i)
    · rw [if_pos h2, if_pos (by omega), if_pos (by omega)]
      congr 1; omega
    · rw [if_neg h2]
      by_cases h3 : m - i ≤ t ∧ t < m - i + i
      · exfalso; omega
      · rw [if_neg h3]
        by_cases h4 : m + j - i ≤ t ∧ t < m + j - i + i
        · rw [if_pos h4, if_neg (by omega), if_pos (by omega)]
          congr 1; omega
        · rw [if_neg h4, if_neg (by omega), if_neg (by omega)]
theorem rot_step3 (D : Nat → Int) (m i : Nat) (hi : i ≤ m) : swr D (m - i) m i = rot D (m - i) m (m + i) := by
  funext t
  unfold rot
  rw [swr_eq D (m - i) m i (by omega)]
  by_cases h1 : m - i ≤ t ∧ t < m - i + i
  · rw [if_pos h1, if_pos (by omega)]
  · rw [if_neg h1]
    by_cases h2 : m ≤ t ∧ t < m + i
    · rw [if_pos h2, if_neg (by omega), if_pos (by omega)]
      congr 1; omega
    · rw [if_neg h2, if_neg (by omega), if_neg (by omega)]
end Go.Proofs.YtjhhpcjnhjbpdaaGreat

/- The library's stable sort: two ranges change places. -/
set_option linter.unusedSimpArgs false
set_option linter.unusedVariables false
namespace Go.Proofs.YtjhhpcjnhjbpdaaGreat
open Go.RowKit
set_option maxRecDepth 100000 in
set_option maxHeartbeats 4000000 in
theorem swapRange_any (g n cap a b m : Nat) (D : Nat → Int) (fv : Value) (I : World → Prop) (hE : Env g I) (w : World) (h : Arr w g n cap D) (hI : I w) (hn : n ≤ 1000000) (ha : a + m ≤ n) (hb : b + m ≤ n) (hab : a + m ≤ b ∨ b + m ≤ a) :
    Calls Tryz.prog 97 #[.slice (some ⟨g, 0, none⟩) n cap, .int .i64 a, .int .i64 b, .int .i64 m, fv] w fun e w' => e = .returned (.tuple #[]) ∧ Arr w' g n cap (swr D a b m) ∧ I w' ∧ Keeps (· = g) w w' := by
  have H0 := Lib.hid h; have HI := Lib.hid hI; have HE := Lib.hid hE
  clear h hI hE
  go_enter Tryz.func97, Tryz.ntmps97
  go_wp2_with fail
  go_loopw [10] (fun s wr => ∃ k : Nat, k ≤ m ∧ s = .int .i64 k ∧ Hid (Arr wr g n cap (swr D a b k)) ∧ Hid (I wr) ∧ Hid (Keeps (· = g) w wr)) (fun s _ => m - (intOf s).toNat)
  case atStart => exact ⟨0, Nat.zero_le _, rfl, H0, HI, Lib.hid (Keeps.refl _ _)⟩
  case round =>
    obtain ⟨k, hk, rfl, HA, HI2, HK⟩ := hrel
    by_cases hlt : k < m
    · have hd : decide ((k : Int) < (m : Int)) = true := by simp; omega
      obtain ⟨wq, rfl⟩ : ∃ wq, wq = wr := ⟨_, rfl⟩
      obtain ⟨x, hx⟩ : ∃ x, swr D a b k (a + k) = x := ⟨_, rfl⟩
      obtain ⟨y, hy⟩ : ∃ y, swr D a b k (b + k) = y := ⟨_, rfl⟩
      have c0 := HA.out.cell (i := a + k) (by omega); have c1 := HA.out.cell (i := b + k) (by omega)
      have f0 := HA.out.frozen (a + k); have f1 := HA.out.frozen (b + k)
      have gl := HA.out.lt
      rw [hx] at c0; rw [hy] at c1
      have HX := Lib.hid hx; have HY := Lib.hid hy
      clear hx hy
      have t0 : ((a : Int) + (k : Int)).toNat = a + k := by omega
      have t1 : ((b : Int) + (k : Int)).toNat = b + k := by omega
      have t2 : (0 : Int) ≤ (a : Int) + (k : Int) := by omega
      have t3 : (0 : Int) ≤ (b : Int) + (k : Int) := by omega
      have t4 : IntKind.i64.wrap ((a : Int) + k) = (a : Int) + k := IntWalk.i64_in _ (by omega)
      have t5 : IntKind.i64.wrap ((b : Int) + k) = (b : Int) + k := IntWalk.i64_in _ (by omega)
      have t6 : (a : Int) + (k : Int) < (n : Int) := by omega
      have t7 : (b : Int) + (k : Int) < (n : Int) := by omega
      go_wp2_with fail
      go_region_with (fail)
      all_goals
        go_wp2_with fail
        go_roundw
        case rel => exact ⟨k + 1, by omega, by go_num, Lib.hid (HA.out.swap HX.out HY.out), Lib.hid (HE.out.swap HI2.out _ _ _ _), Lib.hid (keeps_swap HK.out _ _ _ _)⟩
        case measure => simp [intOf]; omega
    · have hd : decide ((k : Int) < (m : Int)) = false := by simp; omega
      have hkm : k = m := by omega
      subst hkm
      go_wp2_with fail
      go_end0
      exact ⟨rfl, HA.out, HI2.out, HK.out⟩
theorem swr_rot (D : Nat → Int) (m i : Nat) (hi : i ≤ m) : swr D (m - i) m i = rot D (m - i) m (m + i) := rot_step3 D m i hi
set_option maxRecDepth 100000 in
set_option maxHeartbeats 4000000 in
theorem rotate_any (g n cap a m e : Nat) (D : Nat → Int) (fv : Value) (I : World → Prop) (hE : Env g I) (w : World) (h : Arr w g n cap D) (hI : I w) (hn : n ≤ 1000000) (h1 : a < m) (h2 : m < e) (h3 : e ≤ n) :
    Calls Tryz.prog 80 #[.slice (some ⟨g, 0, none⟩) n cap, .int .i64 a, .int .i64 m, .int .i64 e, fv] w fun r w' => r = .returned (.tuple #[]) ∧ Arr w' g n cap (rot D a m e) ∧ I w' ∧ Keeps (· = g) w w' := by
  have H0 := Lib.hid h; have HI := Lib.hid hI; have HE := Lib.hid hE
  have a1 : ((m : Int) - (a : Int)) = ((m - a : Nat) : Int) := by omega
  have a2 : ((e : Int) - (m : Int)) = ((e - m : Nat) : Int) := by omega
  have A1 := Lib.hid a1; have A2 := Lib.hid a2
  clear h hI hE a1 a2
  go_enter Tryz.func80, Tryz.ntmps80
  go_wp2_with fail
  go_loopw [10, 11] (fun si sj wr => ∃ (i j : Nat) (C : Nat → Int), 0 < i ∧ i ≤ m ∧ 0 < j ∧ m + j ≤ e ∧ a ≤ m - i ∧ si = .int .i64 i ∧ sj = .int .i64 j ∧ Hid (rot C (m - i) m (m + j) = rot D a m e) ∧ Hid (Arr wr g n cap C) ∧ Hid (I wr) ∧ Hid (Keeps (· = g) w wr)) (fun si sj _ => (intOf si).toNat + (intOf sj).toNat)
  case atStart =>
    rw [A1.out, A2.out]
    exact ⟨m - a, e - m, D, by omega, by omega, by omega, by omega, by omega, rfl, rfl, Lib.hid (by rw [show m - (m - a) = a by omega, show m + (e - m) = e by omega]), H0, HI, Lib.hid (Keeps.refl _ _)⟩
  case round =>
    obtain ⟨i, j, C, i0, i1, j0, j1, ia, rfl, rfl, HR, HA, HI2, HK⟩ := hrel
    rcases Nat.lt_trichotomy i j with hij | hij | hij
    · have b0 : ((i : Int) != (j : Int)) = true := by simp; omega
      have b1 : decide ((j : Int) < (i : Int)) = false := by simp; omega
      have b1' : decide (j < i) = false := by simp; omega
      have z0 : ((m : Int) - (i : Int)) = ((m - i : Nat) : Int) := by omega
      have z1 : ((m : Int) + (j : Int) - (i : Int)) = ((m + j - i : Nat) : Int) := by omega
      have z2 : ((j : Int) - (i : Int)) = ((j - i : Nat) : Int) := by omega
      go_wp2_with fail
      refine (swapRange_any g n cap (m - i) (m + j - i) i C fv I HE.out _ HA.out HI2.out hn (by omega) (by omega) (by omega)).mono ?_
      rintro r w1 ⟨rfl, hA, hI, hk⟩
      have HA1 := Lib.hid hA; have HI1 := Lib.hid hI; have HK1 := Lib.hid (HK.out.trans hk)
      clear hA hI hk
      go_wp2_with fail
      go_roundw
      case rel => exact ⟨i, j - i, swr C (m - i) (m + j - i) i, i0, i1, by omega, by omega, ia, rfl, rfl, Lib.hid ((rot_step2 C m i j i1 hij).trans HR.out), HA1, HI1, HK1⟩
      case measure => simp [intOf]; omega
    · have b0 : ((i : Int) != (j : Int)) = false := by simp; omega
      have z0 : ((m : Int) - (i : Int)) = ((m - i : Nat) : Int) := by omega
      have HIJ := Lib.hid hij
      clear hij
      go_wp2_with fail
      refine (swapRange_any g n cap (m - i) m i C fv I HE.out _ HA.out HI2.out hn (by omega) (by have := HIJ.out; omega) (by omega)).mono ?_
      rintro r w1 ⟨rfl, hA, hI, hk⟩
      rw [rot_step3 C m i i1, HIJ.out] at hA
      have hr := HR.out
      rw [HIJ.out] at hr
      rw [hr] at hA
      have HA1 := Lib.hid hA; have HI1 := Lib.hid hI; have HK1 := Lib.hid (HK.out.trans hk)
      clear hA hI hk hr
      go_wp2_with fail
      go_end0
      exact ⟨rfl, HA1.out, HI1.out, HK1.out⟩
    · have b0 : ((i : Int) != (j : Int)) = true := by simp; omega
      have b1 : decide ((j : Int) < (i : Int)) = true := by simp; omega
      have b1' : decide (j < i) = true := by simp; omega
      have z0 : ((m : Int) - (i : Int)) = ((m - i : Nat) : Int) := by omega
      have z2 : ((i : Int) - (j : Int)) = ((i - j : Nat) : Int) := by omega
      go_wp2_with fail
      refine (swapRange_any g n cap (m - i) m j C fv I HE.out _ HA.out HI2.out hn (by omega) (by omega) (by omega)).mono ?_
      rintro r w1 ⟨rfl, hA, hI, hk⟩
      have HA1 := Lib.hid hA; have HI1 := Lib.hid hI; have HK1 := Lib.hid (HK.out.trans hk)
      clear hA hI hk
      go_wp2_with fail
      go_roundw
      case rel => exact ⟨i - j, j, swr C (m - i) m j, by omega, by omega, j0, j1, by omega, rfl, rfl, Lib.hid ((rot_step1 C m i j i1 hij).trans HR.out), HA1, HI1, HK1⟩
      case measure => simp [intOf]; omega
end Go.Proofs.YtjhhpcjnhjbpdaaGreat

/- Merging in plain Lean. -/
set_option linter.unusedSimpArgs false
set_option linter.unusedVariables false
namespace Go.Proofs.YtjhhpcjnhjbpdaaGreat
theorem Srt.join {T : Int → Int} {D : Nat → Int} {a k b : Nat} (h1 : Srt T D a k) (h2 : Srt T D k b) (h3 : ∀ i j, a ≤ i → i < k → k ≤ j → j < b → lexT T (D i) (D j)) : Srt T D a b := by
  intro i j hi hij hj
  by_cases hk : j < k
  · exact h1 i j hi hij hk
  · by_cases hk2 : i < k
    · exact h3 i j hi hk2 (by omega) hj
    · exact h2 i j (by omega) hij hj
theorem Srt.le {T : Int → Int} {D : Nat → Int} {a b : Nat} (h : Srt T D a b) {i j : Nat} (hi : a ≤ i) (hij : i ≤ j) (hj : j < b) {z : Int} (k : lexT T (D j) z) : lexT T (D i) z := by
  rcases Nat.lt_or_eq_of_le hij with e | e
  · exact (h i j hi e hj).trans k
  · rw [e]; exact k
theorem Srt.ge {T : Int → Int} {D : Nat → Int} {a b : Nat} (h : Srt T D a b) {i j : Nat} (hi : a ≤ i) (hij : i ≤ j) (hj : j < b) {z : Int} (k : lexT T z (D i)) : lexT T z (D j) := by
  rcases Nat.lt_or_eq_of_le hij with e | e
  · exact k.trans (h i j hi e hj)
  · rw [← e]; exact k
theorem rot_lo (D : Nat → Int) {s m e i : Nat} (h : i < s) : rot D s m e i = D i := by unfold rot; rw [if_neg (by omega), if_neg (by omega)]
theorem rot_hi (D : Nat → Int) {s m e i : Nat} (h1 : s ≤ m) (h2 : m ≤ e) (h : e ≤ i) : rot D s m e i = D i := by unfold rot; rw [if_neg (by omega), if_neg (by omega)]
theorem rot_a (D : Nat → Int) {s m e i : Nat} (h1 : s ≤ i) (h2 : i < s + (e - m)) : rot D s m e i = D (m + (i - s)) := by unfold rot; rw [if_pos ⟨h1, h2⟩]
theorem rot_b (D : Nat → Int) {s m e i : Nat} (h1 : s + (e - m) ≤ i) (h2 : i < e) : rot D s m e i = D (s + (i - (s + (e - m)))) := by unfold rot; rw [if_neg (by omega), if_pos ⟨h1, h2⟩]
section
variable {T : Int → Int} {D : Nat → Int} {a s m e b : Nat}
theorem rot_S1 (h : Srt T D a m) (hs : s ≤ m) : Srt T (rot D s m e) a s := fun i j hi hij hj => by rw [rot_lo D (by omega), rot_lo D hj]; exact h i j hi hij (by omega)
theorem rot_S2 (h : Srt T D m b) (he : e ≤ b) : Srt T (rot D s m e) s (s + (e - m)) := fun i j hi hij hj => by rw [rot_a D hi (by omega), rot_a D (by omega) hj]; exact h _ _ (by omega) (by omega) (by omega)
theorem rot_S3 (h : Srt T D a m) (hs : a ≤ s) (h1 : s ≤ m) (h2 : m ≤ e) : Srt T (rot D s m e) (s + (e - m)) e := fun i j hi hij hj => by rw [rot_b D hi (by omega), rot_b D (by omega) hj]; exact h _ _ (by omega) (by omega) (by omega)
theorem rot_S4 (h : Srt T D m b) (h1 : s ≤ m) (h2 : m ≤ e) : Srt T (rot D s m e) e b := fun i j hi hij hj => by rw [rot_hi D h1 h2 hi, rot_hi D h1 h2 (by omega)]; exact h i j (by omega) hij hj
theorem rot_cross (hl : Srt T D a m) (hr : Srt T D m b) (h0 : a ≤ s) (h1 : s ≤ m) (h2 : m ≤ e) (h3 : e ≤ b) (c1 : s = a ∨ e = b ∨ lexT T (D (s - 1)) (D e)) (c2 : s = m ∨ e = m ∨ lexT T (D (e - 1)) (D s)) :
    ∀ i j, a ≤ i → i < s + (e - m) → s + (e - m) ≤ j → j < b → lexT T (rot D s m e i) (rot D s m e j) := by
  intro i j hi hi2 hj hj2
  by_cases x : i < s
  · rw [rot_lo D x]
    by_cases y : j < e
    · rw [rot_b D hj y]; exact hl _ _ hi (by omega) (by omega)
    · rw [rot_hi D h1 h2 (by omega)]
      rcases c1 with c1 | c1 | c1
      · omega
      · omega
      · exact hl.le hi (show i ≤ s - 1 by omega) (by omega) (hr.ge h2 (by omega) hj2 c1)
  · rw [rot_a D (by omega) hi2]
    by_cases y : j < e
    · rw [rot_b D hj y]
      rcases c2 with c2 | c2 | c2
      · omega
      · omega
      · exact hr.le (by omega) (show m + (i - s) ≤ e - 1 by omega) (by omega) (hl.ge h0 (by omega) (by omega) c2)
    · rw [rot_hi D h1 h2 (by omega)]; exact hr _ _ (by omega) (by omega) hj2
/-- one number put into its place, forward -/
theorem ins1_srt (hr : Srt T D (a + 1) b) (h1 : a + 1 ≤ e) (h2 : e ≤ b) (c1 : e = a + 1 ∨ lexT T (D (e - 1)) (D a)) (c2 : e = b ∨ lexT T (D a) (D e)) : Srt T (rot D a (a + 1) e) a b := by
  have hl : Srt T D a (a + 1) := fun i j _ _ _ => by omega
  refine Srt.join (k := a + (e - (a + 1))) (rot_S2 hr h2) (Srt.join (k := e) (rot_S3 hl (Nat.le_refl _) (by omega) h1) (rot_S4 hr (by omega) h1) ?_) (rot_cross hl hr (Nat.le_refl _) (by omega) h1 h2 (.inl rfl) (by rcases c1 with c | c; exact .inr (.inl c); exact .inr (.inr c)))
  intro i j hi hi2 hj hj2
  rw [rot_b D hi hi2, rot_hi D (by omega) h1 hj, show a + (i - (a + (e - (a + 1)))) = a by omega]
  rcases c2 with c2 | c2
  · omega
  · exact hr.ge h1 hj hj2 c2
/-- one number put into its place, backward -/
theorem ins2_srt (hl : Srt T D a m) (h0 : a ≤ s) (h1 : s ≤ m) (c1 : s = a ∨ lexT T (D (s - 1)) (D m)) (c2 : s = m ∨ lexT T (D m) (D s)) : Srt T (rot D s m (m + 1)) a (m + 1) := by
  have hr : Srt T D m (m + 1) := fun i j _ _ _ => by omega
  refine Srt.join (k := s + (m + 1 - m)) (Srt.join (k := s) (rot_S1 hl h1) (rot_S2 hr (Nat.le_refl _)) ?_) (Srt.join (k := m + 1) (rot_S3 hl h0 h1 (by omega)) (fun i j hi hij hj => by omega) (fun i j hi hi2 hj hj2 => by omega)) (rot_cross hl hr h0 h1 (by omega) (Nat.le_refl _) (.inr (.inl rfl)) (by rcases c2 with c | c; exact .inl c; exact .inr (.inr c)))
  intro i j hi hi2 hj hj2
  rw [rot_lo D hi2, rot_a D hj hj2, show m + (j - s) = m by omega]
  rcases c1 with c1 | c1
  · omega
  · exact hl.le hi (show i ≤ s - 1 by omega) (by omega) c1
theorem rot_ins1 (D : Nat → Int) {a k : Nat} (h : a ≤ k) : swp (rot D a (a + 1) (k + 1)) k (k + 1) = rot D a (a + 1) (k + 1 + 1) := by
  funext t
  unfold swp
  by_cases h1 : t = k
  · rw [if_pos h1, rot_hi D (by omega) (by omega) (Nat.le_refl _), rot_a D (by omega) (by omega)]
    congr 1; omega
  · rw [if_neg h1]
    by_cases h2 : t = k + 1
    · rw [if_pos h2, rot_b D (by omega) (by omega), rot_b D (by omega) (by omega)]
      congr 1; omega
    · rw [if_neg h2]
      by_cases h3 : t < a
      · rw [rot_lo D h3, rot_lo D h3]
      · by_cases h4 : t < k
        · rw [rot_a D (by omega) (by omega), rot_a D (by omega) (by omega)]
        · rw [rot_hi D (by omega) (by omega) (by omega), rot_hi D (by omega) (by omega) (by omega)]
theorem rot_ins2 (D : Nat → Int) {k m : Nat} (h : k + 1 ≤ m) : swp (rot D (k + 1) m (m + 1)) (k + 1) k = rot D k m (m + 1) := by
  funext t
  unfold swp
  by_cases h1 : t = k + 1
  · rw [if_pos h1, rot_lo D (by omega), rot_b D (by omega) (by omega)]
    congr 1; omega
  · rw [if_neg h1]
    by_cases h2 : t = k
    · rw [if_pos h2, rot_a D (by omega) (by omega), rot_a D (by omega) (by omega)]
      congr 1; omega
    · rw [if_neg h2]
      by_cases h3 : t < k
      · rw [rot_lo D h3, rot_lo D (by omega)]
      · by_cases h4 : t < m + 1
        · rw [rot_b D (by omega) (by omega), rot_b D (by omega) (by omega)]
          congr 1; omega
        · rw [rot_hi D (by omega) (by omega) (by omega), rot_hi D (by omega) (by omega) (by omega)]
/-- what was sorted twice over -/
theorem srt_same {D E : Nat → Int} {a k b : Nat} (_hak : a ≤ k) (_hkb : k ≤ b) (s1 : Sam D E a b) (h1 : Srt T E a k) (h2 : Srt T E k b) (i1 : ∀ i, a ≤ i → i < k → Img D a k (E i)) (i2 : ∀ i, k ≤ i → i < b → Img D k b (E i)) (hc : ∀ i j, a ≤ i → i < k → k ≤ j → j < b → lexT T (D i) (D j)) : Srt T E a b := by
  refine h1.join h2 ?_
  intro i j hi hi2 hj hj2
  obtain ⟨p, p1, p2, p3⟩ := i1 i hi hi2
  obtain ⟨q, q1, q2, q3⟩ := i2 j hj hj2
  rw [← p3, ← q3]
  exact hc p q p1 p2 q1 q2
end
/-- the three numbers that a comparison gives -/
def cmp3 (a b : Int) : Int := if a < b then -1 else if b < a then 1 else 0
theorem cmp3_lt {a b : Int} (h : a < b) : decide (cmp3 a b < 0) = true := by unfold cmp3; rw [if_pos h]; rfl
theorem cmp3_ge {a b : Int} (h : b ≤ a) : decide (cmp3 a b < 0) = false := by unfold cmp3; rw [if_neg (by omega)]; split <;> rfl
/-- left of right by number: the order is T's alone -/
theorem lex_right {T : Int → Int} {x y : Int} (h : x < y) : lexT T y x ↔ T y < T x := by unfold lexT; omega
theorem lex_left {T : Int → Int} {x y : Int} (h : x < y) : lexT T x y ↔ ¬ T y < T x := by unfold lexT; omega
end Go.Proofs.YtjhhpcjnhjbpdaaGreat

/- The library's stable sort: two sorted ranges are merged. -/
set_option linter.unusedSimpArgs false
set_option linter.unusedVariables false
namespace Go.Proofs.YtjhhpcjnhjbpdaaGreat
open Go.RowKit
/-- the closure compares by T -/
structure Cmp (bx : Nat) (T : Int → Int) (S : Int → Prop) (I : World → Prop) : Prop where
  call : ∀ W x y, I W → S x → S y → Calls Tryz.prog 29 #[.int .i64 x, .int .i64 y, .pointer (some ⟨bx, 0, none⟩)] W fun e w' => e = .returned (.int .i64 (cmp3 (T x) (T y))) ∧ ∃ q, w' = W.drewN q
/-- what a merge leaves -/
def Mgd (T : Int → Int) (g n cap : Nat) (D : Nat → Int) (a b : Nat) (I : World → Prop) (w : World) (e : Ending) (w' : World) : Prop := ∃ E, e = .returned (.tuple #[]) ∧ Arr w' g n cap E ∧ Sam D E a b ∧ Srt T E a b ∧ I w' ∧ Keeps (· = g) w w'
set_option pp.deepTerms true in
set_option pp.maxSteps 100000 in
set_option maxRecDepth 100000 in
set_option maxHeartbeats 4000000 in
theorem merge1_any (g n cap a m b bx : Nat) (D : Nat → Int) (T : Int → Int) (S : Int → Prop) (I : World → Prop) (hE : Env g I) (hC : Cmp bx T S I) (w : World) (h : Arr w g n cap D) (hI : I w) (hn : n ≤ 1000000) (h1 : a + 1 = m) (h2 : m < b) (h3 : b ≤ n)
    (hr : Srt T D m b) (hlr : ∀ j, m ≤ j → j < b → D a < D j) (hS : ∀ i, a ≤ i → i < b → S (D i)) :
    Calls Tryz.prog 62 #[.slice (some ⟨g, 0, none⟩) n cap, .int .i64 a, .int .i64 m, .int .i64 b, .func (.func 29) #[] #[.pointer (some ⟨bx, 0, none⟩)]] w (Mgd T g n cap D a b I w) := by
  have H0 := Lib.hid h; have HI := Lib.hid hI; have HE := Lib.hid hE; have HC := Lib.hid hC; have HR := Lib.hid hr; have HLR := Lib.hid hlr; have HS := Lib.hid hS; have H1 := Lib.hid h1
  have z0 : (m : Int) - (a : Int) = 1 := by omega
  have h1' : a < m := by omega
  clear h hI hE hC hr hlr hS h1
  go_enter Tryz.func62, Tryz.ntmps62
  go_wp2_with fail
  go_loopw [10, 11] (fun si sj wr => ∃ i j : Nat, m ≤ i ∧ i ≤ j ∧ j ≤ b ∧ si = .int .i64 i ∧ sj = .int .i64 j ∧ Hid (i = m ∨ lexT T (D (i - 1)) (D a)) ∧ Hid (j = b ∨ lexT T (D a) (D j)) ∧ Hid (Arr wr g n cap D) ∧ Hid (I wr) ∧ Hid (Keeps (· = g) w wr)) (fun si sj _ => (intOf sj).toNat - (intOf si).toNat)
  case atStart => exact ⟨m, b, Nat.le_refl _, by omega, Nat.le_refl _, rfl, rfl, Lib.hid (.inl rfl), Lib.hid (.inl rfl), H0, HI, Lib.hid (Keeps.refl _ _)⟩
  case round =>
    obtain ⟨i, j, i0, i1, i2, rfl, rfl, C1, C2, HA, HI2, HK⟩ := hrel
    by_cases hlt : i < j
    · have hd : decide ((i : Int) < (j : Int)) = true := by simp; omega
      obtain ⟨h, hh⟩ : ∃ h : Nat, ((i : Int) + (j : Int)) / 2 = (h : Int) := ⟨(i + j) / 2, by omega⟩
      have u0 : i ≤ h := by omega
      have u1 : h < j := by omega
      obtain ⟨x, hx⟩ : ∃ x, D h = x := ⟨_, rfl⟩
      obtain ⟨y, hy⟩ : ∃ y, D a = y := ⟨_, rfl⟩
      have c0 := HA.out.cell (i := h) (by omega); have c1 := HA.out.cell (i := a) (by omega)
      have sx := HS.out h (by omega) (by omega); have sy := HS.out a (by omega) (by omega)
      have hxy := HLR.out h (by omega) (by omega)
      rw [hx] at c0 sx hxy; rw [hy] at c1 sy hxy
      have HX := Lib.hid hx; have HY := Lib.hid hy
      have g0 : (h : Int) < (n : Int) := by omega
      have g1 : (a : Int) < (n : Int) := by omega
      clear hx hy
      by_cases hc : T x < T y
      · have hd2 := cmp3_lt hc
        have CN := Lib.hid (show h + 1 = m ∨ lexT T (D (h + 1 - 1)) (D a) from .inr (by rw [Nat.add_sub_cancel, HX.out, HY.out]; exact (lex_right hxy).2 hc))
        clear hc hxy
        go_wp2_with fail
        go_quiet ((go_at_call 29; with_reducible exact Calls.quiet_of (HC.out.call _ x y (HE.out.drewN _ _ HI2.out) sx sy)))
        go_wp2_with fail
        go_roundw
        case rel => exact ⟨h + 1, j, by omega, by omega, i2, by go_num, rfl, CN, C2, Lib.hid (HA.out.drewN _), Lib.hid (HE.out.drewN _ _ HI2.out), Lib.hid (HK.out.drewN _)⟩
        case measure => simp [intOf]; omega
      · have hd2 := cmp3_ge (a := T x) (b := T y) (by omega)
        have CN := Lib.hid (show h = b ∨ lexT T (D a) (D h) from .inr (by rw [HX.out, HY.out]; exact (lex_left hxy).2 hc))
        clear hc hxy
        go_wp2_with fail
        go_quiet ((go_at_call 29; with_reducible exact Calls.quiet_of (HC.out.call _ x y (HE.out.drewN _ _ HI2.out) sx sy)))
        go_wp2_with fail
        go_roundw
        case rel => exact ⟨i, h, i0, u0, by omega, rfl, rfl, C1, CN, Lib.hid (HA.out.drewN _), Lib.hid (HE.out.drewN _ _ HI2.out), Lib.hid (HK.out.drewN _)⟩
        case measure => simp [intOf]; omega
    · have hd : decide ((i : Int) < (j : Int)) = false := by simp; omega
      have hij : j = i := by omega
      subst hij
      have HSRT := Lib.hid (ins1_srt (e := j) (show Srt T D (a + 1) b by rw [H1.out]; exact HR.out) (by omega) i2 (by rcases C1.out with c | c; exact .inl (by omega); exact .inr c) C2.out)
      have hjm : ((j : Int) - 1) = ((j - 1 : Nat) : Int) := by omega
      clear C1 C2 hlt
      obtain ⟨wo, rfl⟩ : ∃ wo, wo = wr := ⟨_, rfl⟩
      go_wp2_with fail
      go_loopw [13] (fun sk wr => ∃ k : Nat, a ≤ k ∧ k ≤ j - 1 ∧ sk = .int .i64 k ∧ Hid (Arr wr g n cap (rot D a (a + 1) (k + 1))) ∧ Hid (I wr) ∧ Hid (Keeps (· = g) w wr)) (fun sk _ => j - (intOf sk).toNat)
      case atStart => exact ⟨a, Nat.le_refl _, by omega, rfl, Lib.hid (by rw [rot_right D a (a + 1) (Nat.le_succ _)]; exact HA.out), HI2, HK⟩
      case round =>
        obtain ⟨k, k0, k1, rfl, HA, HI2, HK⟩ := hrel
        obtain ⟨wq, rfl⟩ : ∃ wq, wq = wr := ⟨_, rfl⟩
        by_cases hk : k < j - 1
        · have hdk : decide ((k : Int) < ((j - 1 : Nat) : Int)) = true := by simp; omega
          have hdk' : decide (k < j - 1) = true := by simp; omega
          obtain ⟨x, hx⟩ : ∃ x, rot D a (a + 1) (k + 1) k = x := ⟨_, rfl⟩
          obtain ⟨y, hy⟩ : ∃ y, rot D a (a + 1) (k + 1) (k + 1) = y := ⟨_, rfl⟩
          have c0 := HA.out.cell (i := k) (by omega); have c1 := HA.out.cell (i := k + 1) (by omega)
          have f0 := HA.out.frozen k; have f1 := HA.out.frozen (k + 1)
          have gl := HA.out.lt
          rw [hx] at c0; rw [hy] at c1
          have HX := Lib.hid hx; have HY := Lib.hid hy
          clear hx hy
          have t0 : ((k : Int) + 1).toNat = k + 1 := by omega
          have t2 : (0 : Int) ≤ (k : Int) + 1 := by omega
          have t4 : IntKind.i64.wrap ((k : Int) + 1) = (k : Int) + 1 := IntWalk.i64_in _ (by omega)
          have t6 : (k : Int) + 1 < (n : Int) := by omega
          have t7 : (k : Int) < (n : Int) := by omega
          go_wp2_with fail
          go_region_with (fail)
          all_goals
            go_wp2_with fail
            go_roundw
            case rel => exact ⟨k + 1, by omega, by omega, by go_num, Lib.hid (by rw [← rot_ins1 D k0]; exact HA.out.swap HX.out HY.out), Lib.hid (HE.out.swap HI2.out _ _ _ _), Lib.hid (keeps_swap HK.out _ _ _ _)⟩
            case measure => simp [intOf]; omega
        · have hdk : decide ((k : Int) < ((j - 1 : Nat) : Int)) = false := by simp; omega
          have hdk' : decide (k < j - 1) = false := by simp; omega
          have hkj : k + 1 = j := by omega
          have HA1 := HA.out
          rw [hkj] at HA1
          have HA2 := Lib.hid HA1
          clear HA1 hkj
          go_wp2_with fail
          go_end0
          exact ⟨_, rfl, HA2.out, (rot_same D (Nat.le_succ _) (by omega)).sub (Nat.le_refl _) i2, HSRT.out, HI2.out, HK.out⟩
end Go.Proofs.YtjhhpcjnhjbpdaaGreat

/- The library's stable sort: merge, one to the right. -/
set_option linter.unusedSimpArgs false
set_option linter.unusedVariables false
namespace Go.Proofs.YtjhhpcjnhjbpdaaGreat
open Go.RowKit
set_option maxRecDepth 100000 in
set_option maxHeartbeats 4000000 in
theorem merge2_any (g n cap a m b bx : Nat) (D : Nat → Int) (T : Int → Int) (S : Int → Prop) (I : World → Prop) (hE : Env g I) (hC : Cmp bx T S I) (w : World) (h : Arr w g n cap D) (hI : I w) (hn : n ≤ 1000000) (h1 : a + 1 < m) (h2 : m + 1 = b) (h3 : b ≤ n)
    (hl : Srt T D a m) (hlr : ∀ i, a ≤ i → i < m → D i < D m) (hS : ∀ i, a ≤ i → i < b → S (D i)) :
    Calls Tryz.prog 62 #[.slice (some ⟨g, 0, none⟩) n cap, .int .i64 a, .int .i64 m, .int .i64 b, .func (.func 29) #[] #[.pointer (some ⟨bx, 0, none⟩)]] w (Mgd T g n cap D a b I w) := by
  have H0 := Lib.hid h; have HI := Lib.hid hI; have HE := Lib.hid hE; have HC := Lib.hid hC; have HL := Lib.hid hl; have HLR := Lib.hid hlr; have HS := Lib.hid hS; have H2 := Lib.hid h2
  have z0 : ((m : Int) - (a : Int)) = ((m - a : Nat) : Int) := by omega
  have z1 : (((m - a : Nat) : Int) == 1) = false := by simp; omega
  have z1' : ((m - a) == 1) = false := by simp; omega
  have z2 : (b : Int) - (m : Int) = 1 := by omega
  have h2' : m < b := by omega
  clear h hI hE hC hl hlr hS h2
  go_enter Tryz.func62, Tryz.ntmps62
  go_wp2_with fail
  go_loopw [14, 15] (fun si sj wr => ∃ i j : Nat, a ≤ i ∧ i ≤ j ∧ j ≤ m ∧ si = .int .i64 i ∧ sj = .int .i64 j ∧ Hid (i = a ∨ lexT T (D (i - 1)) (D m)) ∧ Hid (j = m ∨ lexT T (D m) (D j)) ∧ Hid (Arr wr g n cap D) ∧ Hid (I wr) ∧ Hid (Keeps (· = g) w wr)) (fun si sj _ => (intOf sj).toNat - (intOf si).toNat)
  case atStart => exact ⟨a, m, Nat.le_refl _, by omega, Nat.le_refl _, rfl, rfl, Lib.hid (.inl rfl), Lib.hid (.inl rfl), H0, HI, Lib.hid (Keeps.refl _ _)⟩
  case round =>
    obtain ⟨i, j, i0, i1, i2, rfl, rfl, C1, C2, HA, HI2, HK⟩ := hrel
    by_cases hlt : i < j
    · have hd : decide ((i : Int) < (j : Int)) = true := by simp; omega
      obtain ⟨h, hh⟩ : ∃ h : Nat, ((i : Int) + (j : Int)) / 2 = (h : Int) := ⟨(i + j) / 2, by omega⟩
      have u0 : i ≤ h := by omega
      have u1 : h < j := by omega
      obtain ⟨x, hx⟩ : ∃ x, D h = x := ⟨_, rfl⟩
      obtain ⟨y, hy⟩ : ∃ y, D m = y := ⟨_, rfl⟩
      have c0 := HA.out.cell (i := h) (by omega); have c1 := HA.out.cell (i := m) (by omega)
      have sx := HS.out h (by omega) (by omega); have sy := HS.out m (by omega) (by omega)
      have hxy := HLR.out h (by omega) (by omega)
      rw [hx] at c0 sx hxy; rw [hy] at c1 sy hxy
      have HX := Lib.hid hx; have HY := Lib.hid hy
      have g0 : (h : Int) < (n : Int) := by omega
      have g1 : (m : Int) < (n : Int) := by omega
      clear hx hy
      by_cases hc : T y < T x
      · have hd2 := cmp3_lt hc
        have CN := Lib.hid (show h = m ∨ lexT T (D m) (D h) from .inr (by rw [HX.out, HY.out]; exact (lex_right hxy).2 hc))
        clear hc hxy
        go_wp2_with fail
        go_quiet ((go_at_call 29; with_reducible exact Calls.quiet_of (HC.out.call _ y x (HE.out.drewN _ _ HI2.out) sy sx)))
        go_wp2_with fail
        go_roundw
        case rel => exact ⟨i, h, i0, u0, by omega, rfl, rfl, C1, CN, Lib.hid (HA.out.drewN _), Lib.hid (HE.out.drewN _ _ HI2.out), Lib.hid (HK.out.drewN _)⟩
        case measure => simp [intOf]; omega
      · have hd2 := cmp3_ge (a := T y) (b := T x) (by omega)
        have CN := Lib.hid (show h + 1 = a ∨ lexT T (D (h + 1 - 1)) (D m) from .inr (by rw [Nat.add_sub_cancel, HX.out, HY.out]; exact (lex_left hxy).2 hc))
        clear hc hxy
        go_wp2_with fail
        go_quiet ((go_at_call 29; with_reducible exact Calls.quiet_of (HC.out.call _ y x (HE.out.drewN _ _ HI2.out) sy sx)))
        go_wp2_with fail
        go_roundw
        case rel => exact ⟨h + 1, j, by omega, by omega, i2, by go_num, rfl, CN, C2, Lib.hid (HA.out.drewN _), Lib.hid (HE.out.drewN _ _ HI2.out), Lib.hid (HK.out.drewN _)⟩
        case measure => simp [intOf]; omega
    · have hd : decide ((i : Int) < (j : Int)) = false := by simp; omega
      have hij : j = i := by omega
      subst hij
      have HSRT := Lib.hid (show Srt T (rot D j m b) a b by rw [← H2.out]; exact ins2_srt (s := j) HL.out i0 i2 C1.out C2.out)
      have HSAM := Lib.hid (show Sam D (rot D j m b) a b from (rot_same D i2 (Nat.le_of_lt h2')).sub i0 (Nat.le_refl _))
      clear C1 C2 hlt
      obtain ⟨wo, rfl⟩ : ∃ wo, wo = wr := ⟨_, rfl⟩
      go_wp2_with fail
      go_loopw [17] (fun sk wr => ∃ k : Nat, j ≤ k ∧ k ≤ m ∧ sk = .int .i64 k ∧ Hid (Arr wr g n cap (rot D k m b)) ∧ Hid (I wr) ∧ Hid (Keeps (· = g) w wr)) (fun sk _ => (intOf sk).toNat)
      case atStart => exact ⟨m, i2, Nat.le_refl _, rfl, Lib.hid (by rw [rot_left]; exact HA.out), HI2, HK⟩
      case round =>
        obtain ⟨k, k0, k1, rfl, HA, HI2, HK⟩ := hrel
        obtain ⟨wq, rfl⟩ : ∃ wq, wq = wr := ⟨_, rfl⟩
        by_cases hk : j < k
        · have hdk : decide ((j : Int) < (k : Int)) = true := by simp; omega
          have hdk' : decide (j < k) = true := by simp; omega
          obtain ⟨q, hq⟩ : ∃ q, k = q + 1 := ⟨k - 1, by omega⟩
          have HQ := Lib.hid hq
          have HA1 := HA.out
          obtain ⟨x, hx⟩ : ∃ x, rot D k m b k = x := ⟨_, rfl⟩
          obtain ⟨y, hy⟩ : ∃ y, rot D k m b q = y := ⟨_, rfl⟩
          have c0 := HA1.cell (i := k) (by omega); have c1 := HA1.cell (i := q) (by omega)
          have f0 := HA1.frozen k; have f1 := HA1.frozen q
          have gl := HA1.lt
          rw [hx] at c0; rw [hy] at c1
          have HX := Lib.hid hx; have HY := Lib.hid hy
          have t0 : ((k : Int) - 1) = (q : Int) := by omega
          have t4 : IntKind.i64.wrap (q : Int) = (q : Int) := IntWalk.i64_in _ (by omega)
          have t5 : IntKind.i64.wrap ((k : Int) - 1) = (q : Int) := by rw [t0]; exact t4
          have t6 : (q : Int) < (n : Int) := by omega
          have t7 : (k : Int) < (n : Int) := by omega
          have t8 : q < k := by omega
          clear hx hy hq HA1
          go_wp2_with fail
          go_region_with (fail)
          all_goals
            go_wp2_with fail
            go_roundw
            case rel =>
              have hq := HQ.out
              have hx := HX.out; have hy := HY.out
              have hs := HA.out.swap hx hy
              refine ⟨q, by omega, by omega, rfl, Lib.hid ?_, Lib.hid (HE.out.swap HI2.out _ _ _ _), Lib.hid (keeps_swap HK.out _ _ _ _)⟩
              have e : swp (rot D k m b) k q = rot D q m b := by rw [hq, ← H2.out]; exact rot_ins2 D (by omega)
              rw [← e]
              exact hs
            case measure => simp [intOf]; omega
        · have hdk : decide ((j : Int) < (k : Int)) = false := by simp; omega
          have hdk' : decide (j < k) = false := by simp; omega
          have hkj : j = k := by omega
          subst hkj
          go_wp2_with fail
          go_end0
          exact ⟨_, rfl, HA.out, HSAM.out, HSRT.out, HI2.out, HK.out⟩
end Go.Proofs.YtjhhpcjnhjbpdaaGreat
