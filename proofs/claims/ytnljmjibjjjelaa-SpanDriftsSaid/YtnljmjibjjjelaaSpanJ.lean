/- Contracts of the span package's functions: Join. -/
import Derived.Test.YtnljmjibjjjelaaSpanB
import Derived.Test.YtnljmjibjjjelaaOpen05
import Derived.Test.YtnljmjibjjjelaaWords
import Derived.Test.YtnljmjibjjjelaaStampI
import Derived.LoopTactic
set_option linter.unusedSimpArgs false
set_option linter.unusedVariables false
namespace Go.Proofs.Ytnljmjibjjjelaa
open Go.RowKit Mo
theorem via_blk {P : Program} {W : World} {α : Type} {prog : Sem α} {v : α} {g : Nat} {T : TypeId} {cs : Array Value} (B : Blk W g T cs) (h : ∀ W', Blk W' g T cs → Sem.run P prog W' = .ok v W') : Sem.run P prog W = .ok v W := h W B
theorem blk_set2 {w : World} {g : Nat} {T : TypeId} {a b u v : Value} (h : Blk w g T #[a, b]) : Blk ((w.setCell ⟨g, 0, none⟩ u).setCell ⟨g, 1, none⟩ v) g T #[u, v] := (h.set_ 0 u).set_ 1 v
def sOk (x : VSpan) : Bool := isS x.lo x.hi
def lowS : Int → List VSpan → Int | m, [] => m | m, x :: l => lowS (min m x.lo) l
def highS : Int → List VSpan → Int | m, [] => m | m, x :: l => highS (max m x.hi) l
theorem lowS_take (m : Int) (l : List VSpan) (k : Nat) (h : k < l.length) : lowS m (l.take (k + 1)) = min (lowS m (l.take k)) l[k].lo := by
  induction l generalizing m k with
  | nil => simp at h
  | cons x l ih =>
    cases k with
    | zero => simp [lowS]
    | succ k => simpa [lowS] using ih (min m x.lo) k (by simpa using h)
theorem highS_take (m : Int) (l : List VSpan) (k : Nat) (h : k < l.length) : highS m (l.take (k + 1)) = max (highS m (l.take k)) l[k].hi := by
  induction l generalizing m k with
  | nil => simp at h
  | cons x l ih =>
    cases k with
    | zero => simp [highS]
    | succ k => simpa [highS] using ih (max m x.hi) k (by simpa using h)
def joinOk (xs : List VSpan) : Bool := !xs.isEmpty && xs.all sOk
def joinLo : List VSpan → Int | [] => 0 | x :: l => if joinOk (x :: l) then lowS x.lo (x :: l) else 0
def joinHi : List VSpan → Int | [] => 0 | x :: l => if joinOk (x :: l) then highS x.hi (x :: l) else 0
set_option maxHeartbeats 1000000 in
theorem join_any (w : World) (A : Option Addr) (c : Nat) (xs : List VSpan) (hr : Reads w w.heap.size 2 A xs.length (xs.flatMap VSpan.cells)) (hm : xs.length ≤ 9223372036854775807) (hx : ∀ u ∈ xs, u.ok w) :
    Calls Try.prog 25 #[.slice A xs.length c] w fun e w' => e = .returned (.tuple #[.agg #[.int .i64 (joinLo xs), .int .i64 (joinHi xs)], .bool (joinOk xs)]) ∧ Below w.heap.size w w' := by
  cases xs with
  | nil =>
    go_enter Try.func25, Try.ntmps25
    go_wp2
    refine bodyPost_ret (v := .tuple #[.agg #[.int .i64 0, .int .i64 0], .bool false]) (by simp [results, Try.results25, go_sem]) rfl ⟨?_, ?_⟩
    · rfl
    · repeat (first | exact Below.refl _ _ | refine below_alloc_ ?_ _ | refine Below.drew ?_)
  | cons x0 l =>
    obtain ⟨xs, hxs⟩ : ∃ xs, xs = x0 :: l := ⟨_, rfl⟩
    have hn : 0 < xs.length := by rw [hxs]; simp
    have h00 : xs[0] = x0 := by subst hxs; rfl
    rw [← hxs] at hr hm hx ⊢
    have HX := Lib.hid hxs; have HXX := Lib.hid hx; clear hxs hx
    have HR := Lib.hid hr; clear hr
    have hn0 : ((xs.length : Int) == 0) = false := beq_eq_false_iff_ne.2 (by omega)
    obtain ⟨ad, hA, hadb, hcell⟩ := HR.out.2 hn
    subst hA
    have ead : ad.add 0 = ad := by cases ad; simp [Addr.add]
    have q := fun j (hj : j < 2) => (hcell (0 * 2 + j) _ ((flatMap_at xs VSpan.cells 2 (fun _ => rfl) 0 j hn hj).trans (List.getElem?_eq_getElem (by exact hj))))
    have q0 := q 0 (by decide); have q1 := q 1 (by decide)
    simp only [VSpan.cells, List.getElem_cons_zero, List.getElem_cons_succ, Nat.add_zero, Nat.zero_mul, h00] at q0 q1
    replace q1 := cell_in 0 1 (by decide) q1
    rw [ead] at q0 q1
    clear q hcell ead
    obtain ⟨a0, b0⟩ := x0
    simp only at q0 q1
    go_enter Try.func25, Try.ntmps25
    go_wp2_with fail
    go_loopw [16] (fun i wr => ∃ (k : Nat) (lo hi : Int), k ≤ xs.length ∧ i = .int .i64 k ∧ Hid (lowS a0 (xs.take k) = lo ∧ highS b0 (xs.take k) = hi ∧ (xs.take k).all sOk = true) ∧ Blk wr w.heap.size 23 #[.int .i64 0, .int .i64 0] ∧ Blk wr (w.heap.size + 1) 23 #[.int .i64 lo, .int .i64 hi] ∧ Keeps (fun _ => False) w wr) (fun i _ => xs.length - (intOf i).toNat)
    case atStart =>
      exact ⟨0, a0, b0, Nat.zero_le _, rfl, ⟨by simp [lowS], by simp [highS], by simp⟩, (Blk.new w _ _).alloc _, Blk.new' (by simp), (Keeps.refl _ w).alloc _ |>.alloc _⟩
    case round =>
      obtain ⟨k, lo, hi, hk, rfl, HI, hz, ho, hkp⟩ := hrel
      have K := Lib.hid hkp
      have hg := hz.lt
      have hg1 := ho.lt
      clear q0 q1
      obtain ⟨y0, y1⟩ := ho.c2
      obtain ⟨z0, z1⟩ := hz.c2
      have f0 := ho.frozen 0; have f1 := ho.frozen 1
      have f2 := hz.frozen 0; have f3 := hz.frozen 1
      have HO := Lib.hid ho; have HZ := Lib.hid hz
      clear hz ho hkp
      by_cases hlt : k < xs.length
      · have hd : decide ((k : Int) < xs.length) = true := by simp; omega
        obtain ⟨ad', hA, hadb', hcell⟩ := (HR.out.keeps K.out (Nat.le_refl _) (fun _ _ h => h)).2 hn
        obtain rfl : ad = ad' := by injection hA
        have q := fun j (hj : j < 2) => (hcell (k * 2 + j) _ ((flatMap_at xs VSpan.cells 2 (fun _ => rfl) k j hlt hj).trans (List.getElem?_eq_getElem (by exact hj))))
        have q0 := q 0 (by decide); have q1 := q 1 (by decide)
        simp only [VSpan.cells, List.getElem_cons_zero, List.getElem_cons_succ, Nat.add_zero] at q0 q1
        replace q1 := cell_in _ 1 (by decide) q1
        clear q hcell hA hadb'
        have hl9 := lowS_take a0 xs k hlt
        have hh9 := highS_take b0 xs k hlt
        have hs9 : (xs.take (k + 1)).all sOk = ((xs.take k).all sOk && sOk xs[k]) := by rw [List.take_succ_eq_append_getElem hlt, List.all_append]; simp
        have hmem := List.getElem_mem hlt
        have hok := HXX.out xs[k] hmem
        rw [HI.out.1] at hl9; rw [HI.out.2.1] at hh9; rw [HI.out.2.2] at hs9
        generalize xs[k] = x at *
        obtain ⟨xl, xh⟩ := x
        simp only at q0 q1 hl9 hh9
        have hw1 := i64_wf hok.1; have hw2 := i64_wf hok.2
        simp only at hw1 hw2
        clear hok
        have HL9 := Lib.hid hl9; have HH9 := Lib.hid hh9; have HS9 := Lib.hid hs9; have HM := Lib.hid hmem; clear hl9 hh9 hs9 hmem
        obtain ⟨g, hgs⟩ : ∃ g, isS xl xh = g := ⟨_, rfl⟩
        have HG := Lib.hid hgs; clear hgs
        cases g
        · go_wp2_with (go_at_call 16; refine (check_any _ _ _).mono ?_; rintro e w1 ⟨rfl, rfl⟩; rw [HG.out])
          have hj : joinOk xs = false := by
            unfold joinOk
            have : xs.all sOk = false := by rw [← Bool.not_eq_true, List.all_eq_true]; intro h; have := h _ HM.out; unfold sOk at this; rw [HG.out] at this; exact Bool.noConfusion this
            rw [this, Bool.and_false]
          have hjl : joinLo xs = 0 := by rw [HX.out] at hj ⊢; show (if joinOk _ = true then _ else _) = _; rw [hj]; rfl
          have hjh : joinHi xs = 0 := by rw [HX.out] at hj ⊢; show (if joinOk _ = true then _ else _) = _; rw [hj]; rfl
          rw [hj, hjl, hjh]
          refine bodyPost_ret (v := .tuple #[.agg #[.int .i64 0, .int .i64 0], .bool false]) (via_blk (g := w.heap.size) (T := 23) (cs := #[.int .i64 0, .int .i64 0]) (by repeat (first | exact Hid.out (by assumption) | refine Blk.alloc ?_ _ | refine Blk.far ?_ (Nat.ne_of_lt (Nat.lt_succ_self _)) _ | refine Blk.far ?_ (Nat.ne_of_gt (Nat.lt_succ_self _)) _ | exact blk_set2 (Hid.out (by assumption)))) (fun W' hB => by obtain ⟨c0, c1⟩ := hB.c2; simp [results, Try.results25, go_sem, c0, c1])) rfl ⟨?_, ?_⟩
          · rfl
          · exact Keeps.below (by repeat (first | assumption | refine Keeps.alloc ?_ _ | refine Keeps.set_ ?_ (Or.inr (Nat.le_refl _)) _ | refine Keeps.set_ ?_ (Or.inr (Nat.le_succ _)) _ | exact Hid.out (by assumption)))
        · by_cases he : xl = lo ∧ xh = hi
          · obtain ⟨rfl, rfl⟩ := he
            go_wp2_with (go_at_call 16; refine (check_any _ _ _).mono ?_; rintro e w1 ⟨rfl, rfl⟩; rw [HG.out])
            go_roundw
            case rel => exact ⟨k + 1, xl, xh, by omega, by go_num, ⟨HL9.out.trans (by omega), HH9.out.trans (by omega), HS9.out.trans (by unfold sOk; rw [HG.out]; rfl)⟩, by repeat (first | exact Hid.out (by assumption) | refine Blk.alloc ?_ _ | refine Blk.far ?_ (Nat.ne_of_lt (Nat.lt_succ_self _)) _ | refine Blk.far ?_ (Nat.ne_of_gt (Nat.lt_succ_self _)) _ | exact blk_set2 (Hid.out (by assumption))), by repeat (first | exact Hid.out (by assumption) | refine Blk.alloc ?_ _ | refine Blk.far ?_ (Nat.ne_of_lt (Nat.lt_succ_self _)) _ | refine Blk.far ?_ (Nat.ne_of_gt (Nat.lt_succ_self _)) _ | exact blk_set2 (Hid.out (by assumption))), by repeat (first | assumption | refine Keeps.alloc ?_ _ | refine Keeps.set_ ?_ (Or.inr (Nat.le_refl _)) _ | refine Keeps.set_ ?_ (Or.inr (Nat.le_succ _)) _ | exact Hid.out (by assumption))⟩
            case measure => simp [intOf]; omega
          · have he2 : xl ≠ lo ∨ xh ≠ hi := by omega
            clear he
            rcases he2 with he | he
            all_goals
              go_wp2_with (go_at_call 16; refine (check_any _ _ _).mono ?_; rintro e w1 ⟨rfl, rfl⟩; rw [HG.out])
              go_roundw
              case rel => exact ⟨k + 1, min lo xl, max hi xh, by omega, by go_num, ⟨HL9.out, HH9.out, HS9.out.trans (by unfold sOk; rw [HG.out]; rfl)⟩, by repeat (first | exact Hid.out (by assumption) | refine Blk.alloc ?_ _ | refine Blk.far ?_ (Nat.ne_of_lt (Nat.lt_succ_self _)) _ | refine Blk.far ?_ (Nat.ne_of_gt (Nat.lt_succ_self _)) _ | exact blk_set2 (Hid.out (by assumption))), by repeat (first | exact Hid.out (by assumption) | refine Blk.alloc ?_ _ | refine Blk.far ?_ (Nat.ne_of_lt (Nat.lt_succ_self _)) _ | refine Blk.far ?_ (Nat.ne_of_gt (Nat.lt_succ_self _)) _ | exact blk_set2 (Hid.out (by assumption))), by repeat (first | assumption | refine Keeps.alloc ?_ _ | refine Keeps.set_ ?_ (Or.inr (Nat.le_refl _)) _ | refine Keeps.set_ ?_ (Or.inr (Nat.le_succ _)) _ | exact Hid.out (by assumption))⟩
              case measure => simp [intOf]; omega
      · have hd : decide ((k : Int) < xs.length) = false := by simp; omega
        go_wp2
        have hk9 : k = xs.length := by omega
        have hI := HI.out
        rw [hk9, List.take_length] at hI
        have hj : joinOk xs = true := by unfold joinOk; rw [hI.2.2, HX.out]; rfl
        have hjl : joinLo xs = lo := by rw [← hI.1]; rw [HX.out] at hj ⊢; show (if joinOk _ = true then _ else _) = _; rw [hj]; rfl
        have hjh : joinHi xs = hi := by rw [← hI.2.1]; rw [HX.out] at hj ⊢; show (if joinOk _ = true then _ else _) = _; rw [hj]; rfl
        rw [hj, hjl, hjh]
        refine bodyPost_ret (v := .tuple #[.agg #[.int .i64 lo, .int .i64 hi], .bool true]) (via_blk (g := w.heap.size) (T := 23) (cs := #[.int .i64 lo, .int .i64 hi]) (by repeat (first | exact Hid.out (by assumption) | refine Blk.alloc ?_ _ | refine Blk.far ?_ (Nat.ne_of_lt (Nat.lt_succ_self _)) _ | refine Blk.far ?_ (Nat.ne_of_gt (Nat.lt_succ_self _)) _ | exact blk_set2 (Hid.out (by assumption)))) (fun W' hB => by obtain ⟨c0, c1⟩ := hB.c2; simp [results, Try.results25, go_sem, c0, c1])) rfl ⟨?_, ?_⟩
        · rfl
        · exact Keeps.below (by repeat (first | assumption | refine Keeps.alloc ?_ _ | refine Keeps.set_ ?_ (Or.inr (Nat.le_refl _)) _ | refine Keeps.set_ ?_ (Or.inr (Nat.le_succ _)) _ | exact Hid.out (by assumption)))
end Go.Proofs.Ytnljmjibjjjelaa
