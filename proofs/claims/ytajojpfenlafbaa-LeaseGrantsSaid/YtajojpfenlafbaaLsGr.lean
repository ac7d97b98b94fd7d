/- LeaseGrants: the walk. -/
import Derived.Test.YtajojpfenlafbaaLsW
import Derived.Test.YtajojpfenlafbaaOpen23
import Derived.Deep.DeepCutAuto
import Derived.BigRegion
set_option linter.unusedSimpArgs false
set_option linter.unusedVariables false
namespace Go.Proofs.Ytajojpfenlafbaa
open Go.RowKit Mo
theorem keeps_two (w : World) (g : Nat) (u v : Value) : Keeps (· = g) w ((w.setCell ⟨g, 0, none⟩ u).setCell ⟨g, 1, none⟩ v) :=
  Keeps.set_ (S := (· = g)) (Keeps.set_ (S := (· = g)) (Keeps.refl _ _) (Or.inl rfl) _) (Or.inl rfl) _
set_option maxRecDepth 100000 in
set_option maxHeartbeats 4000000 in
theorem leaseGrants_walk (w : World) (A : Option Addr) (c : Nat) (xs : List VAsk) (hr : SlOk w 5 A c (xs.flatMap VAsk.cells)) (hc : xs.length ≤ c) (hm : c ≤ maxLen) (hx : ∀ u_ ∈ xs, VAsk.ok w u_) :
    Calls Try.prog 5 #[.slice A xs.length c] w fun e w' => e = .returned (.bool true) ∧ Below w.heap.size w w' := by
  have hr := Lib.hid (hr.reads (n := xs.length) (flatMap_len _ _ 5 (fun _ => rfl)) (by decide))
  have hml : xs.length ≤ 9223372036854775807 := by unfold maxLen at hm; omega
  have HX := Lib.hid hx
  clear hm hx
  go_enter Try.func5, Try.ntmps5
  go_wp2_with (go_at_call 20; refine (newVoter_any _).mono ?_; rintro e w1 ⟨rfl, rfl⟩)
  refine (awake23_any _).mono ?_
  rintro e w5 ⟨rfl, hb⟩
  have V5 := Lib.hid (Blk.below ((Blk.new w 80 #[.int .i64 0, .int .i64 0]).alloc (.cells #[.int .i64 0, .int .i64 0] 53)) hb (by simp <;> omega))
  have M5 := Lib.hid (Blk.below (Blk.new' (w := w.alloc (.cells #[.int .i64 0, .int .i64 0] 80)) (t := 53) (cs := #[.int .i64 0, .int .i64 0]) (n := w.heap.size + 1) (by simp)) hb (by simp))
  have H5 : Hid (Below w.heap.size w w5) := Lib.hid (below_then (w := w) (by repeat (first | exact Below.refl _ _ | refine below_alloc_ ?_ _ | refine Below.drew ?_)) hb)
  clear hb
  go_wp2_with fail
  go_loopw [3, 5] (fun sv si wr => ∃ (k gv : Nat) (L U : Int), k ≤ xs.length ∧ k ≤ 40 ∧ si = .int .i64 k ∧ sv = .pointer (some ⟨gv, 0, none⟩) ∧ gv ≠ w.heap.size + 1 ∧ w.heap.size ≤ gv ∧ Hid (Blk wr gv 80 #[.int .i64 L, .int .i64 U]) ∧ Hid (Blk wr (w.heap.size + 1) 53 #[.int .i64 L, .int .i64 U]) ∧ Hid (Below w.heap.size w wr)) (fun _ si _ => xs.length - (intOf si).toNat)
  case atStart => exact ⟨0, w.heap.size, 0, 0, Nat.zero_le _, by omega, rfl, rfl, by omega, Nat.le_refl _, V5, M5, H5⟩
  case round =>
    clear V5 M5 H5
    obtain ⟨k, gv, L, U, hk, hk4, rfl, rfl, hne, hge, V, M, HB⟩ := hrel
    obtain ⟨wo, rfl⟩ : ∃ wo, wo = wr := ⟨_, rfl⟩
    by_cases hlt : k < xs.length
    · by_cases h40 : k < 40
      · obtain ⟨ad, hA, hadb, hcell⟩ := (hr.out.kp (S := fun _ => False) (.of_below HB.out) (fun _ _ h => h)).2 (by omega)
        subst hA
        have q := fun j (hj : j < 5) => (hcell (k * 5 + j) _ ((flatMap_at xs VAsk.cells 5 (fun _ => rfl) k j hlt hj).trans (List.getElem?_eq_getElem (by exact hj))))
        have q0 := q 0 (by omega); have q1 := q 1 (by omega); have q2 := q 2 (by omega); have q3 := q 3 (by omega); have q4 := q 4 (by omega)
        simp only [VAsk.cells, List.getElem_cons_zero, List.getElem_cons_succ, Nat.add_zero] at q0 q1 q2 q3 q4
        have hok := HX.out xs[k] (List.getElem_mem _)
        generalize xs[k] = x at *
        obtain ⟨lo, hi, ld, ln, ag⟩ := x
        simp only at q0 q1 q2 q3 q4
        clear hok
        replace q1 := cell_in _ 1 (by omega) q1; replace q2 := cell_in _ 2 (by omega) q2; replace q3 := cell_in _ 3 (by omega) q3; replace q4 := cell_in _ 4 (by omega) q4
        clear q hcell
        have X0 := Lib.hid (Blk.new wo 55 #[.int .i64 lo, .int .i64 hi, .int .i64 ld, .int .i64 ln, .bool ag])
        have vl := V.out.lt; have ml := M.out.lt
        go_upto_if 39 with fail
        go_cut [3, 6] (fun sv sx wx => ∃ (gv : Nat) (L U : Int), sv = .pointer (some ⟨gv, 0, none⟩) ∧ sx = .pointer (some ⟨wo.heap.size, 0, none⟩) ∧ gv ≠ w.heap.size + 1 ∧ w.heap.size ≤ gv ∧ gv ≠ wo.heap.size ∧ Blk wx gv 80 #[.int .i64 L, .int .i64 U] ∧ Blk wx (w.heap.size + 1) 53 #[.int .i64 L, .int .i64 U] ∧ Blk wx wo.heap.size 55 #[.int .i64 lo, .int .i64 hi, .int .i64 ld, .int .i64 ln, .bool ag] ∧ Below w.heap.size w wx)
        case first =>
          cases ag
          · go_wp2_with fail
            go_meet
            exact ⟨gv, L, U, rfl, rfl, hne, hge, by omega, V.out.alloc _, M.out.alloc _, X0.out, below_alloc_ HB.out _⟩
          · have RR := Lib.hid (fun w => rreborn_any lo hi w)
            cases hS : isS lo hi
            · have HS := Lib.hid hS
              have E1 : Hid (rbE lo hi = 240) := Lib.hid (by unfold rbE; rw [hS]; rfl)
              clear hS
              go_wp2_with fail
              refine (reborn_bad lo hi _ HS.out).mono ?_
              rintro e w6 ⟨rfl, hb⟩
              have V6 := Lib.hid (Blk.below (V.out.alloc _) hb (V.out.alloc _).lt)
              have M6 := Lib.hid (Blk.below (M.out.alloc _) hb (M.out.alloc _).lt)
              have X6 := Lib.hid (Blk.below X0.out hb X0.out.lt)
              have H6 : Hid (Below w.heap.size w w6) := Lib.hid (below_then (below_alloc_ HB.out _) hb)
              clear hb q0 q1 q2 q3 q4
              obtain ⟨x0, x1, x2, x3, x4⟩ := X6.out.c5
              have xl := X6.out.lt
              go_wp2_with fail
              refine (RR.out _).mono ?_
              rintro e w7 ⟨rfl, hb⟩
              rw [E1.out]
              have V7 := Lib.hid (Blk.below V6.out hb V6.out.lt)
              have M7 := Lib.hid (Blk.below M6.out hb M6.out.lt)
              have X7 := Lib.hid (Blk.below X6.out hb X6.out.lt)
              have H7 : Hid (Below w.heap.size w w7) := Lib.hid (below_then H6.out hb)
              clear hb x0 x1 x2 x3 x4 xl
              go_wp2_with fail
              go_meet
              exact ⟨gv, L, U, rfl, rfl, hne, hge, by omega, V7.out.alloc _, M7.out.alloc _, X7.out.alloc _, below_alloc_ H7.out _⟩
            · have HS := Lib.hid hS
              have E1 : Hid (rbE lo hi = 0) := Lib.hid (by unfold rbE; rw [hS]; rfl)
              have E2 : Hid (rbU lo hi = min (hi + 1048576) 1125899906842624) := Lib.hid (by unfold rbU; rw [hS]; rfl)
              clear hS
              obtain ⟨R, hR⟩ : ∃ R, min (hi + 1048576) 1125899906842624 = R := ⟨_, rfl⟩
              have HR := Lib.hid hR
              clear hR
              go_wp2_with fail
              refine (reborn_ok lo hi _ HS.out).mono ?_
              rintro e w6 ⟨g6, rfl, hg6, hb6, hb⟩
              rw [HR.out] at hb6
              have hg6' : wo.heap.size + 1 ≤ g6 := by simpa using hg6
              have V6 := Lib.hid hb6
              have n6 : g6 ≠ w.heap.size + 1 := by omega
              have nx : wo.heap.size ≠ w.heap.size + 1 := by omega
              have M6 := Lib.hid (Blk.below (M.out.alloc _) hb (M.out.alloc _).lt)
              have X6 := Lib.hid (Blk.below X0.out hb X0.out.lt)
              have H6 : Hid (Below w.heap.size w w6) := Lib.hid (below_then (below_alloc_ HB.out _) hb)
              clear hb q0 q1 q2 q3 q4 hg6 hb6
              obtain ⟨x0, x1, x2, x3, x4⟩ := X6.out.c5
              have xl := X6.out.lt
              go_wp2_with fail
              refine (RR.out _).mono ?_
              rintro e w7 ⟨rfl, hb⟩
              rw [E1.out, E2.out, HR.out]
              have V7 := Lib.hid (Blk.below V6.out hb V6.out.lt)
              have M7 := Lib.hid (Blk.below M6.out hb M6.out.lt)
              have X7 := Lib.hid (Blk.below X6.out hb X6.out.lt)
              have H7 : Hid (Below w.heap.size w w7) := Lib.hid (below_then H6.out hb)
              clear hb x0 x1 x2 x3 x4 xl
              obtain ⟨m0, m1⟩ := M7.out.c2
              have f0 := M7.out.frozen 0; have f1 := M7.out.frozen 1
              have ml7 := M7.out.lt
              go_wp2_with fail
              go_region
              all_goals
                go_wp2_with fail
                go_meet
                exact ⟨g6, 0, R, rfl, rfl, n6, by omega, by omega, ((Blk.far (Blk.far V7.out n6 _) n6 _).alloc _).drew, ((blk_upd (blk_upd M7.out rfl) rfl).alloc _).drew, ((Blk.far (Blk.far X7.out nx _) nx _).alloc _).drew, Below.drew (below_alloc_ (below_set_ (below_set_ H7.out (Nat.le_succ _) _) (Nat.le_succ _) _) _)⟩
        case rest =>
          obtain ⟨gv', L', U', rfl, rfl, hne', hge', hnx, hV, hM, hX, hB⟩ := hcut
          have V6 := Lib.hid hV; have M6 := Lib.hid hM; have X6 := Lib.hid hX; have H6 := Lib.hid hB
          clear hV hM hX hB V M HB hne hge X0 q0 q1 q2 q3 q4
          obtain ⟨u, E, L2, U2, hg⟩ := gr_of L' U' lo hi ld ln
          have G := Lib.hid hg
          clear hg
          obtain ⟨x0, x1, x2, x3, x4⟩ := X6.out.c5
          obtain ⟨m0, m1⟩ := M6.out.c2
          have xl := X6.out.lt; have ml6 := M6.out.lt
          go_wp2_with fail
          refine (rgrant_any L' U' lo hi ld ln u E L2 U2 _ G.out).mono ?_
          rintro e w8 ⟨rfl, hb⟩
          have V8 := Lib.hid (Blk.below V6.out hb V6.out.lt)
          have M8 := Lib.hid (Blk.below M6.out hb M6.out.lt)
          have X8 := Lib.hid (Blk.below X6.out hb X6.out.lt)
          have H8 : Hid (Below w.heap.size w w8) := Lib.hid (below_then H6.out hb)
          clear hb x0 x1 x2 x3 x4 xl m0 m1 ml6
          obtain ⟨x0, x1, x2, x3, x4⟩ := X8.out.c5
          obtain ⟨m0, m1⟩ := M8.out.c2
          have f0 := M8.out.frozen 0; have f1 := M8.out.frozen 1
          have xl := X8.out.lt; have ml8 := M8.out.lt
          go_wp2_with fail
          refine (grant_any gv' L' U' lo hi ld ln u E L2 U2 _ (by repeat (first | exact V8.out | refine Blk.alloc ?_ _ | refine Blk.far ?_ hne' _)) G.out).mono ?_
          rintro e w9 ⟨rfl, hv9, hk9⟩
          have M9 := Lib.hid (Blk.keeps (g := w.heap.size + 1) (t := 53) (cs := #[.int .i64 L2, .int .i64 U2]) (Blk.alloc (blk_upd (blk_upd M8.out rfl) rfl) _) hk9 (by exact Ne.symm hne'))
          have V9 := Lib.hid hv9
          have H9 : Hid (Below w.heap.size w w9) := Lib.hid (below_kp (by repeat (first | exact H8.out | refine below_alloc_ ?_ _ | refine below_set_ ?_ (Nat.le_succ _) _)) hk9 hge')
          clear hv9 hk9 x0 x1 x2 x3 x4 xl m0 m1 ml8 f0 f1
          go_wp2_with fail
          go_roundw
          case rel => exact ⟨k + 1, gv', L2, U2, by omega, by omega, by go_num, rfl, hne', hge', V9, M9, H9⟩
          case measure => simp [intOf]; omega
      · have hd : decide ((k : Int) < 40) = false := by simp; omega
        go_wp2_with fail
        go_ret
        exact ⟨rfl, HB.out⟩
    · have hd : decide (k < xs.length) = false := by simp; omega
      go_wp2_with fail
      go_ret
      exact ⟨rfl, HB.out⟩
end Go.Proofs.Ytajojpfenlafbaa
