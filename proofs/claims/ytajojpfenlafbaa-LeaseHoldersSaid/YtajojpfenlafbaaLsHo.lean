/- LeaseHolders: the walk. -/
import Derived.Test.YtajojpfenlafbaaLsW
import Derived.Test.YtajojpfenlafbaaLsR
import Derived.Test.YtajojpfenlafbaaOpen23
import Derived.Test.YtajojpfenlafbaaStampI
import Derived.Deep.DeepCutAuto
import Derived.Deep.RegionHeld3
import Derived.BigRegion
set_option linter.unusedSimpArgs false
set_option linter.unusedVariables false
namespace Go.Proofs.Ytajojpfenlafbaa
open Go.RowKit Mo
attribute [local go_sem ↓] Go.wp_at_zero Go.wp_at_succ
/-- what a holder is told, and what it has behind it -/
def HdIs (n : Nat) (us : List Int) (v x : Int) (us' : List Int) (E : Int) : Prop :=
  ((v < 0 ∨ (n : Int) ≤ v) ∧ us' = us ∧ E = 242) ∨ (∃ k : Nat, v = k ∧ k < n ∧ (x < 0 ∨ 1125899906842624 < x) ∧ us' = us ∧ E = 240) ∨
  (∃ k : Nat, v = k ∧ k < n ∧ 0 ≤ x ∧ x ≤ 1125899906842624 ∧ us' = us.set k (max (us.getD k 0) x) ∧ E = 0)
theorem hd_of (n : Nat) (us : List Int) (v x : Int) : ∃ us' E, HdIs n us v x us' E := by
  unfold HdIs
  by_cases h : v < 0 ∨ (n : Int) ≤ v
  · exact ⟨us, 242, .inl ⟨h, rfl, rfl⟩⟩
  · by_cases h2 : x < 0 ∨ 1125899906842624 < x
    · exact ⟨us, 240, .inr (.inl ⟨v.toNat, by omega, by omega, h2, rfl, rfl⟩)⟩
    · exact ⟨_, 0, .inr (.inr ⟨v.toNat, by omega, by omega, by omega, by omega, rfl, rfl⟩)⟩
theorem heard_any (g n : Nat) (v : Int) (us : List Int) (x : Int) (us' : List Int) (E : Int) (w : World) (hl : us.length = 5) (h2 : n ≤ 5) (hs : Blk w g 72 (hcells n us)) (h : HdIs n us v x us' E) :
    Calls Try.prog 11 #[.pointer (some ⟨g, 0, none⟩), .int .i64 v, .int .i64 x] w fun e w' => e = .returned (.int .i64 E) ∧ Blk w' g 72 (hcells n us') ∧ Keeps (· = g) w w' := by
  rcases h with ⟨h, rfl, rfl⟩ | ⟨k, rfl, hk, hx, rfl, rfl⟩ | ⟨k, rfl, hk, h0, h1, rfl, rfl⟩
  · refine (heard_bad g n v _ x w h h2 hs).mono ?_
    rintro e w' ⟨rfl, rfl⟩
    exact ⟨rfl, hs, Keeps.refl _ _⟩
  · refine (heard_late g n k _ x w hk h2 hx hs).mono ?_
    rintro e w' ⟨rfl, rfl⟩
    exact ⟨rfl, hs, Keeps.refl _ _⟩
  · exact heard_ok g n k us x w hl hk h2 h0 h1 hs
/-- a holder's list: as long, and of times -/
structure Us (us : List Int) : Prop where
  l : us.length = 5
  b : ∀ i, 0 ≤ us.getD i 0 ∧ us.getD i 0 ≤ 1125899906842624
theorem getD_set (v : List Int) (k i : Nat) (x : Int) (h : k < v.length) : (v.set k x).getD i 0 = if i = k then x else v.getD i 0 := by
  rw [List.getD_eq_getElem?_getD, List.getD_eq_getElem?_getD, List.getElem?_set]
  by_cases e : k = i
  · subst e; rw [if_pos rfl, if_pos rfl, if_pos h]; rfl
  · rw [if_neg e, if_neg (fun h => e h.symm)]
theorem us_step {n : Nat} {us us' : List Int} {v x E : Int} (U : Us us) (hn : n ≤ 5) (h : HdIs n us v x us' E) : Us us' := by
  rcases h with ⟨_, rfl, rfl⟩ | ⟨k, rfl, hk, hx, rfl, rfl⟩ | ⟨k, rfl, hk, h0, h1, rfl, rfl⟩
  · exact U
  · exact U
  · have hl := U.l
    refine ⟨by simpa using hl, fun i => ?_⟩
    rw [getD_set _ _ _ _ (by omega)]
    have := U.b k
    split
    · omega
    · exact U.b i
theorem unt_bd {n : Nat} {us : List Int} (U : Us us) (h1 : 1 ≤ n) (h5 : n ≤ 5) : 0 ≤ unt n us ∧ unt n us ≤ 1125899906842624 := by
  have hl := U.l
  obtain ⟨i, hi, he⟩ := List.mem_iff_getElem.1 (unt_counts n us h1 (by omega)).2.2
  rw [List.length_take] at hi
  rw [List.getElem_take] at he
  have := U.b i
  rw [List.getD_eq_getElem?_getD, List.getElem?_eq_getElem (by omega)] at this
  simp only [Option.getD_some] at this
  rw [he] at this
  exact this
theorem reads_arr {W : World} {g : Nat} {T : TypeId} {ms : List Int} (h : Blk W g T (arr ms)) : Reads W W.heap.size 1 (some ⟨g, 0, none⟩) ms.length (ms.map (Value.int .i64)) := by
  refine ⟨by simp, fun _ => ⟨_, rfl, h.lt, fun j u hu => ?_⟩⟩
  rw [Addr.add_lit, h.cell (0 + j)]
  simpa [arr] using hu
/-- all that a round of the law keeps in memory -/
structure LSt (w W : World) (gx gm n : Nat) (us : List Int) (last : Int) (X : Array Value) (B : Option Addr) (L : List Int) : Prop where
  g : Blk W w.heap.size 72 (hcells n us)
  s : Blk W (w.heap.size + 1) 74 #[.int .i64 last]
  x : Blk W gx 35 X
  m : Blk W gm 2 (arr (us.take n))
  t : Reads W W.heap.size 1 B L.length (L.map (Value.int .i64))
  b : Below w.heap.size w W
theorem LSt.pass {w W W2 : World} {gx gm n : Nat} {us : List Int} {last : Int} {X : Array Value} {B : Option Addr} {L : List Int} (H : LSt w W gx gm n us last X B L) (hb : Below W.heap.size W W2) : LSt w W2 gx gm n us last X B L :=
  ⟨Blk.below H.g hb H.g.lt, Blk.below H.s hb H.s.lt, Blk.below H.x hb H.x.lt, Blk.below H.m hb H.m.lt, Reads.kp (S := fun _ => False) H.t (.of_below hb) (fun _ _ h => h), below_then H.b hb⟩
theorem LSt.drew {w W : World} {gx gm n : Nat} {us : List Int} {last : Int} {X : Array Value} {B : Option Addr} {L : List Int} (H : LSt w W gx gm n us last X B L) : LSt w W.drew gx gm n us last X B L :=
  H.pass (Below.drew (Below.refl _ _))
theorem LSt.drewN {w W : World} {gx gm n : Nat} {us : List Int} {last : Int} {X : Array Value} {B : Option Addr} {L : List Int} (H : LSt w W gx gm n us last X B L) (k : Nat) : LSt w (W.drewN k) gx gm n us last X B L :=
  H.pass (below_drewN_ (Below.refl _ _) k)
theorem LSt.rm {w W : World} {gx gm n : Nat} {us : List Int} {last : Int} {X : Array Value} {B : Option Addr} {L : List Int} (H : LSt w W gx gm n us last X B L) (hn : n ≤ us.length) : Reads W W.heap.size 1 (some ⟨gm, 0, none⟩) n ((us.take n).map (Value.int .i64)) := by
  have h := reads_arr H.m
  rw [List.length_take, Nat.min_eq_left hn] at h
  exact h
theorem rstamp_end {L : List Int} {last lo hi u N E l : Int} {ys : List Int} (hlast : tops 0 L = last) (h : StIs last lo hi ys u N E l) : tops 0 (mlOf L N E) = l := by
  rcases h with ⟨_, _, rfl, rfl⟩ | ⟨_, _, _, rfl, rfl⟩ | ⟨_, _, _, _, rfl, rfl⟩ | ⟨_, _, h8, rfl, rfl, rfl⟩
  · exact hlast
  · exact hlast
  · exact hlast
  · have h3 := tops_ge (max last hi) ys
    unfold mlOf
    rw [if_pos rfl]
    unfold tops at hlast ⊢
    rw [List.foldl_append, hlast]
    show max last (tops (max last hi) ys + 1) = tops (max last hi) ys + 1
    omega
set_option maxRecDepth 100000 in
set_option maxHeartbeats 8000000 in
theorem leaseHolders_walk (w : World) (vo : Int) (wv : (Lit.int .i64 vo).wf = true) (A : Option Addr) (c : Nat) (xs : List VHeard23) (hr : SlOk w 5 A c (xs.flatMap VHeard23.cells)) (hc : xs.length ≤ c) (hm : c ≤ maxLen) (hx : ∀ u_ ∈ xs, VHeard23.ok w u_) :
    Calls Try.prog 3 #[.int .i64 vo, .slice A xs.length c] w fun e w' => e = .returned (.bool true) ∧ Below w.heap.size w w' := by
  have hr := Lib.hid (hr.reads (n := xs.length) (flatMap_len _ _ 5 (fun _ => rfl)) (by decide))
  have hml : xs.length ≤ 9223372036854775807 := by unfold maxLen at hm; omega
  have HX := Lib.hid hx
  clear hm hx wv
  rcases (show (vo < 1 ∨ 5 < vo) ∨ ∃ n : Nat, vo = n ∧ 1 ≤ n ∧ n ≤ 5 by by_cases h : vo < 1 ∨ 5 < vo; exact .inl h; exact .inr ⟨vo.toNat, by omega, by omega, by omega⟩) with hv | ⟨n, rfl, hn1, hn5⟩
  · rcases (show vo < 1 ∨ (1 ≤ vo ∧ 5 < vo) by omega) with h | ⟨h, h'⟩
    all_goals
      try have d1 : decide (vo ≤ 5) = false := by simp; omega
      try have d2 : decide (1 ≤ vo) = false := by simp; omega
      go_enter Try.func3, Try.ntmps3
      go_wp2_with (first | (go_at_call 8; refine (newHolder_bad _ _ hv).mono ?_; rintro e w1 ⟨rfl, rfl⟩) | (go_at_call 9; refine (new_any _).mono ?_; rintro e w1 ⟨rfl, rfl⟩) | (go_at_call 10; refine (awake23_any _).mono ?_; rintro e w5 ⟨rfl, hb⟩))
      go_ret
      exact ⟨rfl, below_then (w := w) (by repeat (first | exact Below.refl _ _ | refine below_alloc_ ?_ _ | refine Below.drew ?_)) hb⟩
  have dn1 : (1 : Int) ≤ (n : Int) := by omega
  have dn5 : (n : Int) ≤ 5 := by omega
  go_enter Try.func3, Try.ntmps3
  go_wp2_with (first | (go_at_call 8; refine (newHolder_ok n _ hn1 hn5).mono ?_; rintro e w1 ⟨rfl, rfl⟩) | (go_at_call 9; refine (new_any _).mono ?_; rintro e w1 ⟨rfl, rfl⟩))
  refine (awake23_any _).mono ?_
  rintro e w5 ⟨rfl, hb⟩
  have G5 : Hid (Blk w5 w.heap.size 72 (hcells n [0, 0, 0, 0, 0])) := Lib.hid (Blk.below ((Blk.new w 72 (hcells n [0, 0, 0, 0, 0])).alloc (.cells #[.int .i64 0] 74)) hb (by simp <;> omega))
  have S5 : Hid (Blk w5 (w.heap.size + 1) 74 #[.int .i64 0]) := Lib.hid (Blk.below (Blk.new' (w := w.alloc (.cells (hcells n [0, 0, 0, 0, 0]) 72)) (n := w.heap.size + 1) (by simp)) hb (by simp))
  have H5 : Hid (Below w.heap.size w w5) := Lib.hid (below_then (w := w) (by repeat (first | exact Below.refl _ _ | refine below_alloc_ ?_ _ | refine Below.drew ?_)) hb)
  have s5l := S5.out.lt
  clear hb
  have hmk : ∀ W : World, (Instr.makeSlice 31 (.int .i64 (n : Int)) (.int .i64 (n : Int))).run Try.prog W = .ok (.slice (some ⟨W.heap.size, 0, none⟩) n n) (W.alloc (.cells (arr (List.replicate n 0)) 2)) := by
    clear dn1 dn5 G5 S5 H5 s5l
    rcases (show n = 1 ∨ n = 2 ∨ n = 3 ∨ n = 4 ∨ n = 5 by omega) with rfl | rfl | rfl | rfl | rfl
    all_goals
      intro W
      kernel_rfl
  go_wp2_with fail
  clear hmk
  have M5 : Hid (Blk ((w5.alloc (.cells (arr (List.replicate n 0)) 2)).alloc (.cells #[] 2)) w5.heap.size 2 (arr (([0, 0, 0, 0, 0] : List Int).take n))) := Lib.hid (by
    have e : ([0, 0, 0, 0, 0] : List Int).take n = List.replicate n 0 := by
      rcases (show n = 1 ∨ n = 2 ∨ n = 3 ∨ n = 4 ∨ n = 5 by omega) with rfl | rfl | rfl | rfl | rfl <;> rfl
    rw [e]
    exact (Blk.new w5 _ _).alloc _)
  go_loopw [9, 10] (fun sg si wr => ∃ (k : Nat) (us : List Int) (last : Int) (L : List Int) (B : Option Addr) (cap : Nat), k ≤ xs.length ∧ k ≤ 40 ∧ si = .int .i64 k ∧ sg = .slice B L.length cap ∧ L.length ≤ k ∧ 0 ≤ last ∧ Hid (tops 0 L = last) ∧ Hid (Us us) ∧ Hid (Blk wr w.heap.size 72 (hcells n us)) ∧ Hid (Blk wr (w.heap.size + 1) 74 #[.int .i64 last]) ∧ Hid (Blk wr w5.heap.size 2 (arr (us.take n))) ∧ Hid (Reads wr wr.heap.size 1 B L.length (L.map (Value.int .i64))) ∧ Hid (∀ a, B = some a → w5.heap.size < a.block) ∧ Hid (Below w.heap.size w wr)) (fun _ si _ => xs.length - (intOf si).toNat)
  case atStart => exact ⟨0, [0, 0, 0, 0, 0], 0, [], some ⟨w5.heap.size + 1, 0, none⟩, 0, Nat.zero_le _, by omega, rfl, rfl, Nat.zero_le _, by omega, Lib.hid rfl, Lib.hid ⟨rfl, fun i => by rcases i with _ | _ | _ | _ | _ | i <;> exact (show (0 : Int) ≤ 0 ∧ (0 : Int) ≤ 1125899906842624 from by decide)⟩, Lib.hid ((G5.out.alloc _).alloc _), Lib.hid ((S5.out.alloc _).alloc _), M5, Lib.hid ⟨rfl, fun h => absurd h (by simp)⟩, Lib.hid (fun a h => by injection h with h; subst h; exact Nat.lt_succ_self _), Lib.hid (below_alloc_ (below_alloc_ H5.out _) _)⟩
  case round =>
    clear G5 S5 H5 M5
    obtain ⟨k, us, last, L, B, cap, hk, hk4, rfl, rfl, hL, hl0, TL, UU, G, S, M, TK, BF, HB⟩ := hrel
    obtain ⟨wo, rfl⟩ : ∃ wo, wo = wr := ⟨_, rfl⟩
    by_cases hlt : k < xs.length
    · by_cases h40 : k < 40
      · obtain ⟨ad, hA, hadb, hcell⟩ := (hr.out.kp (S := fun _ => False) (.of_below HB.out) (fun _ _ h => h)).2 (by omega)
        subst hA
        have q := fun j (hj : j < 5) => (hcell (k * 5 + j) _ ((flatMap_at xs VHeard23.cells 5 (fun _ => rfl) k j hlt hj).trans (List.getElem?_eq_getElem (by exact hj))))
        have q0 := q 0 (by omega); have q1 := q 1 (by omega); have q2 := q 2 (by omega); have q3 := q 3 (by omega); have q4 := q 4 (by omega)
        simp only [VHeard23.cells, List.getElem_cons_zero, List.getElem_cons_succ, Nat.add_zero] at q0 q1 q2 q3 q4
        have hok := HX.out xs[k] (List.getElem_mem _)
        generalize xs[k] = x at *
        obtain ⟨v, til, lo, hi, ya, yc, ys⟩ := x
        obtain ⟨_, _, _, _, hsl, hyl, hym, hyx⟩ := hok
        simp only at q0 q1 q2 q3 q4 hsl hyl hym hyx
        replace q1 := cell_in _ 1 (by omega) q1; replace q2 := cell_in _ 2 (by omega) q2; replace q3 := cell_in _ 3 (by omega) q3; replace q4 := cell_in _ 4 (by omega) q4
        clear q hcell
        have HSL := Lib.hid (hsl.reads (n := ys.length) (by simp) (by decide))
        have HYC : Hid (ys.length ≤ yc ∧ yc ≤ maxLen) := ⟨hyl, hym⟩
        clear hsl hyx
        have hymx : ys.length ≤ 9223372036854775807 := by unfold maxLen at hym; omega
        clear hym
        have gl := G.out.lt; have sl := S.out.lt; have ml := M.out.lt
        go_upto_if 73 with fail
        go_cut [11] (fun s11 wx => s11 = .pointer (some ⟨wo.heap.size, 0, none⟩) ∧ ∃ (m : Nat) (zs : List Int), zs.length = m ∧ m ≤ 10 ∧ Reads w w.heap.size 1 ya m (zs.map (Value.int .i64)) ∧ wx = wo.alloc (.cells #[.int .i64 v, .int .i64 til, .int .i64 lo, .int .i64 hi, .slice ya m yc] 35))
        case first =>
          by_cases h10 : 10 < ys.length
          · go_wp2_with fail
            go_meet
            exact ⟨rfl, 10, ys.take 10, by rw [List.length_take]; omega, Nat.le_refl _, by have := HSL.out.take_ (k := 10) (by omega); rwa [← List.map_take] at this, rfl⟩
          · have h10' : ys.length ≤ 10 := by omega
            clear h10
            go_wp2_with fail
            go_meet
            exact ⟨rfl, ys.length, ys, rfl, h10', HSL.out, rfl⟩
        case rest =>
          obtain ⟨rfl, m, zs, hzm, hm10, hzr, rfl⟩ := hcut
          have HM := Lib.hid hzm; have HZ := Lib.hid hzr
          have X0 := Lib.hid (Blk.new wo 35 #[.int .i64 v, .int .i64 til, .int .i64 lo, .int .i64 hi, .slice ya m yc])
          obtain ⟨us', E, hd⟩ := hd_of n us v til
          have HD := Lib.hid hd
          have UU' := Lib.hid (us_step UU.out hn5 hd)
          have hul := UU.out.l
          clear hzm hzr hd q0 q1 q2 q3 q4 HSL HYC hyl hymx
          go_wp2_with fail
          refine (heard_any w.heap.size n v us til us' E _ hul hn5 (G.out.alloc _) HD.out).mono ?_
          rintro e w6 ⟨rfl, hg6, hk6⟩
          have L6 : Hid (Blk w6 w.heap.size 72 (hcells n us')) := Lib.hid hg6
          have S6 := Lib.hid ((S.out.alloc _).keeps hk6 (by exact Nat.succ_ne_self _))
          have M6 := Lib.hid ((M.out.alloc _).keeps hk6 (by exact Nat.ne_of_gt (Nat.lt_of_succ_lt s5l)))
          have X6 := Lib.hid (X0.out.keeps hk6 (by exact Nat.ne_of_gt gl))
          have TK6 : Hid (Reads w6 w6.heap.size 1 B L.length (L.map (Value.int .i64))) := Lib.hid (Reads.kp (Reads.al TK.out _) hk6 (fun a ha h => absurd h (Nat.ne_of_gt (by have := BF.out a ha; omega))))
          have H6 : Hid (Below w.heap.size w w6) := Lib.hid (below_ks (below_alloc_ HB.out _) hk6)
          clear hg6 hk6
          obtain ⟨x0, x1, x2, x3, x4⟩ := X6.out.c5
          have xl := X6.out.lt; have ml6 := M6.out.lt
          go_upto_region 16 with fail
          obtain ⟨bb, hbb⟩ : ∃ bb, (decide (v < 0) || decide ((n : Int) ≤ v)) = bb := ⟨_, rfl⟩
          have HBB := Lib.hid hbb
          go_cut [92] (fun s wx => s = .bool bb ∧ wx = w6)
          case first =>
            by_cases hv : v < 0
            · have d1 : decide (v < 0) = true := by simp; omega
              go_wp2_with fail
              go_meet
              exact ⟨by rw [← hbb, d1]; rfl, rfl⟩
            · have d1 : decide (v < 0) = false := by simp; omega
              go_wp2_with fail
              go_meet
              exact ⟨by rw [← hbb, d1]; rfl, rfl⟩
          case rest =>
          obtain ⟨rfl, rfl⟩ := hcut
          clear hbb
          go_upto_if 92 with fail
          go_cut [13] (fun s13 wx => s13 = .int .i64 E ∧ LSt w wx wo.heap.size w5.heap.size n us' last #[.int .i64 v, .int .i64 til, .int .i64 lo, .int .i64 hi, .slice ya m yc] B L)
          case first =>
            have H2 := HD.out
            have hnn : (n : Int) ≤ 5 := dn5
            rcases H2 with ⟨hv, rfl, rfl⟩ | ⟨q, rfl, hq, hx, rfl, rfl⟩ | ⟨q, rfl, hq, hx0, hx1, rfl, rfl⟩
            · have hb : bb = true := by rw [← HBB.out]; simp; omega
              subst hb
              go_wp2_with fail
              go_meet
              exact ⟨rfl, L6.out, S6.out, X6.out, M6.out, TK6.out, H6.out⟩
            · have hb : bb = false := by rw [← HBB.out]; simp; omega
              subst hb
              rcases (show til < 0 ∨ (0 ≤ til ∧ 1125899906842624 < til) by omega) with ht | ⟨ht, ht'⟩
              · have d1 : decide (til < 0) = true := by simp; omega
                go_wp2_with fail
                go_meet
                exact ⟨rfl, L6.out, S6.out, X6.out, M6.out, TK6.out, H6.out⟩
              · have d1 : decide (til < 0) = false := by simp; omega
                have d2 : decide (1125899906842624 < til) = true := by simp; omega
                go_wp2_with fail
                go_meet
                exact ⟨rfl, L6.out, S6.out, X6.out, M6.out, TK6.out, H6.out⟩
            · have hb : bb = false := by rw [← HBB.out]; simp; omega
              subst hb
              have d1 : decide (til < 0) = false := by simp; omega
              have d2 : decide (1125899906842624 < til) = false := by simp; omega
              have hqt : q < (us.take n).length := by rw [List.length_take]; omega
              have m0 := arr_at M6.out q hqt
              rw [getD_take us n q hq] at m0
              have f0 := M6.out.frozen q
              have i0 : (0 : Int) ≤ (q : Int) := by omega
              have i1 : (q : Int) < (n : Int) := by omega
              have hts : (us.set q (max (us.getD q 0) til)).take n = (us.take n).set q (max (us.getD q 0) til) := List.take_set
              have hself : (us.take n).set q (us.getD q 0) = us.take n := by
                rw [← getD_take us n q hq, List.getD_eq_getElem?_getD, List.getElem?_eq_getElem hqt]
                exact List.set_getElem_self hqt
              obtain ⟨y, hy⟩ : ∃ y, us.getD q 0 = y := ⟨_, rfl⟩
              rw [hy] at m0 hts hself L6
              have HTS := Lib.hid hts; have HSE := Lib.hid hself
              have HY := Lib.hid hy
              clear hts hself hy
              by_cases hty : y < til
              · have d3 : decide (y < til) = true := by simp; omega
                go_wp2_with fail
                go_quiet (fail)
                go_wp2_with fail
                go_meet
                rw [HY.out]
                refine ⟨rfl, Blk.far (L6.out.drewN _) (Nat.ne_of_lt (Nat.lt_of_succ_lt s5l)) _, Blk.far (S6.out.drewN _) (Nat.ne_of_lt s5l) _, Blk.far (X6.out.drewN _) (Nat.ne_of_gt ml) _, ?_, Reads.kp (S := (· = w5.heap.size)) (Reads.kp (S := fun _ => False) TK6.out (.of_below (below_drewN_ (Below.refl _ _) _)) (fun _ _ h => h)) (Keeps.set_ (S := (· = w5.heap.size)) (Keeps.refl _ _) (Or.inl rfl) _) (fun a ha h => absurd h (Nat.ne_of_gt (BF.out a ha))), below_set_ (below_drewN_ H6.out _) (Nat.le_of_lt (Nat.lt_of_succ_lt s5l)) _⟩
                rw [HTS.out, show max y til = til by omega]
                have h := (M6.out.drewN nq).set_ q (.int .i64 til)
                rw [arr_set] at h
                exact h
              · have d3 : decide (y < til) = false := by simp; omega
                go_wp2_with fail
                go_quiet (fail)
                go_wp2_with fail
                go_meet
                rw [HY.out]
                refine ⟨rfl, L6.out.drewN _, S6.out.drewN _, X6.out.drewN _, ?_, Reads.kp (S := fun _ => False) TK6.out (.of_below (below_drewN_ (Below.refl _ _) _)) (fun _ _ h => h), below_drewN_ H6.out _⟩
                rw [HTS.out, show max y til = y by omega, HSE.out]
                exact M6.out.drewN _
          case rest =>
            obtain ⟨rfl, hst⟩ := hcut
            have T0 := Lib.hid hst
            clear hst L6 S6 M6 X6 TK6 H6 x0 x1 x2 x3 x4 xl ml6 G S M TK HB X0 HBB HD UU hul gl sl
            have hul := UU'.out.l
            obtain ⟨u0, u1⟩ := unt_bd UU'.out hn1 hn5
            have hcn := unt_counts n us' hn1 (by omega)
            have hb0 := Lib.hid (show ∀ i, i < n → 0 ≤ (us'.take n).getD i 0 from fun i hi => by rw [getD_take us' n i hi]; exact (UU'.out.b i).1)
            have htl := Lib.hid (show (us'.take n).length = n by rw [List.length_take]; omega)
            obtain ⟨u, hu⟩ : ∃ u, unt n us' = u := ⟨_, rfl⟩
            rw [hu] at u0 u1 hcn
            have HU := Lib.hid hu
            have HC := Lib.hid hcn
            clear hu hcn
            obtain ⟨N, F, l, hs⟩ := st_of last lo hi zs u
            have hl0' : 0 ≤ l := by
              have := tops_ge (max last hi) zs
              rcases hs with ⟨_, _, _, h⟩ | ⟨_, _, _, _, h⟩ | ⟨_, _, _, _, _, h⟩ | ⟨_, _, _, _, _, h⟩ <;> omega
            have HSt := Lib.hid hs
            clear hs
            have HL5 : Hid (L.length ≤ 1000) := Lib.hid (by omega)
            have hnu : n ≤ us'.length := by omega
            obtain ⟨x0, x1, x2, x3, x4⟩ := T0.out.x.c5
            have xl := T0.out.x.lt
            go_wp2_with fail
            refine (rstamp_any n n L.length m m (some ⟨w5.heap.size, 0, none⟩) B ya cap yc (us'.take n) L zs u last lo hi N F l _ htl.out hn1 hn5 (T0.out.rm hnu) hb0.out HC.out.1 HC.out.2.1 HC.out.2.2 u1 rfl T0.out.t HL5.out HM.out (Reads.kp (S := fun _ => False) HZ.out (.of_below T0.out.b) (fun _ _ h => h)) (by omega) TL.out HSt.out).1.mono ?_
            rintro e w7 ⟨B', cap', rfl, hr7, hb7, ha7⟩
            have T7 := Lib.hid (T0.out.pass hb7)
            have BF7 : Hid (∀ a, B' = some a → w5.heap.size < a.block) := Lib.hid (fun a ha => by rcases ha7 a ha with h | h; exact BF.out a h; have := T0.out.m.lt; omega)
            have hll := mlOf_len L N F
            have TL7 := Lib.hid (rstamp_end TL.out HSt.out)
            have R7 := Lib.hid hr7
            obtain ⟨L7, hL7⟩ : ∃ L7, mlOf L N F = L7 := ⟨_, rfl⟩
            rw [hL7] at hll TL7 R7
            rw [hL7]
            have HL7 : Hid (L7.length ≤ 1000) := Lib.hid (by omega)
            clear hb7 ha7 hr7 hL7 x0 x1 x2 x3 x4 xl
            obtain ⟨x0, x1, x2, x3, x4⟩ := T7.out.x.c5
            have xl := T7.out.x.lt
            go_wp2_with fail
            refine (hstamp_any w.heap.size (w.heap.size + 1) n m us' last lo hi zs ya yc N F l u _ hul hn1 hn5 T7.out.g T7.out.s HM.out (by omega) (Reads.kp (S := fun _ => False) HZ.out (.of_below T7.out.b) (fun _ _ h => h)) (Nat.succ_ne_self _) HU.out u1 HSt.out).mono ?_
            rintro e w8 ⟨rfl, hs8, hk8⟩
            have T8 : Hid (LSt w w8 wo.heap.size w5.heap.size n us' l #[.int .i64 v, .int .i64 til, .int .i64 lo, .int .i64 hi, .slice ya m yc] B' L7) := Lib.hid ⟨T7.out.g.keeps hk8 (by exact Nat.ne_of_lt (Nat.lt_succ_self _)), hs8, T7.out.x.keeps hk8 (by exact Nat.ne_of_gt (Nat.lt_trans s5l ml)), T7.out.m.keeps hk8 (by exact Nat.ne_of_gt s5l), Reads.kp R7.out hk8 (fun a ha h => absurd h (Nat.ne_of_gt (Nat.lt_trans s5l (BF7.out a ha)))), below_kp T7.out.b hk8 (Nat.le_succ _)⟩
            clear hs8 hk8 x0 x1 x2 x3 x4 xl T0 T7 R7
            obtain ⟨x0, x1, x2, x3, x4⟩ := T8.out.x.c5
            have xl := T8.out.x.lt
            go_wp2_with fail
            go_region_held3 (fun w' => w'.cell? ⟨wo.heap.size, 2, none⟩ = some (.int .i64 lo) ∧ w'.cell? ⟨wo.heap.size, 3, none⟩ = some (.int .i64 hi)) (first | exact ⟨x2, x3⟩ | go_keep) (first
              | (go_at_call 14; refine (until_any w.heap.size n us' _ hul hn1 hn5 (by repeat (first | with_reducible exact T8.out.g | with_reducible refine Blk.drew ?_))).mono ?_; rintro e wa ⟨rfl, hb⟩; rw [HU.out]; have Ta := Lib.hid (LSt.pass T8.out.drew hb); clear hb; obtain ⟨x0, x1, x2, x3, x4⟩ := Ta.out.x.c5; have xl := Ta.out.x.lt)
              | (go_at_call 15; refine (runtil_any n n (some ⟨w5.heap.size, 0, none⟩) (us'.take n) u _ htl.out hn1 hn5 (Ta.out.rm hnu) hb0.out HC.out.1 HC.out.2.1 HC.out.2.2).mono ?_; rintro e wb ⟨rfl, hb⟩; have Tb := Lib.hid (LSt.pass Ta.out hb); clear hb; obtain ⟨x0, x1, x2, x3, x4⟩ := Tb.out.x.c5; have xl := Tb.out.x.lt)
              | (go_at_call 16; refine (holds_any w.heap.size n us' lo hi _ hul hn1 hn5 Tb.out.g).mono ?_; rintro e wc ⟨rfl, hb⟩; rw [HU.out]; have Tc := Lib.hid (LSt.pass Tb.out hb); clear hb; obtain ⟨x0, x1, x2, x3, x4⟩ := Tc.out.x.c5; have xl := Tc.out.x.lt)
              | (go_at_call 17; refine (rholds_any n n (some ⟨w5.heap.size, 0, none⟩) (us'.take n) u lo hi _ htl.out hn1 hn5 (Tc.out.rm hnu) hb0.out HC.out.1 HC.out.2.1 HC.out.2.2).mono ?_; rintro e wd ⟨rfl, hb⟩; have Td := Lib.hid (LSt.pass Tc.out hb); clear hb; obtain ⟨x0, x1, x2, x3, x4⟩ := Td.out.x.c5; have xl := Td.out.x.lt)
              | (go_at_call 18; refine (last_any (w.heap.size + 1) l _ Td.out.s).mono ?_; rintro e we ⟨rfl, rfl⟩)
              | (go_at_call 19; refine (rlast_any l B' cap' _ rfl HL7.out Td.out.t TL7.out).mono ?_; rintro e we ⟨rfl, rfl⟩)
              )
            all_goals
              go_wp2_with fail
              go_roundw
              case rel => exact ⟨k + 1, us', l, L7, B', cap', by omega, by omega, by go_num, rfl, by omega, hl0', TL7, UU', Lib.hid Td.out.g, Lib.hid Td.out.s, Lib.hid Td.out.m, Lib.hid Td.out.t, BF7, Lib.hid Td.out.b⟩
              case measure => simp [intOf]; omega
      · have hd : decide ((k : Int) < 40) = false := by simp; omega
        go_wp2_with fail
        go_ret
        exact ⟨rfl, HB.out⟩
    · have hd : decide (k < xs.length) = false := by simp; omega
      go_wp2_with fail
      go_ret
      exact ⟨rfl, HB.out⟩
end Go.Proofs.Ytajojpfenlafbaa
