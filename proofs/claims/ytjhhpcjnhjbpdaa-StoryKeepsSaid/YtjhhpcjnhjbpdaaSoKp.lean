/- StoryKeeps: the walk. -/
import Derived.Test.YtjhhpcjnhjbpdaaQF
import Derived.IntWalk
set_option linter.unusedSimpArgs false
set_option linter.unusedVariables false
namespace Go.Proofs.Ytjhhpcjnhjbpdaa
open Go.RowKit Mo
theorem pw_at {xs : List (Int × Int)} (h : xs.Pairwise (fun a b => a.1 < b.1)) (k : Nat) (hk : k < xs.length) (h0 : 0 < k) : (xs[k - 1]'(by omega)).1 < xs[k].1 := List.pairwise_iff_getElem.1 h (k - 1) k (by omega) hk (by omega)
/-- an entry with which nothing is wrong -/
theorem badO_fine {l : List VEntry} {k : Nat} (hk : k < l.length) (h : badO l k = false) : isAc l[k].key = true ∧ prevK l k < l[k].key ∧ isA l[k].v = true := by
  unfold badO at h
  rw [List.getElem?_eq_getElem hk] at h
  simp only [Bool.or_eq_false_iff, Bool.not_eq_false', decide_eq_false_iff_not, Int.not_le] at h
  exact ⟨h.1, h.2.1, h.2.2⟩
/-- accounts that were opened, one by one, without a fault -/
theorem runs_fine {l : List VEntry} {F : Nat → Int → Option (Int × Int)} (hF : OpRuns l F) (hb : ∀ j, j < l.length → badO l j = false) : ∀ k, k ≤ l.length → (∀ a, prevK l k < a → F k a = none) ∧ tot (F k) = sumA ((l.map VEntry.v).take k) := by
  intro k
  induction k with
  | zero => intro _; rw [hF.1]; exact ⟨fun _ _ => rfl, by rw [tot_nil]; rfl⟩
  | succ k ih =>
    intro hk
    obtain ⟨h1, h2⟩ := ih (by omega)
    obtain ⟨b1, b2, b3⟩ := badO_fine (by omega) (hb k (by omega))
    obtain ⟨E, hO⟩ := hF.2 k (by omega)
    have hp : prevK l (k + 1) = l[k].key := by show ((l[k]?).map VEntry.key).getD 0 = _; rw [List.getElem?_eq_getElem (by omega)]; rfl
    have hn := h1 _ b2
    have ht := tot_opened hO
    rcases hO with ⟨h, _⟩ | ⟨_, h, _⟩ | ⟨_, _, h, _⟩ | ⟨_, _, _, hE, hf⟩
    · rw [b1] at h; cases h
    · rw [hn] at h; cases h
    · rw [b3] at h; cases h
    · refine ⟨fun a ha => ?_, ?_⟩
      · rw [hp] at ha
        rw [hf]
        show (if a = l[k].key then some (l[k].v, 0) else F k a) = none
        rw [if_neg (by omega)]
        exact h1 a (by omega)
      · rw [ht, if_pos hE, h2, sumA_take _ k (by rw [List.length_map]; omega), List.getElem_map]
theorem moves_tot {l : List VCall20} {r : Nat} {R : List Int} {G : Nat → Int → Option (Int × Int)} {EE : Nat → Int} (h : MvRuns l r R G EE) : ∀ k, k ≤ R.length → tot (G k) = tot (G 0) := by
  intro k
  induction k with
  | zero => intro _; rfl
  | succ k ih =>
    intro hk
    obtain ⟨V, hO⟩ := h k (by omega)
    rw [tot_moved hO, ih (by omega)]
/-- what a story keeps -/
theorem story_keeps {r : Nat} {ops : List VEntry} {l : List VCall20} {F : Nat → Int → Option (Int × Int)} {R : List Int} {G : Nat → Int → Option (Int × Int)} {EE : Nat → Int} (h : StRun r ops l F R G EE) (hf : Fine r ops l R EE) (k : Nat) (hk : k ≤ R.length) :
    sumA ((ents (G k)).map Prod.snd) = sumA (ops.map VEntry.v) ∧ FOk (G k) (0 + k) := by
  refine ⟨?_, h.g.ok hf.1 (Int.le_refl 0) (by rw [h.g0]; exact h.f.ok _ (Nat.le_refl _)) k hk⟩
  rw [ents_tot, moves_tot h.g k hk, h.g0, (runs_fine h.f hf.2.1 _ (Nat.le_refl _)).2, List.take_of_length_le (by rw [List.length_map]; omega)]
theorem vs_ok {ops : List VEntry} (hb : ∀ j, j < ops.length → badO ops j = false) : ∀ x ∈ ops.map VEntry.v, 0 ≤ x ∧ x ≤ 1000000000000000 := by
  intro x hx
  obtain ⟨u, hu, rfl⟩ := List.mem_map.1 hx
  obtain ⟨j, hj, rfl⟩ := List.mem_iff_getElem.1 hu
  exact isA_iff.1 (badO_fine hj (hb j hj)).2.2
theorem sum_le_len (l : List Int) (h : ∀ x ∈ l, 0 ≤ x ∧ x ≤ 1000000000000000) : sumA l ≤ l.length * 1000000000000000 := by
  induction l with
  | nil => simp [sumA]
  | cons x l ih =>
    have h1 := h x (List.mem_cons_self ..)
    have h2 := ih (fun y hy => h y (List.mem_cons_of_mem _ hy))
    simp only [sumA, List.length_cons]
    omega
set_option maxRecDepth 100000 in
set_option maxHeartbeats 4000000 in
theorem storyKeeps_walk (w : World) (r : Nat) (A : Option Addr) (c : Nat) (ops : List VEntry) (B : Option Addr) (d : Nat) (l : List VCall20) (hwr : (Lit.float .f64 r).wf = true) (ha : SlOk w 2 A c (ops.flatMap VEntry.cells)) (hc : ops.length ≤ c) (hm : c ≤ maxLen) (hx : ∀ u_ ∈ ops, VEntry.ok w u_) (hb : SlOk w 8 B d (l.flatMap VCall20.cells)) (hd : l.length ≤ d) (hm2 : d ≤ maxLen) (hx2 : ∀ u_ ∈ l, VCall20.ok w u_) (t : Int) (wt : (Lit.int .i64 t).wf = true) :
    Calls Try.prog 5 #[.agg #[.float .f64 r, .slice A ops.length c, .slice B l.length d], .int .i64 t] w fun e w' => e = .returned (.bool true) ∧ Below w.heap.size w w' := by
  by_cases hfew : ops.length ≤ 20 ∧ l.length ≤ 40
  · obtain ⟨h1, h2⟩ := hfew
    have SI := Lib.hid (StIn.mk' hwr ha hx hb hd hx2 h1 h2)
    obtain ⟨F, R, G, EE, hrun⟩ := stRun_ex r ops l
    obtain ⟨k0, hk0⟩ := upTo_ex hrun.o t
    have SR := Lib.hid hrun
    have K0 := Lib.hid hk0
    clear hwr ha hc hm hx hb hd hm2 hx2 hrun hk0 wt
    have S0 := Lib.hid (Blk.new w 36 #[.float .f64 r, .slice A ops.length c, .slice B l.length d])
    have W0 : Hid (Below w.heap.size w (w.alloc (.cells #[.float .f64 r, .slice A ops.length c, .slice B l.length d] 36))) := Lib.hid (by repeat (first | exact Below.refl _ _ | refine below_alloc_ ?_ _ | refine Below.drew ?_))
    go_enter Try.func5, Try.ntmps5
    go_wp2_with fail
    refine (few_t r A B ops.length c l.length d _ h1 h2).mono ?_
    rintro e w1 ⟨rfl, hb1⟩
    have W1 := Lib.hid (below_then W0.out hb1)
    have S1 := Lib.hid (blk_pass S0.out (Below.refl _ _) hb1)
    obtain ⟨⟨s0, s1, s2⟩, sl⟩ := S1.out.c3
    clear hb1
    go_wp2_with fail
    refine (SI.out.at SR.out W1.out K0.out).mono ?_
    rintro e w2 ⟨Aa, ca, L, E, rfl, hrd, hs, _, hb2⟩
    have W2 := Lib.hid (below_then W1.out hb2)
    have S2 := Lib.hid (blk_pass S1.out (Below.refl _ _) hb2)
    have L2 := Lib.hid hrd
    have AS := Lib.hid hs
    clear hb2 hs hrd s0 s1 s2 sl S0 S1 W0 W1
    by_cases he : E = 0
    · subst he
      have hL : L = ents (G k0) ∧ Fine r ops l R EE := by
        rcases AS.out with ⟨V, _, h, _⟩ | ⟨V, h, ⟨_, h', _⟩ | ⟨_, _, h'⟩⟩
        · exact absurd rfl h
        · exact absurd h' (by decide)
        · exact ⟨h', fine_of_chk h⟩
      obtain ⟨hL, hf⟩ := hL
      obtain ⟨hsum, hFO⟩ := story_keeps SR.out hf k0 K0.out.1
      have hlen := ents_len (G k0)
      have HS := Lib.hid (ents_sorted hFO.sup)
      have HV := Lib.hid (ents_val hFO)
      have VS := Lib.hid (vs_ok hf.2.1)
      have hT := sum_le_len _ VS.out
      have hT0 := (sum_take_le (ops.map VEntry.v) (fun x hx => (VS.out x hx).1) ops.length).1
      rw [List.length_map] at hT
      have HE := Lib.hid hsum
      rw [← hL] at HS HV HE hlen
      have ol := SI.out.hl
      rw [List.take_of_length_le (by rw [List.length_map]; omega)] at hT0
      obtain ⟨T, hTT⟩ : ∃ T, sumA (ops.map VEntry.v) = T := ⟨_, rfl⟩
      rw [hTT] at hT hT0 HE
      have HT := Lib.hid hTT
      have T1 : T ≤ 20000000000000000 := by omega
      clear hL hf hsum hFO hTT hT AS
      go_wp2_with (go_at_call 7; (with_reducible refine (awake20_any _).mono ?_); rintro e w3 ⟨rfl, hb3⟩; have W3 := Lib.hid (below_then W2.out hb3); have S3 := Lib.hid (blk_pass S2.out (Below.refl _ _) hb3); have L3 := Lib.hid (L2.out.pass hb3); clear hb3)
      clear S2 W2 L2
      obtain ⟨⟨s0, s1, s2⟩, sl⟩ := S3.out.c3
      go_loopw [7, 8] (fun s7 s8 wr => ∃ (k : Nat) (m : Int), k ≤ ops.length ∧ s8 = .int .i64 k ∧ s7 = .int .i64 m ∧ Hid (m = sumA ((ops.map VEntry.v).take k)) ∧ Hid (Below w3.heap.size w3 wr)) (fun _ s _ => ops.length - (intOf s).toNat)
      case atStart => exact ⟨0, 0, Nat.zero_le _, rfl, rfl, Lib.hid rfl, Lib.hid (Below.refl _ _)⟩
      case round =>
        obtain ⟨k, m, hk, rfl, rfl, HM, HW⟩ := hrel
        replace s0 := below_cell s0 HW.out; replace s1 := below_cell s1 HW.out; replace s2 := below_cell s2 HW.out
        by_cases hlt : k < ops.length
        · have hd : decide ((k : Int) < (ops.length : Int)) = true := by simp; omega
          have hd' : decide (k < ops.length) = true := by simp; omega
          obtain ⟨ad, hA, hadb, hcell⟩ := (SI.out.ha.below (below_then W3.out HW.out)).2 (by omega)
          subst hA
          obtain ⟨q0, q1⟩ := ve_at hcell k hlt
          have mb := sum_take_le (ops.map VEntry.v) (fun x hx => (VS.out x hx).1) k
          rw [HT.out, ← HM.out] at mb
          obtain ⟨m0, m1⟩ := mb
          have vb := VS.out ops[k].v (List.mem_map_of_mem (List.getElem_mem hlt))
          have HM1 := Lib.hid (show m + ops[k].v = sumA ((ops.map VEntry.v).take (k + 1)) by rw [sumA_take _ k (by rw [List.length_map]; omega), List.getElem_map, HM.out])
          obtain ⟨v0, v1⟩ := vb
          clear hcell
          generalize ops[k] = x at *
          obtain ⟨xk, xv⟩ := x
          simp only at q0 q1 v0 v1 HM1
          go_wp2_with fail
          go_roundw
          case rel => exact ⟨k + 1, m + xv, by omega, by go_num, rfl, HM1, HW⟩
          case measure => simp [intOf]; omega
        · have hd : decide ((k : Int) < (ops.length : Int)) = false := by simp; omega
          have hd' : decide (k < ops.length) = false := by simp; omega
          have hmT : m = T := by rw [HM.out, List.take_of_length_le (by rw [List.length_map]; omega), HT.out]
          subst hmT
          rename World => w4
          have L4 := Lib.hid (L3.out.pass HW.out)
          have W4 := Lib.hid (below_then W3.out HW.out)
          clear L3 W3 S3 HW HM
          go_wp2_with fail
          clear s0 s1 s2 sl
          go_loopw [7, 9] (fun s7 s9 wr => ∃ (k : Nat) (n : Int), k ≤ L.length ∧ s9 = .int .i64 k ∧ s7 = .int .i64 n ∧ Hid (n = m - sumA ((L.map Prod.snd).take k)) ∧ Hid (Below w4.heap.size w4 wr)) (fun _ s _ => L.length - (intOf s).toNat)
          case atStart => exact ⟨0, m, Nat.zero_le _, rfl, rfl, Lib.hid (by simp [sumA]), Lib.hid (Below.refl _ _)⟩
          case round =>
            obtain ⟨k, n, hk, rfl, rfl, HN, HW⟩ := hrel
            by_cases hlt : k < L.length
            · have hd : decide ((k : Int) < (L.length : Int)) = true := by simp; omega
              have hd' : decide (k < L.length) = true := by simp; omega
              obtain ⟨ad, hA, hadb, hcell⟩ := (L4.out.below HW.out).2 (by omega)
              subst hA
              obtain ⟨q0, q1⟩ := ents_at (B := 0) (n := 0) hcell k hlt
              replace q1 := cell_in _ 1 (by omega) q1
              have hv := HV.out L[k] (List.getElem_mem hlt)
              have hp := fun h0 => pw_at HS.out k hlt h0
              have sb := sum_take_le (L.map Prod.snd) (fun x hx => by obtain ⟨p, hp, rfl⟩ := List.mem_map.1 hx; exact (HV.out p hp).2.2.1)
              have sb0 := sb k
              have sb1 := sb (k + 1)
              have hst := sumA_take (L.map Prod.snd) k (by rw [List.length_map]; omega)
              rw [List.getElem_map] at hst
              rw [HE.out] at sb0 sb1
              have nb0 : 0 ≤ n ∧ n ≤ m := by have := HN.out; omega
              have nb1 : 0 ≤ n - (L[k]).2 := by have := HN.out; omega
              have HN1 := Lib.hid (show n - (L[k]).2 = m - sumA ((L.map Prod.snd).take (k + 1)) by have := HN.out; omega)
              obtain ⟨nb2, nb3⟩ := nb0
              clear sb sb0 sb1 hst
              rcases (show k = 0 ∨ 0 < k by omega) with h0 | h0
              · have g1 : decide ((0 : Int) < (k : Int)) = false := by simp; omega
                have g1' : decide (0 < k) = false := by simp; omega
                clear h0 hp
                generalize L[k] = x at *
                clear hcell
                obtain ⟨x1, x2⟩ := x
                simp only at q0 q1 hv nb1 HN1
                obtain ⟨v0, v1, v2, v3, v4⟩ := hv
                have g3 : decide (x2 < 0) = false := by simp; omega
                go_wp2_with fail
                go_quiet (fail)
                go_wp2_with fail
                go_roundw
                case rel => exact ⟨k + 1, n - x2, by omega, by go_num, rfl, HN1, Lib.hid (below_dn HW.out _)⟩
                case measure => simp [intOf]; omega
              · obtain ⟨p0, p1⟩ := ents_at (B := 0) (n := 0) hcell (k - 1) (by omega)
                have hp := hp h0
                generalize L[k - 1]'(by omega) = y at *
                clear hcell
                generalize L[k] = x at *
                obtain ⟨x1, x2⟩ := x
                obtain ⟨y1, y2⟩ := y
                simp only at q0 q1 p0 hv hp nb1 HN1
                obtain ⟨v0, v1, v2, v3, v4⟩ := hv
                have k1 : IntKind.i64.wrap ((k : Int) - 1) = (k : Int) - 1 := IntWalk.i64_in _ (by omega)
                have k2 : (0 : Int) ≤ (k : Int) - 1 := by omega
                have k3 : ((k : Int) - 1).toNat = k - 1 := by omega
                have k4 : (k : Int) - 1 < (L.length : Int) := by omega
                have g1 : decide ((0 : Int) < (k : Int)) = true := by simp; omega
                have g2 : decide (x1 ≤ y1) = false := by simp; omega
                have g3 : decide (x2 < 0) = false := by simp; omega
                go_wp2_with fail
                go_quiet (fail)
                go_wp2_with fail
                go_roundw
                case rel => exact ⟨k + 1, n - x2, by omega, by go_num, rfl, HN1, Lib.hid (below_dn HW.out _)⟩
                case measure => simp [intOf]; omega
            · have hd : decide ((k : Int) < (L.length : Int)) = false := by simp; omega
              have hd' : decide (k < L.length) = false := by simp; omega
              have hn0 : n = 0 := by rw [HN.out, List.take_of_length_le (by rw [List.length_map]; omega), HE.out]; omega
              subst hn0
              go_wp2_with fail
              go_ret
              exact ⟨rfl, below_then W4.out HW.out⟩
    · have hL : L = [] := by
        rcases AS.out with ⟨V, _, _, h⟩ | ⟨V, _, ⟨_, _, h⟩ | ⟨_, h, _⟩⟩
        · exact h
        · exact h
        · exact absurd h he
      subst hL
      have e1 : (E == 0) = false := by simpa using he
      have e2 : (E != 0) = true := by simpa using he
      clear he
      go_wp2_with (first
        | (go_at_call 7; (have := W3; clear this); (with_reducible refine (awake20_any _).mono ?_); rintro e w4 ⟨rfl, hb4⟩; have W4 := Lib.hid (below_then W3.out hb4); clear hb4)
        | (go_at_call 7; (with_reducible refine (awake20_any _).mono ?_); rintro e w3 ⟨rfl, hb3⟩; have W3 := Lib.hid (below_then W2.out hb3); clear hb3))
      go_ret
      exact ⟨rfl, W4.out⟩
  · have W0 : Hid (Below w.heap.size w (w.alloc (.cells #[.float .f64 r, .slice A ops.length c, .slice B l.length d] 36))) := Lib.hid (by repeat (first | exact Below.refl _ _ | refine below_alloc_ ?_ _ | refine Below.drew ?_))
    have HF := Lib.hid hfew
    have S0 := Lib.hid (Blk.new w 36 #[.float .f64 r, .slice A ops.length c, .slice B l.length d])
    clear hwr ha hc hm hx hb hd hm2 hx2 hfew
    go_enter Try.func5, Try.ntmps5
    go_wp2_with (first
      | (go_at_call 11; (with_reducible refine (few_f r A B ops.length c l.length d _ HF.out).mono ?_); rintro e w1 ⟨rfl, hb1⟩; have W1 := Lib.hid (below_then W0.out hb1); clear hb1)
      | (go_at_call 7; (with_reducible refine (awake20_any _).mono ?_); rintro e w3 ⟨rfl, hb3⟩; have W3 := Lib.hid (below_then W1.out hb3); clear hb3))
    go_ret
    exact ⟨rfl, W3.out⟩
end Go.Proofs.Ytjhhpcjnhjbpdaa
