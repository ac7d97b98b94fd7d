/- The document's Check. -/
import Derived.Test.YtjhhpcjnhjbpdaaGreatDcK
import Derived.IntWalk
set_option linter.unusedSimpArgs false
set_option linter.unusedVariables false
namespace Go.Proofs.YtjhhpcjnhjbpdaaGreat
open Go.RowKit Mo
attribute [local go_sem] run_store_float
theorem ris_q {n : Int} {b : Bool} (w : World) (h : isA n = b) : Calls Tryz.prog 19 #[.int .i64 n] w fun e w' => e = .returned (.bool b) ∧ w' = w := (ris_v w h).mono fun _ _ ⟨h1, h2⟩ => ⟨h1, h2.symm⟩
/-- what the document's test of an entry comes to -/
theorem badO_cases {l : List VEntry} {i : Nat} (hi : i < l.length) :
    (decide (l[i].key < 0) = true ∧ badO l i = true) ∨ (decide (l[i].key < 0) = false ∧ decide (4095 < l[i].key) = true ∧ badO l i = true) ∨
    (decide (l[i].key < 0) = false ∧ decide (4095 < l[i].key) = false ∧ ((i = 0 ∧ isA l[i].v = !(badO l i)) ∨ (0 < i ∧ l[i].key ≤ prevK l i ∧ badO l i = true) ∨ (0 < i ∧ ¬ l[i].key ≤ prevK l i ∧ isA l[i].v = !(badO l i)))) := by
  have hb : badO l i = (!(isAc l[i].key) || (decide (l[i].key ≤ prevK l i) || !(isA l[i].v))) := by unfold badO; rw [List.getElem?_eq_getElem hi]
  by_cases h1 : l[i].key < 0
  · refine .inl ⟨decide_eq_true h1, ?_⟩
    rw [hb, show isAc l[i].key = false by unfold isAc; simp; omega]; rfl
  · by_cases h2 : 4095 < l[i].key
    · refine .inr (.inl ⟨decide_eq_false h1, decide_eq_true h2, ?_⟩)
      rw [hb, show isAc l[i].key = false by unfold isAc; simp; omega]; rfl
    · refine .inr (.inr ⟨decide_eq_false h1, decide_eq_false h2, ?_⟩)
      have hac : isAc l[i].key = true := isAc_iff.2 ⟨by omega, by omega⟩
      rw [hb, hac]
      by_cases h3 : i = 0
      · refine .inl ⟨h3, ?_⟩
        have hp : ¬ l[i].key ≤ prevK l i := by subst h3; simp only [prevK]; omega
        rw [decide_eq_false hp]; simp
      · by_cases h4 : l[i].key ≤ prevK l i
        · refine .inr (.inl ⟨by omega, h4, ?_⟩); rw [decide_eq_true h4]; rfl
        · refine .inr (.inr ⟨by omega, h4, ?_⟩); rw [decide_eq_false h4]; simp
theorem prevK_at {l : List VEntry} {i : Nat} (h0 : 0 < i) (hi : i < l.length) : prevK l i = (l[i - 1]'(by omega)).key := by
  cases i with
  | zero => omega
  | succ j => show ((l[j]?).map VEntry.key).getD 0 = l[j].key; rw [List.getElem?_eq_getElem (by omega)]; rfl
theorem DcBk.set2' {w : World} {A : Option Addr} {D : List Dn} {m g : Nat} {f : Int → Option (Int × Int)} (h : DcBk w A D m f) (hg : ∀ x, A = some x → 0 < D.length → x.block ≠ g) (u v : Value) : DcBk ((w.setCell ⟨g, 0, none⟩ u).setCell ⟨g, 1, none⟩ v) A D m f := by
  by_cases h0 : 0 < D.length
  · exact h.set2 (fun x hx => hg x hx h0) u v
  · exact ⟨⟨h.rd.1, fun h => absurd h h0⟩, h.ok, h.doc, h.len⟩
theorem wrong_212 {l : List VCall20} {i : Nat} (hi : i < l.length) (h : callOk l[i] = false) : wrong l i = 212 := by
  unfold wrong
  rw [List.getElem?_eq_getElem hi]
  exact if_pos h
theorem any_id {l : List VCall20} {i : Nat} {x : VCall20} (hi : i < l.length) : ((l.take i).any (fun d => d.x_id == x.x_id) = true) ↔ ∃ k, ∃ h : k < i, (l[k]'(by omega)).x_id = x.x_id := by
  rw [List.any_eq_true]
  constructor
  · rintro ⟨d, hd, he⟩
    obtain ⟨k, hk, rfl⟩ := List.mem_take_iff_getElem.1 hd
    exact ⟨k, by omega, by simpa using he⟩
  · rintro ⟨k, hk, he⟩
    exact ⟨l[k]'(by omega), List.mem_take_iff_getElem.2 ⟨k, by omega, rfl⟩, by simpa using he⟩
theorem wrong_213 {l : List VCall20} {i k : Nat} (hi : i < l.length) (hc : callOk l[i] = true) (hk : k < i) (he : (l[k]'(by omega)).x_id = l[i].x_id) : wrong l i = 213 := by
  unfold wrong
  rw [List.getElem?_eq_getElem hi]
  dsimp only
  rw [if_neg (by rw [hc]; simp), if_pos ((any_id hi).2 ⟨k, hk, he⟩)]
theorem wrong_rest {l : List VCall20} {i : Nat} (hi : i < l.length) (hc : callOk l[i] = true) (hn : ∀ k (h : k < i), (l[k]'(by omega)).x_id ≠ l[i].x_id) : wrong l i = if l[i].fate = 2 ∧ (l[i].tt ≤ l[i].fr ∨ l[i].too ≤ l[i].tt) then 214 else 0 := by
  unfold wrong
  rw [List.getElem?_eq_getElem hi]
  dsimp only
  rw [if_neg (by rw [hc]; simp), if_neg (fun h => by obtain ⟨k, hk, he⟩ := (any_id hi).1 h; exact hn k hk he)]
theorem rcall_v {id xf xt xn fr too fate tt : Int} {b : Bool} (w : World) (h : callOk ⟨id, xf, xt, xn, fr, too, fate, tt⟩ = b) : Calls Tryz.prog 20 #[.agg #[.int .i64 id, .int .i64 xf, .int .i64 xt, .int .i64 xn, .int .i64 fr, .int .i64 too, .int .i64 fate, .int .i64 tt]] w fun e w' => e = .returned (.bool b) ∧ Below w.heap.size w w' := by
  rw [← h]; exact rcall_any id xf xt xn fr too fate tt w
set_option maxRecDepth 100000 in
set_option maxHeartbeats 8000000 in
theorem rcheck_any (r : Nat) (A B : Option Addr) (c d : Nat) (ops : List VEntry) (l : List VCall20) (F : Nat → Int → Option (Int × Int)) (R : List Int) (G : Nat → Int → Option (Int × Int)) (EE : Nat → Int) (w : World) (hb : r < 18446744073709551616)
    (ha : Reads w w.heap.size 2 A ops.length (ops.flatMap VEntry.cells)) (hl : ops.length ≤ 20) (hb2 : Reads w w.heap.size 8 B l.length (l.flatMap VCall20.cells)) (hx2 : ∀ u ∈ l, VCall20.ok w u) (hl2 : l.length ≤ 40) (hF : OpRuns ops F) (hR : OrdL l R) (hG0 : G 0 = F ops.length) (hG : MvRuns l r R G EE) :
    Calls Tryz.prog 8 #[.float .f64 r, .slice A ops.length c, .slice B l.length d] w (ChkPost r ops l R EE w) := by
  have HA := Lib.hid ha; have HB := Lib.hid hb2; have HX2 := Lib.hid hx2; have HF := Lib.hid hF; have HR := Lib.hid hR; have HG0 := Lib.hid hG0; have HG := Lib.hid hG
  clear ha hb2 hx2 hF hR hG0 hG
  cases hrt : rateOk r
  · have HK := Lib.hid hrt
    clear hrt
    go_enter Tryz.func8, Tryz.ntmps8
    go_wp2_with (go_at_call 18; (with_reducible refine (rated_any r _ hb).mono ?_); rintro e w1 ⟨rfl, rfl⟩; rw [HK.out])
    go_ret2
    exact ⟨_, _, rfl, .inl ⟨HK.out, rfl, rfl⟩, Below.refl _ _⟩
  · have HK := Lib.hid hrt
    clear hrt
    go_enter Tryz.func8, Tryz.ntmps8
    go_wp2_with (go_at_call 18; (with_reducible refine (rated_any r _ hb).mono ?_); rintro e w1 ⟨rfl, rfl⟩; rw [HK.out])
    go_loopw [8] (fun s wr => ∃ i : Nat, i ≤ ops.length ∧ s = .int .i64 i ∧ Hid (∀ j, j < i → badO ops j = false) ∧ Hid (Below w.heap.size w wr)) (fun s _ => ops.length - (intOf s).toNat)
    case atStart => exact ⟨0, Nat.zero_le _, rfl, Lib.hid (fun j h => absurd h (Nat.not_lt_zero _)), Lib.hid (Below.refl _ _)⟩
    case round =>
      obtain ⟨i, hi, rfl, HN, HW⟩ := hrel
      by_cases hlt : i < ops.length
      · have hd : decide ((i : Int) < (ops.length : Int)) = true := by simp; omega
        have hd' : decide (i < ops.length) = true := by simp; omega
        obtain ⟨ad, hA, hadb, hcell⟩ := (HA.out.below HW.out).2 (by omega)
        subst hA
        obtain ⟨q0, q1⟩ := ve_at hcell i hlt
        have hbc := badO_cases hlt
        have i0 : (0 : Int) ≤ (i : Int) := by omega
        have i1 : (i : Int) < (ops.length : Int) := by omega
        rcases hbc with ⟨g1, g2⟩ | ⟨g1, g2, g3⟩ | ⟨g1, g2, ⟨g3, g4⟩ | ⟨g3, g4, g5⟩ | ⟨g3, g4, g5⟩⟩
        · have BI := Lib.hid g2
          clear g2 hcell
          generalize ops[i] = x at *
          obtain ⟨xk, xv⟩ := x
          simp only at q0 q1 g1
          go_wp2_with fail
          go_quiet (fail)
          go_wp2_with fail
          go_ret2
          exact ⟨_, _, rfl, .inr (.inl ⟨HK.out, i0, .inl ⟨i, hlt, rfl, BI.out, HN.out⟩, rfl⟩), below_dn HW.out _⟩
        · have BI := Lib.hid g3
          clear g3 hcell
          generalize ops[i] = x at *
          obtain ⟨xk, xv⟩ := x
          simp only at q0 q1 g1 g2
          go_wp2_with fail
          go_quiet (fail)
          go_wp2_with fail
          go_ret2
          exact ⟨_, _, rfl, .inr (.inl ⟨HK.out, i0, .inl ⟨i, hlt, rfl, BI.out, HN.out⟩, rfl⟩), below_dn HW.out _⟩
        · have d1 : decide ((0 : Int) < (i : Int)) = false := by simp; omega
          have d2 : decide (0 < i) = false := by simp; omega
          have G4 := Lib.hid g4
          clear g4 hcell g3
          generalize ops[i] = x at *
          obtain ⟨xk, xv⟩ := x
          simp only at q0 q1 g1 g2 G4
          cases hbi : badO ops i
          · have BI := Lib.hid hbi
            have HV := Lib.hid (show isA xv = true by rw [G4.out, hbi]; rfl)
            clear hbi
            go_wp2_with fail
            go_quiet ((go_at_call 19; with_reducible exact Calls.quiet_of_same (ris_q (n := xv) _ HV.out)))
            go_wp2_with fail
            go_roundw
            case rel => exact ⟨i + 1, by omega, by go_num, Lib.hid (fun j hj => by
              rcases Nat.lt_or_eq_of_le (Nat.lt_succ_iff.1 hj) with e | e
              · exact HN.out j e
              · rw [e]; exact BI.out), Lib.hid (below_dn HW.out _)⟩
            case measure => simp [intOf]; omega
          · have BI := Lib.hid hbi
            have HV := Lib.hid (show isA xv = false by rw [G4.out, hbi]; rfl)
            clear hbi
            go_wp2_with fail
            go_quiet ((go_at_call 19; with_reducible exact Calls.quiet_of_same (ris_q (n := xv) _ HV.out)))
            go_wp2_with fail
            go_ret2
            exact ⟨_, _, rfl, .inr (.inl ⟨HK.out, i0, .inl ⟨i, hlt, rfl, BI.out, HN.out⟩, rfl⟩), below_dn HW.out _⟩
        · have d1 : decide ((0 : Int) < (i : Int)) = true := by simp; omega
          have d2 : decide (0 < i) = true := by simp; omega
          have BI := Lib.hid g5
          obtain ⟨p0, p1⟩ := ve_at hcell (i - 1) (by omega)
          rw [prevK_at g3 hlt] at g4
          have k1 : IntKind.i64.wrap ((i : Int) - 1) = (i : Int) - 1 := IntWalk.i64_in _ (by omega)
          have k2 : (0 : Int) ≤ (i : Int) - 1 := by omega
          have k3 : ((i : Int) - 1).toNat = i - 1 := by omega
          have k4 : (i : Int) - 1 < (ops.length : Int) := by omega
          clear g5 hcell
          generalize ops[i - 1]'(by omega) = y at *
          generalize ops[i] = x at *
          obtain ⟨xk, xv⟩ := x
          obtain ⟨yk, yv⟩ := y
          simp only at q0 q1 g1 g2 p0 g4
          have d3 : decide (xk ≤ yk) = true := by simpa using g4
          go_wp2_with fail
          go_quiet (fail)
          go_wp2_with fail
          go_ret2
          exact ⟨_, _, rfl, .inr (.inl ⟨HK.out, i0, .inl ⟨i, hlt, rfl, BI.out, HN.out⟩, rfl⟩), below_dn HW.out _⟩
        · have d1 : decide ((0 : Int) < (i : Int)) = true := by simp; omega
          have d2 : decide (0 < i) = true := by simp; omega
          have G5 := Lib.hid g5
          obtain ⟨p0, p1⟩ := ve_at hcell (i - 1) (by omega)
          rw [prevK_at g3 hlt] at g4
          have k1 : IntKind.i64.wrap ((i : Int) - 1) = (i : Int) - 1 := IntWalk.i64_in _ (by omega)
          have k2 : (0 : Int) ≤ (i : Int) - 1 := by omega
          have k3 : ((i : Int) - 1).toNat = i - 1 := by omega
          have k4 : (i : Int) - 1 < (ops.length : Int) := by omega
          clear g5 hcell
          generalize ops[i - 1]'(by omega) = y at *
          generalize ops[i] = x at *
          obtain ⟨xk, xv⟩ := x
          obtain ⟨yk, yv⟩ := y
          simp only at q0 q1 g1 g2 p0 g4 G5
          have d3 : decide (xk ≤ yk) = false := by simpa using g4
          cases hbi : badO ops i
          · have BI := Lib.hid hbi
            have HV := Lib.hid (show isA xv = true by rw [G5.out, hbi]; rfl)
            clear hbi
            go_wp2_with fail
            go_quiet ((go_at_call 19; with_reducible exact Calls.quiet_of_same (ris_q (n := xv) _ HV.out)))
            go_wp2_with fail
            go_roundw
            case rel => exact ⟨i + 1, by omega, by go_num, Lib.hid (fun j hj => by
              rcases Nat.lt_or_eq_of_le (Nat.lt_succ_iff.1 hj) with e | e
              · exact HN.out j e
              · rw [e]; exact BI.out), Lib.hid (below_dn HW.out _)⟩
            case measure => simp [intOf]; omega
          · have BI := Lib.hid hbi
            have HV := Lib.hid (show isA xv = false by rw [G5.out, hbi]; rfl)
            clear hbi
            go_wp2_with fail
            go_quiet ((go_at_call 19; with_reducible exact Calls.quiet_of_same (ris_q (n := xv) _ HV.out)))
            go_wp2_with fail
            go_ret2
            exact ⟨_, _, rfl, .inr (.inl ⟨HK.out, i0, .inl ⟨i, hlt, rfl, BI.out, HN.out⟩, rfl⟩), below_dn HW.out _⟩
      · have hd : decide ((i : Int) < (ops.length : Int)) = false := by simp; omega
        have hd' : decide (i < ops.length) = false := by simp; omega
        obtain rfl : i = ops.length := by omega
        have OPD : Hid (OpdIs ops (-1)) := Lib.hid (.inr ⟨rfl, HN.out⟩)
        rename World => wa
        go_wp2_with fail
        have WA := HW
        clear HW HN
        go_loopw [9] (fun s wr => ∃ i : Nat, i ≤ l.length ∧ s = .int .i64 i ∧ Hid (∀ j, j < i → wrong l j = 0) ∧ Hid (Below w.heap.size w wr)) (fun s _ => l.length - (intOf s).toNat)
        case atStart => exact ⟨0, Nat.zero_le _, rfl, Lib.hid (fun j h => absurd h (Nat.not_lt_zero _)), WA⟩
        case round =>
          clear WA
          obtain ⟨i, hi2, rfl, HN, HW⟩ := hrel
          rename World => wo
          by_cases hlt : i < l.length
          · have hd : decide ((i : Int) < (l.length : Int)) = true := by simp; omega
            have hd' : decide (i < l.length) = true := by simp; omega
            obtain ⟨ad, hA, hadb, hcell⟩ := HB.out.2 (by omega)
            subst hA
            have HC := Lib.hid hcell; have HAB := Lib.hid hadb
            obtain ⟨x0, x1, x2, x3, x4, x5, x6, x7⟩ := call_at8 HW.out hadb hcell i hlt
            have i0 : (0 : Int) ≤ (i : Int) := by omega
            have i1 : (i : Int) < (l.length : Int) := by omega
            have L2 := Lib.hid (wrong_212 hlt)
            have L3 := Lib.hid (fun k hc (hk : k < i) he => wrong_213 (k := k) hlt hc hk he)
            have L4 := Lib.hid (fun hc hn => wrong_rest hlt hc hn)
            clear hcell hadb
            generalize l[i] = x at *
            obtain ⟨xi, xf, xt, xn, xfr, xto, xfa, xs⟩ := x
            simp only at x0 x1 x2 x3 x4 x5 x6 x7 L2 L3 L4
            cases hco : callOk ⟨xi, xf, xt, xn, xfr, xto, xfa, xs⟩
            · have HCO := Lib.hid hco
              have LL := Lib.hid (L2.out hco)
              clear hco
              go_wp2_with (go_at_call 20; (with_reducible refine (rcall_v _ HCO.out).mono ?_); rintro e w1 ⟨rfl, hb1⟩; have W1 := Lib.hid (below_then HW.out hb1); clear hb1)
              go_ret2
              exact ⟨_, _, rfl, .inr (.inr (.inl ⟨HK.out, OPD.out, .inl ⟨i, hlt, rfl, LL.out.symm, by rw [LL.out]; decide, HN.out⟩, by decide⟩)), W1.out⟩
            · have HCO := Lib.hid hco
              clear hco
              go_wp2_with (go_at_call 20; (with_reducible refine (rcall_v _ HCO.out).mono ?_); rintro e w1 ⟨rfl, hb1⟩; have W1 := Lib.hid (below_then HW.out hb1); have X1 := Lib.hid hb1; clear hb1)
              go_loopw [10] (fun s wr => ∃ k : Nat, k ≤ i ∧ s = .int .i64 k ∧ Hid (∀ j, j < k → (cAt l (j : Int)).x_id ≠ xi) ∧ Hid (Below wo.heap.size wo wr)) (fun s _ => i - (intOf s).toNat)
              case atStart => exact ⟨0, Nat.zero_le _, rfl, Lib.hid (fun j h => absurd h (Nat.not_lt_zero _)), X1⟩
              case round =>
                clear W1 X1
                obtain ⟨k, hk, rfl, HI, HX⟩ := hrel
                rename World => wi
                replace x0 := below_cell x0 HX.out; replace x1 := below_cell x1 HX.out; replace x2 := below_cell x2 HX.out; replace x3 := below_cell x3 HX.out; replace x4 := below_cell x4 HX.out; replace x5 := below_cell x5 HX.out; replace x6 := below_cell x6 HX.out; replace x7 := below_cell x7 HX.out
                have WI := Lib.hid (below_then HW.out HX.out)
                by_cases hki : k < i
                · have hd2 : decide ((k : Int) < (i : Int)) = true := by simp; omega
                  have hd3 : decide (k < i) = true := by simp; omega
                  have hkl : k < l.length := by omega
                  obtain ⟨y0, y1, y2, y3, y4, y5, y6, y7⟩ := call_at8 WI.out HAB.out HC.out k hkl
                  have HKI := Lib.hid (fun h => L3.out k HCO.out hki h)
                  have HCK := Lib.hid (show (cAt l (k : Int)).x_id = l[k].x_id by rw [cAt_at hkl])
                  have k0 : (0 : Int) ≤ (k : Int) := by omega
                  have k1 : (k : Int) < (l.length : Int) := by omega
                  generalize l[k] = y at *
                  obtain ⟨yi, yf, yt, yn, yfr, yto, yfa, ys⟩ := y
                  simp only at y0 y1 y2 y3 y4 y5 y6 y7 HKI HCK
                  by_cases he : yi = xi
                  · have e1 : (yi == xi) = true := by simpa using he
                    have LL := Lib.hid (HKI.out he)
                    clear he
                    go_wp2_with fail
                    go_quiet (fail)
                    go_wp2_with fail
                    go_ret2
                    exact ⟨_, _, rfl, .inr (.inr (.inl ⟨HK.out, OPD.out, .inl ⟨i, hlt, rfl, LL.out.symm, by rw [LL.out]; decide, HN.out⟩, by decide⟩)), below_dn WI.out _⟩
                  · have e1 : (yi == xi) = false := by simpa using he
                    have HE := Lib.hid he
                    clear he
                    go_wp2_with fail
                    go_quiet (fail)
                    go_wp2_with fail
                    go_roundw
                    case rel => exact ⟨k + 1, by omega, by go_num, Lib.hid (fun j hj => by
                      rcases Nat.lt_or_eq_of_le (Nat.lt_succ_iff.1 hj) with e | e
                      · exact HI.out j e
                      · rw [e, HCK.out]; exact HE.out), Lib.hid (below_dn HX.out _)⟩
                    case measure => simp [intOf]; omega
                · have hd2 : decide ((k : Int) < (i : Int)) = false := by simp; omega
                  have hd3 : decide (k < i) = false := by simp; omega
                  obtain rfl : k = i := by omega
                  have LR := Lib.hid (L4.out HCO.out (fun j hj => by have := HI.out j hj; rw [cAt_at (show j < l.length by omega)] at this; exact this))
                  rcases (show (xfa == 2) = false ∨ ((xfa == 2) = true ∧ decide (xfr < xs) = false) ∨ ((xfa == 2) = true ∧ decide (xfr < xs) = true ∧ decide (xs < xto) = false) ∨ ((xfa == 2) = true ∧ decide (xfr < xs) = true ∧ decide (xs < xto) = true) by
                    cases (xfa == 2) <;> cases decide (xfr < xs) <;> cases decide (xs < xto) <;> simp) with e1 | ⟨e1, e2⟩ | ⟨e1, e2, e3⟩ | ⟨e1, e2, e3⟩
                  · have LL := Lib.hid (show wrong l k = 0 by rw [LR.out, if_neg (by simp at e1; simp [e1])])
                    go_wp2_with fail
                    go_quiet (fail)
                    go_wp2_with fail
                    go_roundw
                    case rel => exact ⟨k + 1, by omega, by go_num, Lib.hid (fun j hj => by
                      rcases Nat.lt_or_eq_of_le (Nat.lt_succ_iff.1 hj) with e | e
                      · exact HN.out j e
                      · rw [e]; exact LL.out), Lib.hid (below_dn WI.out _)⟩
                    case measure => simp [intOf]; omega
                  · have LL := Lib.hid (show wrong l k = 214 by rw [LR.out, if_pos (by simp at e1 e2; exact ⟨e1, .inl e2⟩)])
                    go_wp2_with fail
                    go_quiet (fail)
                    go_wp2_with fail
                    go_ret2
                    exact ⟨_, _, rfl, .inr (.inr (.inl ⟨HK.out, OPD.out, .inl ⟨k, hlt, rfl, LL.out.symm, by rw [LL.out]; decide, HN.out⟩, by decide⟩)), below_dn WI.out _⟩
                  · have LL := Lib.hid (show wrong l k = 214 by rw [LR.out, if_pos (by simp at e1 e3; exact ⟨e1, .inr e3⟩)])
                    go_wp2_with fail
                    go_quiet (fail)
                    go_wp2_with fail
                    go_ret2
                    exact ⟨_, _, rfl, .inr (.inr (.inl ⟨HK.out, OPD.out, .inl ⟨k, hlt, rfl, LL.out.symm, by rw [LL.out]; decide, HN.out⟩, by decide⟩)), below_dn WI.out _⟩
                  · have LL := Lib.hid (show wrong l k = 0 by rw [LR.out, if_neg (by simp at e2 e3; omega)])
                    go_wp2_with fail
                    go_quiet (fail)
                    go_wp2_with fail
                    go_roundw
                    case rel => exact ⟨k + 1, by omega, by go_num, Lib.hid (fun j hj => by
                      rcases Nat.lt_or_eq_of_le (Nat.lt_succ_iff.1 hj) with e | e
                      · exact HN.out j e
                      · rw [e]; exact LL.out), Lib.hid (below_dn WI.out _)⟩
                    case measure => simp [intOf]; omega
          · have hd : decide ((i : Int) < (l.length : Int)) = false := by simp; omega
            have hd' : decide (i < l.length) = false := by simp; omega
            obtain rfl : i = l.length := by omega
            have CLS : Hid (ClsIs l 0 0) := Lib.hid (.inr ⟨rfl, rfl, HN.out⟩)
            clear HN
            go_wp2_with fail
            refine (rbook_any r A c ops F _ ((HA.out.below HW.out).more HW.out.size) hl HF.out).mono ?_
            rintro e w1 ⟨Ab, cb, D, rfl, hB1, hb1⟩
            have W1 := Lib.hid (below_then HW.out hb1)
            have B1 := Lib.hid (hB1.pass (by repeat (first | exact Below.refl _ _ | refine below_alloc_ ?_ _ | refine Below.drew ?_) : Below w1.heap.size w1 (w1.alloc (.cells #[.float .f64 r, .slice Ab D.length cb] 58))))
            have T1 := Lib.hid (Blk.new w1 58 #[.float .f64 r, .slice Ab D.length cb])
            have X1 := Lib.hid (show ∀ x, Ab = some x → 0 < D.length → x.block ≠ w1.heap.size from fun x hx h0 => by
              obtain ⟨y, hy, hyb, _⟩ := hB1.rd.2 h0
              rw [hx] at hy; cases hy; omega)
            have V1 := Lib.hid (below_alloc_ W1.out (.cells #[.float .f64 r, .slice Ab D.length cb] 58))
            have hw1 : w.heap.size ≤ w1.heap.size := W1.out.size
            clear hB1 hb1
            go_wp2_with fail
            refine (rorder_any B d l R _ ((HB.out.below V1.out).more V1.out.size) (by omega) HR.out).mono ?_
            rintro e w2 ⟨O, co, rfl, hro, hfo, hb2⟩
            have W2 := Lib.hid (below_then V1.out hb2)
            have B2 := Lib.hid (B1.out.pass hb2)
            have T2 := Lib.hid (blk_pass T1.out (Below.refl _ _) hb2)
            have O2 := Lib.hid hro
            have OF := Lib.hid (show ∀ a, O = some a → a.block ≠ w1.heap.size from fun a ha => by have := hfo a ha; simp at this; omega)
            clear hro hfo hb2 V1 B1 T1 W1
            have hRl := HR.out.len
            go_wp2_with fail
            go_loopw [13] (fun s wr => ∃ (k : Nat) (A1 : Option Addr) (c1 : Nat) (D1 : List Dn), k ≤ R.length ∧ s = .int .i64 k ∧ Hid (∀ j, j < k → tie l R j = false ∧ EE j = 0) ∧ Hid (Blk wr w1.heap.size 58 #[.float .f64 r, .slice A1 D1.length c1]) ∧ Hid (DcBk wr A1 D1 (ops.length + k) (G k)) ∧ Hid (∀ x, A1 = some x → 0 < D1.length → x.block ≠ w1.heap.size) ∧ Hid (Reads wr wr.heap.size 1 O R.length (R.map (Value.int .i64))) ∧ Hid (Below w.heap.size w wr)) (fun s _ => R.length - (intOf s).toNat)
            case atStart => exact ⟨0, Ab, cb, D, Nat.zero_le _, rfl, Lib.hid (fun j h => absurd h (Nat.not_lt_zero _)), T2, Lib.hid (by rw [HG0.out]; exact B2.out), X1, O2, W2⟩
            case round =>
              clear T2 B2 X1 O2 W2
              obtain ⟨k, A1, c1, D1, hk, rfl, HN, T, BB, HX, RO, W⟩ := hrel
              rename World => wo
              obtain ⟨t0, t1⟩ := T.out.c2
              obtain ⟨z0, z1, zl⟩ := small5 T.out
              by_cases hlt : k < R.length
              · have hd : decide ((k : Int) < (R.length : Int)) = true := by simp; omega
                have hd' : decide (k < R.length) = true := by simp; omega
                obtain ⟨ao, hO, haob, hoc⟩ := RO.out.2 (by omega)
                obtain ⟨p, hp, hp', hpl, hpf⟩ := HR.out.at hlt
                obtain ⟨ad, hA, hadb, hcell⟩ := HB.out.2 (by omega)
                have HC := Lib.hid hcell; have HAB := Lib.hid hadb; have HOC := Lib.hid hoc
                subst hO; subst hA
                have ok := ord_at hoc hlt hp
                obtain ⟨x0, x1, x2, x3, x4, x5, x6, x7⟩ := call_at8 W.out hadb hcell p hpl
                have TB := Lib.hid (fun j (q : Nat) (h : R.getD j 0 = (q : Int)) (hq : q < l.length) => tieB_at h hp' hpl hq)
                have HXX := Lib.hid (HX2.out l[p] (List.getElem_mem hpl))
                obtain ⟨V, hMV⟩ := HG.out k hlt
                have EP := Lib.hid hp'
                rw [hp, cAt_at hpl] at hMV
                have MV := Lib.hid hMV
                clear hcell hadb hoc hp hp' hpf hMV haob
                generalize l[p] = x at *
                obtain ⟨xi, xf, xt, xn, xfr, xto, xfa, xs⟩ := x
                simp only at x0 x1 x2 x3 x4 x5 x6 x7 TB MV
                have p0 : (0 : Int) ≤ (p : Int) := by omega
                have p1 : (p : Int) < (l.length : Int) := by omega
                have XA := Lib.hid (Blk.new wo 36 #[.int .i64 xi, .int .i64 xf, .int .i64 xt, .int .i64 xn, .int .i64 xfr, .int .i64 xto, .int .i64 xfa, .int .i64 xs])
                have WA := Lib.hid (below_alloc_ (Below.refl _ _) (.cells #[.int .i64 xi, .int .i64 xf, .int .i64 xt, .int .i64 xn, .int .i64 xfr, .int .i64 xto, .int .i64 xfa, .int .i64 xs] 36) : Below wo.heap.size wo (wo.alloc (.cells #[.int .i64 xi, .int .i64 xf, .int .i64 xt, .int .i64 xn, .int .i64 xfr, .int .i64 xto, .int .i64 xfa, .int .i64 xs] 36)))
                go_wp2_with fail
                clear x0 x1 x2 x3 x4 x5 x6 x7
                go_loopw [15] (fun s wr => ∃ j : Nat, j ≤ k ∧ s = .int .i64 j ∧ Hid (∀ i, i < j → tieB l R i k = false) ∧ Hid (Blk wr wo.heap.size 36 #[.int .i64 xi, .int .i64 xf, .int .i64 xt, .int .i64 xn, .int .i64 xfr, .int .i64 xto, .int .i64 xfa, .int .i64 xs]) ∧ Hid (Below wo.heap.size wo wr)) (fun s _ => k - (intOf s).toNat)
                case atStart => exact ⟨0, Nat.zero_le _, rfl, Lib.hid (fun i h => absurd h (Nat.not_lt_zero _)), XA, WA⟩
                case round =>
                  clear XA WA
                  obtain ⟨j, hj, rfl, HT, XB, HI⟩ := hrel
                  rename World => wi
                  have WI := Lib.hid (below_then W.out HI.out)
                  replace ok := below_cell ok HI.out
                  obtain ⟨x0, x1, x2, x3, x4, x5, x6, x7⟩ := XB.out.c8
                  have xl := XB.out.lt
                  by_cases hjk : j < k
                  · have e0 : decide ((j : Int) < (k : Int)) = true := by simp; omega
                    have e0' : decide (j < k) = true := by simp; omega
                    obtain ⟨q, hq, hq', hql, hqf⟩ := HR.out.at (show j < R.length by omega)
                    have oj := below_cell (ord_at HOC.out (by omega) hq) HI.out
                    obtain ⟨y0, y1, y2, y3, y4, y5, y6, y7⟩ := call_at8 WI.out HAB.out HC.out q hql
                    have TT := Lib.hid (TB.out j q hq' hql)
                    clear hq hq' hqf
                    generalize l[q] = y at *
                    obtain ⟨yi, yf, yt, yn, yfr, yto, yfa, ys⟩ := y
                    simp only at y0 y1 y2 y3 y4 y5 y6 y7 TT
                    have q0 : (0 : Int) ≤ (q : Int) := by omega
                    have q1 : (q : Int) < (l.length : Int) := by omega
                    have YA := Lib.hid ((Blk.new wi 36 #[.int .i64 yi, .int .i64 yf, .int .i64 yt, .int .i64 yn, .int .i64 yfr, .int .i64 yto, .int .i64 yfa, .int .i64 ys]).alloc (.cells #[.int .i64 yf, .int .i64 yt] 60))
                    have XC := Lib.hid ((XB.out.alloc (.cells #[.int .i64 yi, .int .i64 yf, .int .i64 yt, .int .i64 yn, .int .i64 yfr, .int .i64 yto, .int .i64 yfa, .int .i64 ys] 36)).alloc (.cells #[.int .i64 yf, .int .i64 yt] 60))
                    have PA : Hid (Blk ((wi.alloc (.cells #[.int .i64 yi, .int .i64 yf, .int .i64 yt, .int .i64 yn, .int .i64 yfr, .int .i64 yto, .int .i64 yfa, .int .i64 ys] 36)).alloc (.cells #[.int .i64 yf, .int .i64 yt] 60)) (wi.heap.size + 1) 60 #[.int .i64 yf, .int .i64 yt]) := Lib.hid (Blk.new' (by simp))
                    have WC := Lib.hid (below_alloc_ (below_alloc_ (Below.refl wi.heap.size wi) (.cells #[.int .i64 yi, .int .i64 yf, .int .i64 yt, .int .i64 yn, .int .i64 yfr, .int .i64 yto, .int .i64 yfa, .int .i64 ys] 36)) (.cells #[.int .i64 yf, .int .i64 yt] 60))
                    go_wp2_with fail
                    clear y0 y1 y2 y3 y4 y5 y6 y7 x0 x1 x2 x3 x4 x5 x6 x7 xl
                    go_loopw [18] (fun s wr => ∃ u : Nat, u ≤ 2 ∧ s = .int .i64 u ∧ Hid (0 < u → (ys == xs && (yf == xf || yf == xt)) = false) ∧ Hid (1 < u → (ys == xs && (yt == xf || yt == xt)) = false) ∧ Hid (Blk wr wo.heap.size 36 #[.int .i64 xi, .int .i64 xf, .int .i64 xt, .int .i64 xn, .int .i64 xfr, .int .i64 xto, .int .i64 xfa, .int .i64 xs]) ∧ Hid (Blk wr wi.heap.size 36 #[.int .i64 yi, .int .i64 yf, .int .i64 yt, .int .i64 yn, .int .i64 yfr, .int .i64 yto, .int .i64 yfa, .int .i64 ys]) ∧ Hid (Blk wr (wi.heap.size + 1) 60 #[.int .i64 yf, .int .i64 yt]) ∧ Hid (Below wi.heap.size wi wr)) (fun s _ => 2 - (intOf s).toNat)
                    case atStart => exact ⟨0, by omega, rfl, Lib.hid (fun h => absurd h (by decide)), Lib.hid (fun h => absurd h (by decide)), XC, YA, PA, WC⟩
                    case round =>
                      clear XC YA PA WC
                      obtain ⟨u, hu, rfl, HB0, HB1, XD, YD, PD, WQ⟩ := hrel
                      rename World => wq
                      have HD := Lib.hid (below_then HI.out WQ.out)
                      rcases (show u = 0 ∨ u = 1 ∨ u = 2 by omega) with rfl | rfl | rfl
                      · have b0 : decide ((0 : Int) < 2) = true := by decide
                        obtain ⟨x0, x1, x2, x3, x4, x5, x6, x7⟩ := XD.out.c8
                        obtain ⟨y0, y1, y2, y3, y4, y5, y6, y7⟩ := YD.out.c8
                        obtain ⟨m0, m1⟩ := PD.out.c2
                        have l1 := XD.out.lt; have l2 := YD.out.lt; have l3 := PD.out.lt
                        replace ok := below_cell ok WQ.out
                        rcases (show (ys == xs) = false ∨ ((ys == xs) = true ∧ (yf == xf) = true) ∨ ((ys == xs) = true ∧ (yf == xf) = false ∧ (yf == xt) = true) ∨ ((ys == xs) = true ∧ (yf == xf) = false ∧ (yf == xt) = false) by
                          cases (ys == xs) <;> cases (yf == xf) <;> cases (yf == xt) <;> simp) with e1 | ⟨e1, e2⟩ | ⟨e1, e2, e3⟩ | ⟨e1, e2, e3⟩
                        · have BQ := Lib.hid (show (ys == xs && (yf == xf || yf == xt)) = false by rw [e1]; simp)
                          go_wp2_with fail
                          go_quiet (fail)
                          go_wp2_with fail
                          go_roundw
                          case rel => exact ⟨1, by omega, by go_num, Lib.hid (fun _ => BQ.out), Lib.hid (fun h => absurd h (by decide)), Lib.hid (XD.out.drewN _), Lib.hid (YD.out.drewN _), Lib.hid (PD.out.drewN _), Lib.hid (below_dn WQ.out _)⟩
                          case measure => simp [intOf]
                        · have TI := Lib.hid (tie_true hjk hlt (by rw [TT.out]; unfold shr4; rw [e1, e2]; simp))
                          go_wp2_with fail
                          go_quiet (fail)
                          go_wp2_with fail
                          go_ret2
                          exact ⟨_, _, rfl, .inr (.inr (.inr ⟨HK.out, OPD.out, CLS.out, .inl ⟨k, hlt, HN.out, EP.out.symm, .inl ⟨TI.out, rfl⟩⟩⟩)), below_dn (below_then W.out HD.out) _⟩
                        · have TI := Lib.hid (tie_true hjk hlt (by rw [TT.out]; unfold shr4; rw [e1, e2, e3]; simp))
                          go_wp2_with fail
                          go_quiet (fail)
                          go_wp2_with fail
                          go_ret2
                          exact ⟨_, _, rfl, .inr (.inr (.inr ⟨HK.out, OPD.out, CLS.out, .inl ⟨k, hlt, HN.out, EP.out.symm, .inl ⟨TI.out, rfl⟩⟩⟩)), below_dn (below_then W.out HD.out) _⟩
                        · have BQ := Lib.hid (show (ys == xs && (yf == xf || yf == xt)) = false by rw [e1, e2, e3]; simp)
                          go_wp2_with fail
                          go_quiet (fail)
                          go_wp2_with fail
                          go_roundw
                          case rel => exact ⟨1, by omega, by go_num, Lib.hid (fun _ => BQ.out), Lib.hid (fun h => absurd h (by decide)), Lib.hid (XD.out.drewN _), Lib.hid (YD.out.drewN _), Lib.hid (PD.out.drewN _), Lib.hid (below_dn WQ.out _)⟩
                          case measure => simp [intOf]
                      · have b0 : decide ((1 : Int) < 2) = true := by decide
                        obtain ⟨x0, x1, x2, x3, x4, x5, x6, x7⟩ := XD.out.c8
                        obtain ⟨y0, y1, y2, y3, y4, y5, y6, y7⟩ := YD.out.c8
                        obtain ⟨m0, m1⟩ := PD.out.c2
                        have l1 := XD.out.lt; have l2 := YD.out.lt; have l3 := PD.out.lt
                        replace ok := below_cell ok WQ.out
                        rcases (show (ys == xs) = false ∨ ((ys == xs) = true ∧ (yt == xf) = true) ∨ ((ys == xs) = true ∧ (yt == xf) = false ∧ (yt == xt) = true) ∨ ((ys == xs) = true ∧ (yt == xf) = false ∧ (yt == xt) = false) by
                          cases (ys == xs) <;> cases (yt == xf) <;> cases (yt == xt) <;> simp) with e1 | ⟨e1, e2⟩ | ⟨e1, e2, e3⟩ | ⟨e1, e2, e3⟩
                        · have BQ := Lib.hid (show (ys == xs && (yt == xf || yt == xt)) = false by rw [e1]; simp)
                          go_wp2_with fail
                          go_quiet (fail)
                          go_wp2_with fail
                          go_roundw
                          case rel => exact ⟨2, by omega, by go_num, Lib.hid (fun _ => HB0.out (by decide)), Lib.hid (fun _ => BQ.out), Lib.hid (XD.out.drewN _), Lib.hid (YD.out.drewN _), Lib.hid (PD.out.drewN _), Lib.hid (below_dn WQ.out _)⟩
                          case measure => simp [intOf]
                        · have TI := Lib.hid (tie_true hjk hlt (by rw [TT.out]; unfold shr4; rw [e1, e2]; simp))
                          go_wp2_with fail
                          go_quiet (fail)
                          go_wp2_with fail
                          go_ret2
                          exact ⟨_, _, rfl, .inr (.inr (.inr ⟨HK.out, OPD.out, CLS.out, .inl ⟨k, hlt, HN.out, EP.out.symm, .inl ⟨TI.out, rfl⟩⟩⟩)), below_dn (below_then W.out HD.out) _⟩
                        · have TI := Lib.hid (tie_true hjk hlt (by rw [TT.out]; unfold shr4; rw [e1, e2, e3]; simp))
                          go_wp2_with fail
                          go_quiet (fail)
                          go_wp2_with fail
                          go_ret2
                          exact ⟨_, _, rfl, .inr (.inr (.inr ⟨HK.out, OPD.out, CLS.out, .inl ⟨k, hlt, HN.out, EP.out.symm, .inl ⟨TI.out, rfl⟩⟩⟩)), below_dn (below_then W.out HD.out) _⟩
                        · have BQ := Lib.hid (show (ys == xs && (yt == xf || yt == xt)) = false by rw [e1, e2, e3]; simp)
                          go_wp2_with fail
                          go_quiet (fail)
                          go_wp2_with fail
                          go_roundw
                          case rel => exact ⟨2, by omega, by go_num, Lib.hid (fun _ => HB0.out (by decide)), Lib.hid (fun _ => BQ.out), Lib.hid (XD.out.drewN _), Lib.hid (YD.out.drewN _), Lib.hid (PD.out.drewN _), Lib.hid (below_dn WQ.out _)⟩
                          case measure => simp [intOf]
                      · have b0 : decide ((2 : Int) < 2) = false := by decide
                        have BQ := Lib.hid (show tieB l R j k = false by
                          have h0 := HB0.out (by decide); have h1 := HB1.out (by decide)
                          rw [TT.out]; unfold shr4
                          cases h : (ys == xs)
                          · rfl
                          · rw [h] at h0 h1
                            simp only [Bool.true_and] at h0 h1 ⊢
                            simp only [Bool.or_eq_false_iff] at h0 h1 ⊢
                            exact ⟨h0.1, h0.2, h1.1, h1.2⟩)
                        go_wp2_with fail
                        go_roundw
                        case rel => exact ⟨j + 1, by omega, by go_num, Lib.hid (fun i hi => by
                          rcases Nat.lt_or_eq_of_le (Nat.lt_succ_iff.1 hi) with h | h
                          · exact HT.out i h
                          · rw [h]; exact BQ.out), XD, HD⟩
                        case measure => simp [intOf]; omega
                  · have e0 : decide ((j : Int) < (k : Int)) = false := by simp; omega
                    have e0' : decide (j < k) = false := by simp; omega
                    obtain rfl : j = k := by omega
                    have TK := Lib.hid (tie_false HT.out)
                    have BM := Lib.hid (BB.out.pass HI.out)
                    have T4 := Lib.hid (blk_pass T.out (Below.refl _ _) HI.out)
                    clear t0 t1 z0 z1 zl
                    obtain ⟨t0, t1⟩ := T4.out.c2
                    have zl := T4.out.lt
                    have FK := Lib.hid (HG.out.ok HK.out (Int.le_refl 0) (by rw [HG0.out]; exact HF.out.ok _ (Nat.le_refl _)) j (by omega))
                    obtain ⟨v0, v1, v2, v3, _⟩ := HXX.out
                    simp only at v3
                    obtain ⟨n1, n2⟩ : -9223372036854775808 ≤ xn ∧ xn ≤ 9223372036854775807 := by simpa [Lit.wf, IntKind.min, IntKind.max, IntKind.signed, IntKind.bits] using v3
                    obtain ⟨E, hE⟩ : ∃ E, EE j = E := ⟨_, rfl⟩
                    have HE := Lib.hid hE
                    rw [hE] at MV
                    clear hE v0 v1 v2 v3
                    go_wp2_with fail
                    refine (rmove_any r A1 c1 D1 xf xt xn V E (0 + (j : Int)) (ops.length + j) (G j) (G (j + 1)) _ BM.out (by omega) FK.out HK.out hb n1 n2 MV.out).mono ?_
                    rintro e w4 ⟨A4, c4, D4, rfl, hB4, hA4, hb4⟩
                    have T5 := Lib.hid (blk_pass T4.out (Below.refl _ _) hb4)
                    have B5 := Lib.hid hB4
                    have W5 := Lib.hid (below_then WI.out hb4)
                    have R5 := Lib.hid ((RO.out.pass HI.out).pass hb4)
                    have X5 := Lib.hid (show ∀ x, A4 = some x → 0 < D4.length → x.block ≠ w1.heap.size from fun x hx h0 => by
                      rcases hA4 with ⟨h, h'⟩ | h
                      · exact HX.out x (by rw [← h]; exact hx) (by rw [← h']; exact h0)
                      · have := h x hx; omega)
                    replace ok := below_cell ok hb4
                    have okl := World.block_lt_of_cell? w4 _ ok
                    clear hB4 hA4 hb4 t0 t1 zl x0 x1 x2 x3 x4 x5 x6 x7
                    obtain ⟨t0, t1⟩ := T5.out.c2
                    obtain ⟨z0, z1, zl⟩ := small5 T5.out
                    by_cases hz : E = 0
                    · subst hz
                      go_wp2_with fail
                      go_roundw
                      case rel => exact ⟨j + 1, A4, c4, D4, by omega, by go_num, Lib.hid (fun i hi => by
                        rcases Nat.lt_or_eq_of_le (Nat.lt_succ_iff.1 hi) with h | h
                        · exact HN.out i h
                        · rw [h]; exact ⟨TK.out, HE.out⟩), Lib.hid (Blk.alloc (blk_upd (i := 1) (u := .slice A4 D4.length c4) (blk_upd (i := 0) (u := .float .f64 r) T5.out rfl) rfl) _), Lib.hid ((B5.out.set2' X5.out _ _).pass (below_alloc_ (Below.refl _ _) _)), X5, Lib.hid ((R5.out.kp (S := fun g => g = w1.heap.size) (((Keeps.refl (fun g => g = w1.heap.size) w4).set_ (p := ⟨w1.heap.size, 0, none⟩) (Or.inl rfl) _).set_ (p := ⟨w1.heap.size, 1, none⟩) (Or.inl rfl) _) (fun a ha => OF.out a ha)).al _), Lib.hid (below_alloc_ (below_set_ (below_set_ W5.out (p := ⟨w1.heap.size, 0, none⟩) hw1 _) (p := ⟨w1.heap.size, 1, none⟩) hw1 _) _)⟩
                      case measure => simp [intOf]; omega
                    · have e1 : (E == 0) = false := by simpa using hz
                      have e2 : (E != 0) = true := by simpa using hz
                      have HZ := Lib.hid hz
                      clear hz
                      go_wp2_with fail
                      go_ret2
                      exact ⟨_, _, rfl, .inr (.inr (.inr ⟨HK.out, OPD.out, CLS.out, .inl ⟨j, hlt, HN.out, EP.out.symm, .inr ⟨TK.out, by rw [HE.out]; exact HZ.out, rfl⟩⟩⟩)), below_alloc_ W5.out _⟩
              · have hd : decide ((k : Int) < (R.length : Int)) = false := by simp; omega
                have hd' : decide (k < R.length) = false := by simp; omega
                have HN2 := Lib.hid (show ∀ j, j < R.length → tie l R j = false ∧ EE j = 0 from fun j hj => HN.out j (by omega))
                go_wp2_with fail
                go_ret2
                exact ⟨_, _, rfl, .inr (.inr (.inr ⟨HK.out, OPD.out, CLS.out, .inr ⟨HN2.out, rfl, rfl⟩⟩)), W.out⟩
end Go.Proofs.YtjhhpcjnhjbpdaaGreat
