/- Joined: SoN, SoO, SoR. -/
import Derived.Test.YtjhhpcjnhjbpdaaGreatSoM
import Derived.Test.YtjhhpcjnhjbpdaaGreatQC
/- The story's calls: is a number told twice? -/
set_option linter.unusedSimpArgs false
set_option linter.unusedVariables false
namespace Go.Proofs.YtjhhpcjnhjbpdaaGreat
open Go.RowKit Mo
def cAgg (x : VCall20) : Value := .agg #[.int .i64 x.x_id, .int .i64 x.x_xf, .int .i64 x.x_xt, .int .i64 x.x_xn, .int .i64 x.fr, .int .i64 x.too, .int .i64 x.fate, .int .i64 x.tt]
set_option maxRecDepth 100000 in
theorem pred_any (bc : Nat) (cid : Int) (x : VCall20) (r : Bool) (W : World) (hc : W.cell? ⟨bc, 0, none⟩ = some (.int .i64 cid)) (hr : (x.x_id == cid) = r) :
    Calls Tryz.prog 35 #[.agg #[.int .i64 x.x_id, .int .i64 x.x_xf, .int .i64 x.x_xt, .int .i64 x.x_xn, .int .i64 x.fr, .int .i64 x.too, .int .i64 x.fate, .int .i64 x.tt], .pointer (some ⟨bc, 0, none⟩)] W fun e w' => e = .returned (.bool r) ∧ Below W.heap.size W w' := by
  obtain ⟨id, xf, xt, xn, fr, too, fate, tt⟩ := x
  dsimp only at hr ⊢
  have hl := World.block_lt_of_cell? W _ hc
  dsimp only at hl
  go_enter Tryz.func35, Tryz.ntmps35
  go_wp2_with fail
  go_ret
  exact ⟨rfl, by repeat (first | exact Below.refl _ _ | refine below_alloc_ ?_ _ | refine Below.drew ?_)⟩
/-- what IndexFunc gives -/
def IdxIs (xs : List VCall20) (cid : Int) (w : World) (e : Ending) (w' : World) : Prop := (∃ r : Int, e = .returned (.int .i64 r) ∧ (decide (0 ≤ r) = xs.any (fun d => d.x_id == cid))) ∧ Below w.heap.size w w'
set_option maxRecDepth 100000 in
set_option maxHeartbeats 2000000 in
theorem index_any (bc : Nat) (cid : Int) (A : Option Addr) (c : Nat) (xs : List VCall20) (w : World) (ha : Reads w w.heap.size 8 A xs.length (xs.flatMap VCall20.cells)) (hl : xs.length ≤ 100000) (hc : w.cell? ⟨bc, 0, none⟩ = some (.int .i64 cid)) :
    Calls Tryz.prog 52 #[.slice A xs.length c, .func (.func 35) #[] #[.pointer (some ⟨bc, 0, none⟩)]] w (IdxIs xs cid w) := by
  have HA := Lib.hid ha; have HC := Lib.hid hc
  clear ha hc
  go_enter Tryz.func52, Tryz.ntmps52
  go_wp2_with fail
  go_loopw [8] (fun s wr => ∃ k : Nat, k ≤ xs.length ∧ s = .int .i64 k ∧ Hid (∀ j (h : j < xs.length), j < k → (xs[j].x_id == cid) = false) ∧ Hid (Below w.heap.size w wr)) (fun s _ => xs.length - (intOf s).toNat)
  case atStart => exact ⟨0, Nat.zero_le _, rfl, Lib.hid (fun j _ h => absurd h (Nat.not_lt_zero _)), Lib.hid (Below.refl _ _)⟩
  case round =>
    obtain ⟨k, hk, rfl, HN, HB⟩ := hrel
    by_cases hlt : k < xs.length
    · have hd : decide ((k : Int) < (xs.length : Int)) = true := by simp; omega
      obtain ⟨ad, hA, hadb, hcell⟩ := (HA.out.below HB.out).2 (by omega)
      subst hA
      have q := calls_at hcell k hlt
      have q0 := q 0 (by omega); have q1 := q 1 (by omega); have q2 := q 2 (by omega); have q3 := q 3 (by omega); have q4 := q 4 (by omega); have q5 := q 5 (by omega); have q6 := q 6 (by omega); have q7 := q 7 (by omega)
      simp only [VCall20.cells, List.getElem_cons_zero, List.getElem_cons_succ, Nat.add_zero] at q0 q1 q2 q3 q4 q5 q6 q7
      replace q1 := cell_in _ 1 (by omega) q1; replace q2 := cell_in _ 2 (by omega) q2; replace q3 := cell_in _ 3 (by omega) q3; replace q4 := cell_in _ 4 (by omega) q4; replace q5 := cell_in _ 5 (by omega) q5; replace q6 := cell_in _ 6 (by omega) q6; replace q7 := cell_in _ 7 (by omega) q7
      obtain ⟨r, hr⟩ : ∃ r, (xs[k].x_id == cid) = r := ⟨_, rfl⟩
      have HT := Lib.hid (show r = true → xs.any (fun d => d.x_id == cid) = true from fun h => by rw [List.any_eq_true]; exact ⟨xs[k], List.getElem_mem hlt, by rw [hr, h]⟩)
      have HF := Lib.hid (show r = false → ∀ j (h : j < xs.length), j < k + 1 → (xs[j].x_id == cid) = false from fun h j hj hjk => by
        rcases Nat.lt_or_eq_of_le (Nat.lt_succ_iff.1 hjk) with e | e
        · exact HN.out j hj e
        · subst e; rw [hr, h])
      have HCW := Lib.hid ((HB.out.cell (World.block_lt_of_cell? w _ HC.out)).trans HC.out)
      have HRR := Lib.hid hr
      clear q hcell hr
      generalize xs[k] = x at *
      obtain ⟨x0, x1, x2, x3, x4, x5, x6, x7⟩ := x
      simp only at q0 q1 q2 q3 q4 q5 q6 q7 HRR
      cases r
      · have HF2 := Lib.hid (HF.out rfl)
        clear HF HT
        go_wp2_with (go_at_call 35
                     (with_reducible refine (pred_any bc cid ⟨x0, x1, x2, x3, x4, x5, x6, x7⟩ false _ HCW.out HRR.out).mono ?_)
                     rintro e w1 ⟨rfl, hb⟩
                     have HB1 := Lib.hid (below_then HB.out hb)
                     clear hb)
        go_roundw
        case rel => exact ⟨k + 1, by omega, by go_num, HF2, HB1⟩
        case measure => simp [intOf]; omega
      · have HT2 := Lib.hid (HT.out rfl)
        clear HF HT
        go_wp2_with (go_at_call 35
                     (with_reducible refine (pred_any bc cid ⟨x0, x1, x2, x3, x4, x5, x6, x7⟩ true _ HCW.out HRR.out).mono ?_)
                     rintro e w1 ⟨rfl, hb⟩
                     have HB1 := Lib.hid (below_then HB.out hb)
                     clear hb)
        go_ret
        exact ⟨⟨k, rfl, by rw [HT2.out]; simp⟩, HB1.out⟩
    · have hd : decide ((k : Int) < (xs.length : Int)) = false := by simp; omega
      have HT := Lib.hid (show xs.any (fun d => d.x_id == cid) = false by
        rw [List.any_eq_false]
        intro d hd
        obtain ⟨j, hj, rfl⟩ := List.getElem_of_mem hd
        rw [HN.out j hj (by omega)]
        decide)
      go_wp2_with fail
      go_ret
      exact ⟨⟨-1, rfl, by rw [HT.out]; rfl⟩, HB.out⟩
set_option maxRecDepth 100000 in
theorem contains_any (bc : Nat) (cid : Int) (A : Option Addr) (c : Nat) (xs : List VCall20) (r : Bool) (w : World) (ha : Reads w w.heap.size 8 A xs.length (xs.flatMap VCall20.cells)) (hl : xs.length ≤ 100000) (hc : w.cell? ⟨bc, 0, none⟩ = some (.int .i64 cid)) (hr : xs.any (fun d => d.x_id == cid) = r) :
    Calls Tryz.prog 37 #[.slice A xs.length c, .func (.func 35) #[] #[.pointer (some ⟨bc, 0, none⟩)]] w fun e w' => e = .returned (.bool r) ∧ Below w.heap.size w w' := by
  have H0 := Lib.hid (index_any bc cid A c xs w ha hl hc)
  have HR := Lib.hid hr
  clear ha hc hr
  go_enter Tryz.func37, Tryz.ntmps37
  go_wp2_with fail
  refine H0.out.mono ?_
  rintro x w1 ⟨⟨q, rfl, hq⟩, hb⟩
  rw [HR.out] at hq
  have HB := Lib.hid hb
  clear hb
  go_wp2_with fail
  go_ret
  exact ⟨rfl, HB.out⟩
end Go.Proofs.YtjhhpcjnhjbpdaaGreat

/- The story's calls: what is wrong first. -/
set_option linter.unusedSimpArgs false
set_option linter.unusedVariables false
namespace Go.Proofs.YtjhhpcjnhjbpdaaGreat
open Go.RowKit Mo
theorem contains_n (bc : Nat) (cid : Int) (A : Option Addr) (n c : Nat) (xs : List VCall20) (r : Bool) (w : World) (hn : xs.length = n) (ha : Reads w w.heap.size 8 A n (xs.flatMap VCall20.cells)) (hl : n ≤ 100000) (hc : w.cell? ⟨bc, 0, none⟩ = some (.int .i64 cid)) (hr : xs.any (fun d => d.x_id == cid) = r) :
    Calls Tryz.prog 37 #[.slice A n c, .func (.func 35) #[] #[.pointer (some ⟨bc, 0, none⟩)]] w fun e w' => e = .returned (.bool r) ∧ Below w.heap.size w w' := by
  subst hn
  exact contains_any bc cid A c xs r w ha hl hc hr
theorem reads_take {w : World} {B n k : Nat} {A : Option Addr} {xs : List VCall20} (h : Reads w B 8 A n (xs.flatMap VCall20.cells)) (hn : xs.length = n) (hk : k ≤ n) : Reads w B 8 A k ((xs.take k).flatMap VCall20.cells) := by
  refine ⟨by rw [flatMap_len _ _ 8 (fun _ => rfl), List.length_take]; omega, fun h0 => ?_⟩
  obtain ⟨ad, e, hb, hc⟩ := h.2 (by omega)
  refine ⟨ad, e, hb, fun j u hu => hc j u ?_⟩
  have : xs.flatMap VCall20.cells = (xs.take k).flatMap VCall20.cells ++ (xs.drop k).flatMap VCall20.cells := by rw [← List.flatMap_append, List.take_append_drop]
  rw [this, List.getElem?_append_left]
  · exact hu
  · exact (List.getElem?_eq_some_iff.1 hu).1
/-- what is wrong with call number i -/
def wrong (l : List VCall20) (i : Nat) : Int := match l[i]? with
  | none => 0
  | some x => if callOk x = false then 212 else if (l.take i).any (fun d => d.x_id == x.x_id) = true then 213 else if x.fate = 2 ∧ (x.tt ≤ x.fr ∨ x.too ≤ x.tt) then 214 else 0
def ClsIs (l : List VCall20) (V E : Int) : Prop := (∃ i : Nat, i < l.length ∧ V = (i : Int) ∧ E = wrong l i ∧ wrong l i ≠ 0 ∧ ∀ j, j < i → wrong l j = 0) ∨ (V = 0 ∧ E = 0 ∧ ∀ j, j < l.length → wrong l j = 0)
def ClsPost (l : List VCall20) (w : World) (e : Ending) (w' : World) : Prop := ∃ V E, e = .returned (.tuple #[.int .i64 V, .int .i64 E]) ∧ ClsIs l V E ∧ Below w.heap.size w w'
set_option maxRecDepth 100000 in
set_option maxHeartbeats 4000000 in
theorem calls_any (A : Option Addr) (c : Nat) (l : List VCall20) (w : World) (ha : Reads w w.heap.size 8 A l.length (l.flatMap VCall20.cells)) (hl : l.length ≤ 100000) (hlc : l.length ≤ c) :
    Calls Tryz.prog 15 #[.slice A l.length c] w (ClsPost l w) := by
  have HA := Lib.hid ha
  clear ha
  go_enter Tryz.func15, Tryz.ntmps15
  go_wp2_with fail
  go_loopw [9] (fun s wr => ∃ k : Nat, k ≤ l.length ∧ s = .int .i64 k ∧ Hid (∀ j, j < k → wrong l j = 0) ∧ Hid (Below w.heap.size w wr)) (fun s _ => l.length - (intOf s).toNat)
  case atStart => exact ⟨0, Nat.zero_le _, rfl, Lib.hid (fun j h => absurd h (Nat.not_lt_zero _)), Lib.hid (Below.refl _ _)⟩
  case round =>
    obtain ⟨k, hk, rfl, HN, HB⟩ := hrel
    by_cases hlt : k < l.length
    · have hd : decide ((k : Int) < (l.length : Int)) = true := by simp; omega
      obtain ⟨ad, hA, hadb, hcell⟩ := (HA.out.below HB.out).2 (by omega)
      subst hA
      have q := calls_at hcell k hlt
      have q0 := q 0 (by omega); have q1 := q 1 (by omega); have q2 := q 2 (by omega); have q3 := q 3 (by omega); have q4 := q 4 (by omega); have q5 := q 5 (by omega); have q6 := q 6 (by omega); have q7 := q 7 (by omega)
      simp only [VCall20.cells, List.getElem_cons_zero, List.getElem_cons_succ, Nat.add_zero] at q0 q1 q2 q3 q4 q5 q6 q7
      replace q1 := cell_in _ 1 (by omega) q1; replace q2 := cell_in _ 2 (by omega) q2; replace q3 := cell_in _ 3 (by omega) q3; replace q4 := cell_in _ 4 (by omega) q4; replace q5 := cell_in _ 5 (by omega) q5; replace q6 := cell_in _ 6 (by omega) q6; replace q7 := cell_in _ 7 (by omega) q7
      have HX := Lib.hid (List.getElem?_eq_getElem hlt)
      clear q hcell
      generalize l[k] = x at *
      obtain ⟨r, hr⟩ : ∃ r, callOk x = r := ⟨_, rfl⟩
      obtain ⟨tw, htw⟩ : ∃ tw, (l.take k).any (fun d => d.x_id == x.x_id) = tw := ⟨_, rfl⟩
      have HW := Lib.hid (show wrong l k = if r = false then 212 else if tw = true then 213 else if x.fate = 2 ∧ (x.tt ≤ x.fr ∨ x.too ≤ x.tt) then 214 else 0 by unfold wrong; rw [HX.out]; simp only [hr, htw])
      have HR := Lib.hid hr; have HT := Lib.hid htw
      clear hr htw
      obtain ⟨x0, x1, x2, x3, x4, x5, x6, x7⟩ := x
      simp only at q0 q1 q2 q3 q4 q5 q6 q7 HW HT
      have XB := Lib.hid (Blk.new wr 36 #[.int .i64 x0, .int .i64 x1, .int .i64 x2, .int .i64 x3, .int .i64 x4, .int .i64 x5, .int .i64 x6, .int .i64 x7])
      have B0 := Lib.hid (below_alloc_ HB.out (.cells #[.int .i64 x0, .int .i64 x1, .int .i64 x2, .int .i64 x3, .int .i64 x4, .int .i64 x5, .int .i64 x6, .int .i64 x7] 36))
      have CA := Lib.hid (call_any ⟨x0, x1, x2, x3, x4, x5, x6, x7⟩ (wr.alloc (.cells #[.int .i64 x0, .int .i64 x1, .int .i64 x2, .int .i64 x3, .int .i64 x4, .int .i64 x5, .int .i64 x6, .int .i64 x7] 36)))
      rw [HR.out] at CA
      go_wp2_with fail
      refine CA.out.mono ?_
      rintro e w1 ⟨rfl, hb1⟩
      have B1 := Lib.hid (below_then B0.out hb1)
      have X1 := Lib.hid (Blk.below XB.out hb1 XB.out.lt)
      clear hb1 CA q0 q1 q2 q3 q4 q5 q6 q7
      cases r
      · have W0 := Lib.hid (show wrong l k = 212 by rw [HW.out]; rfl)
        clear HW
        go_wp2_with fail
        go_ret2
        exact ⟨_, _, rfl, .inl ⟨k, hlt, rfl, W0.out.symm, by rw [W0.out]; decide, HN.out⟩, B1.out⟩
      · have RT := Lib.hid (reads_take (HA.out.below B1.out) rfl hk)
        have RT2 := Lib.hid (RT.out.more B1.out.size)
        have y0 := X1.out.cell 0
        simp only [List.getElem?_toArray, List.getElem?_cons_zero, List.getElem?_cons_succ] at y0
        have hkc : k ≤ c := by omega
        have CN := Lib.hid (contains_n wr.heap.size x0 (some ad) k c (l.take k) tw w1 (by rw [List.length_take]; omega) RT2.out (by omega) y0 HT.out)
        clear y0
        go_wp2_with fail
        refine CN.out.mono ?_
        rintro e w2 ⟨rfl, hb2⟩
        have B2 := Lib.hid (below_then B1.out hb2)
        have X2 := Lib.hid (Blk.below X1.out hb2 X1.out.lt)
        clear hb2 CN
        have y4 := X2.out.cell 4; have y5 := X2.out.cell 5; have y6 := X2.out.cell 6; have y7 := X2.out.cell 7
        simp only [List.getElem?_toArray, List.getElem?_cons_zero, List.getElem?_cons_succ] at y4 y5 y6 y7
        cases tw
        · have W1 := Lib.hid (show wrong l k = if x6 = 2 ∧ (x7 ≤ x4 ∨ x5 ≤ x7) then 214 else 0 by rw [HW.out]; rfl)
          clear HW
          rcases (show (x6 ≠ 2) ∨ (x6 = 2 ∧ x7 ≤ x4) ∨ (x6 = 2 ∧ ¬ x7 ≤ x4 ∧ x5 ≤ x7) ∨ (x6 = 2 ∧ ¬ x7 ≤ x4 ∧ ¬ x5 ≤ x7) by omega) with h | ⟨h, h2⟩ | ⟨h, h2, h3⟩ | ⟨h, h2, h3⟩
          · have b0 : (x6 == 2) = false := by simpa using h
            have W0 := Lib.hid (show ∀ j, j < k + 1 → wrong l j = 0 from fun j hj => by
              rcases Nat.lt_or_eq_of_le (Nat.lt_succ_iff.1 hj) with e | e
              · exact HN.out j e
              · rw [e, W1.out, if_neg (fun h' => h h'.1)])
            clear h
            go_wp2_with fail
            go_roundw
            case rel => exact ⟨k + 1, by omega, by go_num, W0, B2⟩
            case measure => simp [intOf]; omega
          · have b0 : (x6 == 2) = true := by simpa using h
            have d1 : decide (x7 ≤ x4) = true := by simpa using h2
            have W0 := Lib.hid (show wrong l k = 214 by rw [W1.out, if_pos ⟨h, .inl h2⟩])
            clear h
            go_wp2_with fail
            go_ret2
            exact ⟨_, _, rfl, .inl ⟨k, hlt, rfl, W0.out.symm, by rw [W0.out]; decide, HN.out⟩, B2.out⟩
          · have b0 : (x6 == 2) = true := by simpa using h
            have d1 : decide (x7 ≤ x4) = false := by simpa using h2
            have d2 : decide (x5 ≤ x7) = true := by simpa using h3
            have W0 := Lib.hid (show wrong l k = 214 by rw [W1.out, if_pos ⟨h, .inr h3⟩])
            clear h
            go_wp2_with fail
            go_ret2
            exact ⟨_, _, rfl, .inl ⟨k, hlt, rfl, W0.out.symm, by rw [W0.out]; decide, HN.out⟩, B2.out⟩
          · have b0 : (x6 == 2) = true := by simpa using h
            have d1 : decide (x7 ≤ x4) = false := by simpa using h2
            have d2 : decide (x5 ≤ x7) = false := by simpa using h3
            have W0 := Lib.hid (show ∀ j, j < k + 1 → wrong l j = 0 from fun j hj => by
              rcases Nat.lt_or_eq_of_le (Nat.lt_succ_iff.1 hj) with e | e
              · exact HN.out j e
              · rw [e, W1.out, if_neg (fun h' => by rcases h'.2 with k1 | k1; exact h2 k1; exact h3 k1)])
            clear h
            go_wp2_with fail
            go_roundw
            case rel => exact ⟨k + 1, by omega, by go_num, W0, B2⟩
            case measure => simp [intOf]; omega
        · have W0 := Lib.hid (show wrong l k = 213 by rw [HW.out]; rfl)
          clear HW
          go_wp2_with fail
          go_ret2
          exact ⟨_, _, rfl, .inl ⟨k, hlt, rfl, W0.out.symm, by rw [W0.out]; decide, HN.out⟩, B2.out⟩
    · have hd : decide ((k : Int) < (l.length : Int)) = false := by simp; omega
      have hd' : decide (k < l.length) = false := by simp; omega
      have W0 := Lib.hid (show ∀ j, j < l.length → wrong l j = 0 from fun j hj => HN.out j (by omega))
      go_wp2_with fail
      go_ret2
      exact ⟨_, _, rfl, .inr ⟨rfl, rfl, W0.out⟩, HB.out⟩
end Go.Proofs.YtjhhpcjnhjbpdaaGreat

/- The story's entries: opened. -/
set_option linter.unusedSimpArgs false
set_option linter.unusedVariables false
namespace Go.Proofs.YtjhhpcjnhjbpdaaGreat
open Go.RowKit Mo
def prevK (l : List VEntry) : Nat → Int
  | 0 => -1
  | i + 1 => ((l[i]?).map VEntry.key).getD 0
/-- entry number i opens no account -/
def badO (l : List VEntry) (i : Nat) : Bool := match l[i]? with
  | none => false
  | some x => !(isAc x.key) || (decide (x.key ≤ prevK l i) || !(isA x.v))
def OpdIs (l : List VEntry) (V : Int) : Prop := (∃ i : Nat, i < l.length ∧ V = (i : Int) ∧ badO l i = true ∧ ∀ j, j < i → badO l j = false) ∨ (V = -1 ∧ ∀ j, j < l.length → badO l j = false)
def OpdPost (l : List VEntry) (w : World) (e : Ending) (w' : World) : Prop := ∃ V, e = .returned (.int .i64 V) ∧ OpdIs l V ∧ Below w.heap.size w w'
theorem ve_at {w : World} {ad : Addr} {xs : List VEntry} (h : ∀ j u, (xs.flatMap VEntry.cells)[j]? = some u → w.cell? (ad.add j) = some u) (k : Nat) (hk : k < xs.length) : w.cell? (ad.add (k * 2)) = some (.int .i64 xs[k].key) ∧ w.cell? ⟨(ad.add (k * 2)).block, (ad.add (k * 2)).off + 1, none⟩ = some (.int .i64 xs[k].v) := by
  have q := fun j (hj : j < 2) => (h (k * 2 + j) _ ((flatMap_at xs VEntry.cells 2 (fun _ => rfl) k j hk hj).trans (List.getElem?_eq_getElem (by exact hj))))
  have q0 := q 0 (by omega); have q1 := q 1 (by omega)
  simp only [VEntry.cells, List.getElem_cons_zero, List.getElem_cons_succ, Nat.add_zero] at q0 q1
  exact ⟨q0, cell_in _ 1 (by omega) q1⟩
set_option maxRecDepth 100000 in
set_option maxHeartbeats 4000000 in
theorem opened_any (A : Option Addr) (c : Nat) (l : List VEntry) (w : World) (ha : Reads w w.heap.size 2 A l.length (l.flatMap VEntry.cells)) (hl : l.length ≤ 100000) :
    Calls Tryz.prog 14 #[.slice A l.length c] w (OpdPost l w) := by
  have HA := Lib.hid ha
  clear ha
  go_enter Tryz.func14, Tryz.ntmps14
  go_wp2_with fail
  go_loopw [9] (fun s wr => ∃ (k : Nat) (lv : Int), k ≤ l.length ∧ s = .int .i64 k ∧ Hid (∀ j, j < k → badO l j = false) ∧ Hid (Blk wr w.heap.size 42 #[.int .i64 (prevK l k), .int .i64 lv]) ∧ Hid (Below w.heap.size w wr)) (fun s _ => l.length - (intOf s).toNat)
  case atStart => exact ⟨0, 0, Nat.zero_le _, rfl, Lib.hid (fun j h => absurd h (Nat.not_lt_zero _)), Lib.hid (Blk.new' rfl), Lib.hid (by repeat (first | exact Below.refl _ _ | refine below_alloc_ ?_ _ | refine Below.drew ?_))⟩
  case round =>
    obtain ⟨k, lv, hk, rfl, HN, HL, HB⟩ := hrel
    by_cases hlt : k < l.length
    · have hd : decide ((k : Int) < (l.length : Int)) = true := by simp; omega
      obtain ⟨ad, hA, hadb, hcell⟩ := (HA.out.below HB.out).2 (by omega)
      subst hA
      obtain ⟨q0, q1⟩ := ve_at hcell k hlt
      have HX := Lib.hid (List.getElem?_eq_getElem hlt)
      clear hcell
      generalize l[k] = x at *
      have HW := Lib.hid (show badO l k = (!(isAc x.key) || (decide (x.key ≤ prevK l k) || !(isA x.v))) by unfold badO; rw [HX.out])
      have HP := Lib.hid (show prevK l (k + 1) = x.key by show ((l[k]?).map VEntry.key).getD 0 = x.key; rw [HX.out]; rfl)
      obtain ⟨lk, hlk⟩ : ∃ lk, prevK l k = lk := ⟨_, rfl⟩
      rw [hlk] at HW HL
      obtain ⟨xk, xv⟩ := x
      simp only at q0 q1 HW HP
      obtain ⟨l0, l1⟩ := HL.out.c2
      have ll := HL.out.lt
      have z0 := HL.out.frozen 0; have z1 := HL.out.frozen 1
      clear hlk
      by_cases he : xk = lk
      · subst he
        have WB := Lib.hid (show badO l k = true by rw [HW.out, decide_eq_true (Int.le_refl xk)]; simp)
        have e1 : (xk == xk) = true := by simp
        have e3 : decide (xk ≤ xk) = true := by simp
        by_cases hv : xv = lv
        · have e2 : (xv == lv) = true := by simpa using hv
          clear hv
          go_wp2_with (first | (go_at_call 33; (with_reducible refine (acct_t (a := xk) _ H3.out).mono ?_); rintro e w1 ⟨rfl, rfl⟩) | (go_at_call 33; (with_reducible refine (acct_f (a := xk) _ G3.out).mono ?_); rintro e w1 ⟨rfl, rfl⟩) | (go_at_call 34; (with_reducible refine (chk_t (n := xv) _ H7.out).mono ?_); rintro e w1 ⟨rfl, rfl⟩) | (go_at_call 34; (with_reducible refine (chk_f (n := xv) _ G7.out).mono ?_); rintro e w1 ⟨rfl, rfl⟩))
          go_ret
          exact ⟨_, rfl, .inl ⟨k, hlt, rfl, WB.out, HN.out⟩, below_alloc_ HB.out _⟩
        · have e2 : (xv == lv) = false := by simpa using hv
          clear hv
          cases h3 : isAc xk
          · have G3 := Lib.hid h3
            clear h3
            go_wp2_with (first | (go_at_call 33; (with_reducible refine (acct_t (a := xk) _ H3.out).mono ?_); rintro e w1 ⟨rfl, rfl⟩) | (go_at_call 33; (with_reducible refine (acct_f (a := xk) _ G3.out).mono ?_); rintro e w1 ⟨rfl, rfl⟩) | (go_at_call 34; (with_reducible refine (chk_t (n := xv) _ H7.out).mono ?_); rintro e w1 ⟨rfl, rfl⟩) | (go_at_call 34; (with_reducible refine (chk_f (n := xv) _ G7.out).mono ?_); rintro e w1 ⟨rfl, rfl⟩))
            go_ret
            exact ⟨_, rfl, .inl ⟨k, hlt, rfl, WB.out, HN.out⟩, below_alloc_ HB.out _⟩
          · have H3 := Lib.hid h3
            clear h3
            go_wp2_with (first | (go_at_call 33; (with_reducible refine (acct_t (a := xk) _ H3.out).mono ?_); rintro e w1 ⟨rfl, rfl⟩) | (go_at_call 33; (with_reducible refine (acct_f (a := xk) _ G3.out).mono ?_); rintro e w1 ⟨rfl, rfl⟩) | (go_at_call 34; (with_reducible refine (chk_t (n := xv) _ H7.out).mono ?_); rintro e w1 ⟨rfl, rfl⟩) | (go_at_call 34; (with_reducible refine (chk_f (n := xv) _ G7.out).mono ?_); rintro e w1 ⟨rfl, rfl⟩))
            go_ret
            exact ⟨_, rfl, .inl ⟨k, hlt, rfl, WB.out, HN.out⟩, below_alloc_ HB.out _⟩
      · have e1 : (xk == lk) = false := by simpa using he
        cases h3 : isAc xk
        · have WB := Lib.hid (show badO l k = true by rw [HW.out, h3]; rfl)
          have G3 := Lib.hid h3
          clear h3
          go_wp2_with (first | (go_at_call 33; (with_reducible refine (acct_t (a := xk) _ H3.out).mono ?_); rintro e w1 ⟨rfl, rfl⟩) | (go_at_call 33; (with_reducible refine (acct_f (a := xk) _ G3.out).mono ?_); rintro e w1 ⟨rfl, rfl⟩) | (go_at_call 34; (with_reducible refine (chk_t (n := xv) _ H7.out).mono ?_); rintro e w1 ⟨rfl, rfl⟩) | (go_at_call 34; (with_reducible refine (chk_f (n := xv) _ G7.out).mono ?_); rintro e w1 ⟨rfl, rfl⟩))
          go_ret
          exact ⟨_, rfl, .inl ⟨k, hlt, rfl, WB.out, HN.out⟩, below_alloc_ HB.out _⟩
        · by_cases h4 : xk ≤ lk
          · have WB := Lib.hid (show badO l k = true by rw [HW.out, decide_eq_true h4]; simp)
            have H3 := Lib.hid h3
            have e3 : decide (xk ≤ lk) = true := by simpa using h4
            clear h3
            go_wp2_with (first | (go_at_call 33; (with_reducible refine (acct_t (a := xk) _ H3.out).mono ?_); rintro e w1 ⟨rfl, rfl⟩) | (go_at_call 33; (with_reducible refine (acct_f (a := xk) _ G3.out).mono ?_); rintro e w1 ⟨rfl, rfl⟩) | (go_at_call 34; (with_reducible refine (chk_t (n := xv) _ H7.out).mono ?_); rintro e w1 ⟨rfl, rfl⟩) | (go_at_call 34; (with_reducible refine (chk_f (n := xv) _ G7.out).mono ?_); rintro e w1 ⟨rfl, rfl⟩))
            go_ret
            exact ⟨_, rfl, .inl ⟨k, hlt, rfl, WB.out, HN.out⟩, below_alloc_ HB.out _⟩
          · have e3 : decide (xk ≤ lk) = false := by simp; omega
            cases h7 : isA xv
            · have WB := Lib.hid (show badO l k = true by rw [HW.out, h7]; simp)
              have H3 := Lib.hid h3; have G7 := Lib.hid h7
              clear h3 h7
              go_wp2_with (first | (go_at_call 33; (with_reducible refine (acct_t (a := xk) _ H3.out).mono ?_); rintro e w1 ⟨rfl, rfl⟩) | (go_at_call 33; (with_reducible refine (acct_f (a := xk) _ G3.out).mono ?_); rintro e w1 ⟨rfl, rfl⟩) | (go_at_call 34; (with_reducible refine (chk_t (n := xv) _ H7.out).mono ?_); rintro e w1 ⟨rfl, rfl⟩) | (go_at_call 34; (with_reducible refine (chk_f (n := xv) _ G7.out).mono ?_); rintro e w1 ⟨rfl, rfl⟩))
              go_ret
              exact ⟨_, rfl, .inl ⟨k, hlt, rfl, WB.out, HN.out⟩, below_alloc_ HB.out _⟩
            · have WB := Lib.hid (show ∀ j, j < k + 1 → badO l j = false from fun j hj => by
                rcases Nat.lt_or_eq_of_le (Nat.lt_succ_iff.1 hj) with e | e
                · exact HN.out j e
                · rw [e, HW.out, h3, e3, h7]; rfl)
              have H3 := Lib.hid h3; have H7 := Lib.hid h7
              clear h3 h7
              go_wp2_with (first | (go_at_call 33; (with_reducible refine (acct_t (a := xk) _ H3.out).mono ?_); rintro e w1 ⟨rfl, rfl⟩) | (go_at_call 34; (with_reducible refine (chk_t (n := xv) _ H7.out).mono ?_); rintro e w1 ⟨rfl, rfl⟩))
              go_roundw
              case rel => exact ⟨k + 1, xv, by omega, by go_num, WB, Lib.hid (by rw [HP.out]; exact Blk.alloc (blk_upd (blk_upd HL.out rfl) rfl) _), Lib.hid (below_alloc_ ((HB.out.setCell (show w.heap.size ≤ (⟨w.heap.size, 0, none⟩ : Addr).block from Nat.le_refl _) _).setCell (show w.heap.size ≤ (⟨w.heap.size, 1, none⟩ : Addr).block from Nat.le_refl _) _) _)⟩
              case measure => simp [intOf]; omega
    · have hd : decide ((k : Int) < (l.length : Int)) = false := by simp; omega
      have hd' : decide (k < l.length) = false := by simp; omega
      have W0 := Lib.hid (show ∀ j, j < l.length → badO l j = false from fun j hj => HN.out j (by omega))
      go_wp2_with fail
      go_ret
      exact ⟨_, rfl, .inr ⟨rfl, W0.out⟩, HB.out⟩
end Go.Proofs.YtjhhpcjnhjbpdaaGreat
