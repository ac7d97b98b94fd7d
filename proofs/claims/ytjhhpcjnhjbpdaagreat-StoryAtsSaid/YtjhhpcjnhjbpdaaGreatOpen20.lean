/- Arguments laid open (printed by a program of ours). -/
import Derived.Test.YtjhhpcjnhjbpdaaGreatOpenA
import Derived.Test.YtjhhpcjnhjbpdaaGreatStampI
set_option linter.unusedSimpArgs false
set_option linter.unusedVariables false
namespace Go.Proofs.YtjhhpcjnhjbpdaaGreat
open Go.ChangeShapes Go.WideShapes Go.ChangeAt Go.RowKit Go.Joins
/-- a api.Entry -/
structure VEntry where
  key : Int
  v : Int
def VEntry.cells (x : VEntry) : List Value := [.int .i64 x.key, .int .i64 x.v]
def VEntry.ok (w : World) (x : VEntry) : Prop := (Lit.int .i64 x.key).wf = true ∧ (Lit.int .i64 x.v).wf = true
/-- a api.Transfer -/
structure VTransfer where
  id : Int
  xf : Int
  xt : Int
  xn : Int
def VTransfer.cells (x : VTransfer) : List Value := [.int .i64 x.id, .int .i64 x.xf, .int .i64 x.xt, .int .i64 x.xn]
def VTransfer.ok (w : World) (x : VTransfer) : Prop := (Lit.int .i64 x.id).wf = true ∧ (Lit.int .i64 x.xf).wf = true ∧ (Lit.int .i64 x.xt).wf = true ∧ (Lit.int .i64 x.xn).wf = true
/-- a api.Call -/
structure VCall20 where
  x_id : Int
  x_xf : Int
  x_xt : Int
  x_xn : Int
  fr : Int
  too : Int
  fate : Int
  tt : Int
def VCall20.cells (x : VCall20) : List Value := [.int .i64 x.x_id, .int .i64 x.x_xf, .int .i64 x.x_xt, .int .i64 x.x_xn, .int .i64 x.fr, .int .i64 x.too, .int .i64 x.fate, .int .i64 x.tt]
def VCall20.ok (w : World) (x : VCall20) : Prop := (Lit.int .i64 x.x_id).wf = true ∧ (Lit.int .i64 x.x_xf).wf = true ∧ (Lit.int .i64 x.x_xt).wf = true ∧ (Lit.int .i64 x.x_xn).wf = true ∧ (Lit.int .i64 x.fr).wf = true ∧ (Lit.int .i64 x.too).wf = true ∧ (Lit.int .i64 x.fate).wf = true ∧ (Lit.int .i64 x.tt).wf = true
/-- a moietylaw20.Story -/
structure VStory where
  rate : Nat
  opensA : Option Addr
  opensC : Nat
  opens : List VEntry
  callsA : Option Addr
  callsC : Nat
  calls : List VCall20
def VStory.cells (x : VStory) : List Value := [.float .f64 x.rate, .slice x.opensA x.opens.length x.opensC, .slice x.callsA x.calls.length x.callsC]
def VStory.ok (w : World) (x : VStory) : Prop := (Lit.float .f64 x.rate).wf = true ∧ SlOk w 2 x.opensA x.opensC (x.opens.flatMap VEntry.cells) ∧ x.opens.length ≤ x.opensC ∧ x.opensC ≤ maxLen ∧ (∀ u_ ∈ x.opens, VEntry.ok w u_) ∧ SlOk w 8 x.callsA x.callsC (x.calls.flatMap VCall20.cells) ∧ x.calls.length ≤ x.callsC ∧ x.callsC ≤ maxLen ∧ (∀ u_ ∈ x.calls, VCall20.ok w u_)
theorem tc_int {H : Type} {enc : TypeId × Value → H} {w : World} {base : Nat} {spare : Nat → Bool} {held : Bool} {n : Nat} {cs : List Value} {y : DataW H × List MemPlace} (h : DataW.trod enc Tryz.prog w base spare held n 3 cs = some y) : ∃ (z : Int), cs = [.int .i64 z] ∧ (Lit.int .i64 z).wf = true := by
  obtain ⟨z, e, _, hw⟩ := DataW.trod_int Tryz.underlying3 h
  exact ⟨z, e, hw⟩
theorem tc_int64 {H : Type} {enc : TypeId × Value → H} {w : World} {base : Nat} {spare : Nat → Bool} {held : Bool} {n : Nat} {cs : List Value} {y : DataW H × List MemPlace} (h : DataW.trod enc Tryz.prog w base spare held n 2 cs = some y) : ∃ (z : Int), cs = [.int .i64 z] ∧ (Lit.int .i64 z).wf = true := by
  obtain ⟨z, e, _, hw⟩ := DataW.trod_int Tryz.underlying2 h
  exact ⟨z, e, hw⟩
set_option maxRecDepth 100000 in
theorem tc_Transfer {H : Type} {enc : TypeId × Value → H} {w : World} {base : Nat} {spare : Nat → Bool} {held : Bool} {n : Nat} {cs : List Value} {y : DataW H × List MemPlace} (h : DataW.trod enc Tryz.prog w base spare held n 33 cs = some y) : ∃ (id : Int) (xf : Int) (xt : Int) (xn : Int), cs = [.int .i64 id, .int .i64 xf, .int .i64 xt, .int .i64 xn] ∧ (Lit.int .i64 id).wf = true ∧ (Lit.int .i64 xf).wf = true ∧ (Lit.int .i64 xt).wf = true ∧ (Lit.int .i64 xn).wf = true := by
  obtain ⟨ys, n', _, _, hl, hy, hf⟩ := DataW.trod_struct Tryz.underlying33 h
  rw [show Tryz.prog.cellsOf 33 = 4 from by kernel_rfl] at hl
  match cs, hl with
  | [c0, c1, c2, c3], _ =>
    have g0 := hf 0 _ rfl
    have k0 : Tryz.prog.cellsOf 3 = 1 := by kernel_rfl
    have e0 : ys[0]? = some (ys[0]'(by rw [hy]; decide)) := List.getElem?_eq_getElem _
    replace g0 : DataW.trod enc Tryz.prog w base spare held n' 3 [c0] = some (ys[0]'(by rw [hy]; decide)) := by rw [← e0, ← g0]; show _ = DataW.trod _ _ _ _ _ _ _ 3 ((List.drop 0 [c0, c1, c2, c3]).take (Tryz.prog.cellsOf 3)); rw [k0]; rfl
    obtain ⟨q0, r0, h0_0⟩ := tc_int g0
    simp only [List.cons.injEq, and_true] at r0
    have g1 := hf 1 _ rfl
    have k1 : Tryz.prog.cellsOf 3 = 1 := by kernel_rfl
    have e1 : ys[1]? = some (ys[1]'(by rw [hy]; decide)) := List.getElem?_eq_getElem _
    replace g1 : DataW.trod enc Tryz.prog w base spare held n' 3 [c1] = some (ys[1]'(by rw [hy]; decide)) := by rw [← e1, ← g1]; show _ = DataW.trod _ _ _ _ _ _ _ 3 ((List.drop 1 [c0, c1, c2, c3]).take (Tryz.prog.cellsOf 3)); rw [k1]; rfl
    obtain ⟨q1, r1, h1_0⟩ := tc_int g1
    simp only [List.cons.injEq, and_true] at r1
    have g2 := hf 2 _ rfl
    have k2 : Tryz.prog.cellsOf 3 = 1 := by kernel_rfl
    have e2 : ys[2]? = some (ys[2]'(by rw [hy]; decide)) := List.getElem?_eq_getElem _
    replace g2 : DataW.trod enc Tryz.prog w base spare held n' 3 [c2] = some (ys[2]'(by rw [hy]; decide)) := by rw [← e2, ← g2]; show _ = DataW.trod _ _ _ _ _ _ _ 3 ((List.drop 2 [c0, c1, c2, c3]).take (Tryz.prog.cellsOf 3)); rw [k2]; rfl
    obtain ⟨q2, r2, h2_0⟩ := tc_int g2
    simp only [List.cons.injEq, and_true] at r2
    have g3 := hf 3 _ rfl
    have k3 : Tryz.prog.cellsOf 2 = 1 := by kernel_rfl
    have e3 : ys[3]? = some (ys[3]'(by rw [hy]; decide)) := List.getElem?_eq_getElem _
    replace g3 : DataW.trod enc Tryz.prog w base spare held n' 2 [c3] = some (ys[3]'(by rw [hy]; decide)) := by rw [← e3, ← g3]; show _ = DataW.trod _ _ _ _ _ _ _ 2 ((List.drop 3 [c0, c1, c2, c3]).take (Tryz.prog.cellsOf 2)); rw [k3]; rfl
    obtain ⟨q3, r3, h3_0⟩ := tc_int64 g3
    simp only [List.cons.injEq, and_true] at r3
    exact ⟨q0, q1, q2, q3, by simp [r0, r1, r2, r3], h0_0, h1_0, h2_0, h3_0⟩
theorem tc_Fate {H : Type} {enc : TypeId × Value → H} {w : World} {base : Nat} {spare : Nat → Bool} {held : Bool} {n : Nat} {cs : List Value} {y : DataW H × List MemPlace} (h : DataW.trod enc Tryz.prog w base spare held n 34 cs = some y) : ∃ (z : Int), cs = [.int .i64 z] ∧ (Lit.int .i64 z).wf = true := by
  obtain ⟨z, e, _, hw⟩ := DataW.trod_int Tryz.underlying34 h
  exact ⟨z, e, hw⟩
set_option maxRecDepth 100000 in
theorem tc_Call20 {H : Type} {enc : TypeId × Value → H} {w : World} {base : Nat} {spare : Nat → Bool} {held : Bool} {n : Nat} {cs : List Value} {y : DataW H × List MemPlace} (h : DataW.trod enc Tryz.prog w base spare held n 36 cs = some y) : ∃ (x_id : Int) (x_xf : Int) (x_xt : Int) (x_xn : Int) (fr : Int) (too : Int) (fate : Int) (tt : Int), cs = [.int .i64 x_id, .int .i64 x_xf, .int .i64 x_xt, .int .i64 x_xn, .int .i64 fr, .int .i64 too, .int .i64 fate, .int .i64 tt] ∧ (Lit.int .i64 x_id).wf = true ∧ (Lit.int .i64 x_xf).wf = true ∧ (Lit.int .i64 x_xt).wf = true ∧ (Lit.int .i64 x_xn).wf = true ∧ (Lit.int .i64 fr).wf = true ∧ (Lit.int .i64 too).wf = true ∧ (Lit.int .i64 fate).wf = true ∧ (Lit.int .i64 tt).wf = true := by
  obtain ⟨ys, n', _, _, hl, hy, hf⟩ := DataW.trod_struct Tryz.underlying36 h
  rw [show Tryz.prog.cellsOf 36 = 8 from by kernel_rfl] at hl
  match cs, hl with
  | [c0, c1, c2, c3, c4, c5, c6, c7], _ =>
    have g0 := hf 0 _ rfl
    have k0 : Tryz.prog.cellsOf 33 = 4 := by kernel_rfl
    have e0 : ys[0]? = some (ys[0]'(by rw [hy]; decide)) := List.getElem?_eq_getElem _
    replace g0 : DataW.trod enc Tryz.prog w base spare held n' 33 [c0, c1, c2, c3] = some (ys[0]'(by rw [hy]; decide)) := by rw [← e0, ← g0]; show _ = DataW.trod _ _ _ _ _ _ _ 33 ((List.drop 0 [c0, c1, c2, c3, c4, c5, c6, c7]).take (Tryz.prog.cellsOf 33)); rw [k0]; rfl
    obtain ⟨q0_id, q0_xf, q0_xt, q0_xn, r0, h0_0, h0_1, h0_2, h0_3⟩ := tc_Transfer g0
    simp only [List.cons.injEq, and_true] at r0
    have g1 := hf 1 _ rfl
    have k1 : Tryz.prog.cellsOf 2 = 1 := by kernel_rfl
    have e1 : ys[1]? = some (ys[1]'(by rw [hy]; decide)) := List.getElem?_eq_getElem _
    replace g1 : DataW.trod enc Tryz.prog w base spare held n' 2 [c4] = some (ys[1]'(by rw [hy]; decide)) := by rw [← e1, ← g1]; show _ = DataW.trod _ _ _ _ _ _ _ 2 ((List.drop 4 [c0, c1, c2, c3, c4, c5, c6, c7]).take (Tryz.prog.cellsOf 2)); rw [k1]; rfl
    obtain ⟨q1, r1, h1_0⟩ := tc_int64 g1
    simp only [List.cons.injEq, and_true] at r1
    have g2 := hf 2 _ rfl
    have k2 : Tryz.prog.cellsOf 2 = 1 := by kernel_rfl
    have e2 : ys[2]? = some (ys[2]'(by rw [hy]; decide)) := List.getElem?_eq_getElem _
    replace g2 : DataW.trod enc Tryz.prog w base spare held n' 2 [c5] = some (ys[2]'(by rw [hy]; decide)) := by rw [← e2, ← g2]; show _ = DataW.trod _ _ _ _ _ _ _ 2 ((List.drop 5 [c0, c1, c2, c3, c4, c5, c6, c7]).take (Tryz.prog.cellsOf 2)); rw [k2]; rfl
    obtain ⟨q2, r2, h2_0⟩ := tc_int64 g2
    simp only [List.cons.injEq, and_true] at r2
    have g3 := hf 3 _ rfl
    have k3 : Tryz.prog.cellsOf 34 = 1 := by kernel_rfl
    have e3 : ys[3]? = some (ys[3]'(by rw [hy]; decide)) := List.getElem?_eq_getElem _
    replace g3 : DataW.trod enc Tryz.prog w base spare held n' 34 [c6] = some (ys[3]'(by rw [hy]; decide)) := by rw [← e3, ← g3]; show _ = DataW.trod _ _ _ _ _ _ _ 34 ((List.drop 6 [c0, c1, c2, c3, c4, c5, c6, c7]).take (Tryz.prog.cellsOf 34)); rw [k3]; rfl
    obtain ⟨q3, r3, h3_0⟩ := tc_Fate g3
    simp only [List.cons.injEq, and_true] at r3
    have g4 := hf 4 _ rfl
    have k4 : Tryz.prog.cellsOf 2 = 1 := by kernel_rfl
    have e4 : ys[4]? = some (ys[4]'(by rw [hy]; decide)) := List.getElem?_eq_getElem _
    replace g4 : DataW.trod enc Tryz.prog w base spare held n' 2 [c7] = some (ys[4]'(by rw [hy]; decide)) := by rw [← e4, ← g4]; show _ = DataW.trod _ _ _ _ _ _ _ 2 ((List.drop 7 [c0, c1, c2, c3, c4, c5, c6, c7]).take (Tryz.prog.cellsOf 2)); rw [k4]; rfl
    obtain ⟨q4, r4, h4_0⟩ := tc_int64 g4
    simp only [List.cons.injEq, and_true] at r4
    exact ⟨q0_id, q0_xf, q0_xt, q0_xn, q1, q2, q3, q4, by simp [r0, r1, r2, r3, r4], h0_0, h0_1, h0_2, h0_3, h1_0, h2_0, h3_0, h4_0⟩
set_option maxRecDepth 100000 in
theorem tc_SlCall20 {H : Type} {enc : TypeId × Value → H} {w : World} {base : Nat} {spare : Nat → Bool} {held : Bool} {n : Nat} {cs : List Value} {y : DataW H × List MemPlace} (h : DataW.trod enc Tryz.prog w base spare held n 24 cs = some y) : ∃ (zA : Option Addr) (zC : Nat) (z : List VCall20), cs = [.slice zA z.length zC] ∧ SlOk w 8 zA zC (z.flatMap VCall20.cells) ∧ z.length ≤ zC ∧ zC ≤ maxLen ∧ (∀ u_ ∈ z, VCall20.ok w u_) := by
  obtain ⟨A, c, xs, hcs, hs, hl, hm, hx⟩ := slice_open (E := VCall20) (size := 8) (ce := fun x => VCall20.cells x) (ok := fun x => VCall20.ok w x) Tryz.underlying24 (by kernel_rfl) (fun n cs y h => by obtain ⟨x_id, x_xf, x_xt, x_xn, fr, too, fate, tt, e, hw⟩ := tc_Call20 h; exact ⟨⟨x_id, x_xf, x_xt, x_xn, fr, too, fate, tt⟩, e, hw⟩) (fun x => rfl) (by decide) h
  exact ⟨A, c, xs, hcs, hs, hl, hm, hx⟩
set_option maxRecDepth 100000 in
theorem open_calls20 {H : Type} {enc : TypeId × Value → H} {w : World} {base : Nat} {spare : Nat → Bool} {held : Bool} {r : Reach} {b0 : Nat} {v : Value} {d : DataW H} {p : List MemPlace} (hv : Value.okWide Tryz.prog w r b0 24 v) (h : DataW.Trod enc Tryz.prog w base spare held 24 v d p) :
    ∃ (sA : Option Addr) (sC : Nat) (s : List VCall20), v = .slice sA s.length sC ∧ SlOk w 8 sA sC (s.flatMap VCall20.cells) ∧ s.length ≤ sC ∧ sC ≤ maxLen ∧ (∀ u_ ∈ s, VCall20.ok w u_) := by
  obtain ⟨a, l, c, rfl⟩ := okWide_slice Tryz.underlying24 hv
  obtain ⟨fuel, hf⟩ := h
  obtain ⟨sA, sC, s, e, hw⟩ := tc_SlCall20 hf
  refine ⟨sA, sC, s, ?_, hw⟩
  simpa [Value.cells] using e
theorem trod_float {P : Program} {H : Type} {enc : TypeId × Value → H} {w : World} {base : Nat} {spare : Nat → Bool} {held : Bool} {t : TypeId} {k : FloatKind} {n : Nat} {cs : List Value} {x : DataW H × List MemPlace} (ht : P.underlying t = some (.float k)) (h : DataW.trod enc P w base spare held n t cs = some x) : ∃ b, cs = [.float k b] ∧ x = (.lit (.float k b), []) ∧ (Lit.float k b).wf = true := by
  cases n with
  | zero => simp [DataW.trod] at h
  | succ n =>
    unfold DataW.trod at h
    rw [ht] at h
    split at h <;> simp_all
theorem tc_float64 {H : Type} {enc : TypeId × Value → H} {w : World} {base : Nat} {spare : Nat → Bool} {held : Bool} {n : Nat} {cs : List Value} {y : DataW H × List MemPlace} (h : DataW.trod enc Tryz.prog w base spare held n 22 cs = some y) : ∃ (z : Nat), cs = [.float .f64 z] ∧ (Lit.float .f64 z).wf = true := by
  obtain ⟨z, e, _, hw⟩ := trod_float Tryz.underlying22 h
  exact ⟨z, e, hw⟩
set_option maxRecDepth 100000 in
theorem tc_Entry {H : Type} {enc : TypeId × Value → H} {w : World} {base : Nat} {spare : Nat → Bool} {held : Bool} {n : Nat} {cs : List Value} {y : DataW H × List MemPlace} (h : DataW.trod enc Tryz.prog w base spare held n 42 cs = some y) : ∃ (key : Int) (v : Int), cs = [.int .i64 key, .int .i64 v] ∧ (Lit.int .i64 key).wf = true ∧ (Lit.int .i64 v).wf = true := by
  obtain ⟨ys, n', _, _, hl, hy, hf⟩ := DataW.trod_struct Tryz.underlying42 h
  rw [show Tryz.prog.cellsOf 42 = 2 from by kernel_rfl] at hl
  match cs, hl with
  | [c0, c1], _ =>
    have g0 := hf 0 _ rfl
    have k0 : Tryz.prog.cellsOf 3 = 1 := by kernel_rfl
    have e0 : ys[0]? = some (ys[0]'(by rw [hy]; decide)) := List.getElem?_eq_getElem _
    replace g0 : DataW.trod enc Tryz.prog w base spare held n' 3 [c0] = some (ys[0]'(by rw [hy]; decide)) := by rw [← e0, ← g0]; show _ = DataW.trod _ _ _ _ _ _ _ 3 ((List.drop 0 [c0, c1]).take (Tryz.prog.cellsOf 3)); rw [k0]; rfl
    obtain ⟨q0, r0, h0_0⟩ := tc_int g0
    simp only [List.cons.injEq, and_true] at r0
    have g1 := hf 1 _ rfl
    have k1 : Tryz.prog.cellsOf 2 = 1 := by kernel_rfl
    have e1 : ys[1]? = some (ys[1]'(by rw [hy]; decide)) := List.getElem?_eq_getElem _
    replace g1 : DataW.trod enc Tryz.prog w base spare held n' 2 [c1] = some (ys[1]'(by rw [hy]; decide)) := by rw [← e1, ← g1]; show _ = DataW.trod _ _ _ _ _ _ _ 2 ((List.drop 1 [c0, c1]).take (Tryz.prog.cellsOf 2)); rw [k1]; rfl
    obtain ⟨q1, r1, h1_0⟩ := tc_int64 g1
    simp only [List.cons.injEq, and_true] at r1
    exact ⟨q0, q1, by simp [r0, r1], h0_0, h1_0⟩
set_option maxRecDepth 100000 in
theorem tc_SlEntry {H : Type} {enc : TypeId × Value → H} {w : World} {base : Nat} {spare : Nat → Bool} {held : Bool} {n : Nat} {cs : List Value} {y : DataW H × List MemPlace} (h : DataW.trod enc Tryz.prog w base spare held n 23 cs = some y) : ∃ (zA : Option Addr) (zC : Nat) (z : List VEntry), cs = [.slice zA z.length zC] ∧ SlOk w 2 zA zC (z.flatMap VEntry.cells) ∧ z.length ≤ zC ∧ zC ≤ maxLen ∧ (∀ u_ ∈ z, VEntry.ok w u_) := by
  obtain ⟨A, c, xs, hcs, hs, hl, hm, hx⟩ := slice_open (E := VEntry) (size := 2) (ce := fun x => VEntry.cells x) (ok := fun x => VEntry.ok w x) Tryz.underlying23 (by kernel_rfl) (fun n cs y h => by obtain ⟨key, v, e, hw⟩ := tc_Entry h; exact ⟨⟨key, v⟩, e, hw⟩) (fun x => rfl) (by decide) h
  exact ⟨A, c, xs, hcs, hs, hl, hm, hx⟩
set_option maxRecDepth 100000 in
theorem tc_Story {H : Type} {enc : TypeId × Value → H} {w : World} {base : Nat} {spare : Nat → Bool} {held : Bool} {n : Nat} {cs : List Value} {y : DataW H × List MemPlace} (h : DataW.trod enc Tryz.prog w base spare held n 26 cs = some y) : ∃ (rate : Nat) (opensA : Option Addr) (opensC : Nat) (opens : List VEntry) (callsA : Option Addr) (callsC : Nat) (calls : List VCall20), cs = [.float .f64 rate, .slice opensA opens.length opensC, .slice callsA calls.length callsC] ∧ (Lit.float .f64 rate).wf = true ∧ SlOk w 2 opensA opensC (opens.flatMap VEntry.cells) ∧ opens.length ≤ opensC ∧ opensC ≤ maxLen ∧ (∀ u_ ∈ opens, VEntry.ok w u_) ∧ SlOk w 8 callsA callsC (calls.flatMap VCall20.cells) ∧ calls.length ≤ callsC ∧ callsC ≤ maxLen ∧ (∀ u_ ∈ calls, VCall20.ok w u_) := by
  obtain ⟨ys, n', _, _, hl, hy, hf⟩ := DataW.trod_struct Tryz.underlying26 h
  rw [show Tryz.prog.cellsOf 26 = 3 from by kernel_rfl] at hl
  match cs, hl with
  | [c0, c1, c2], _ =>
    have g0 := hf 0 _ rfl
    have k0 : Tryz.prog.cellsOf 22 = 1 := by kernel_rfl
    have e0 : ys[0]? = some (ys[0]'(by rw [hy]; decide)) := List.getElem?_eq_getElem _
    replace g0 : DataW.trod enc Tryz.prog w base spare held n' 22 [c0] = some (ys[0]'(by rw [hy]; decide)) := by rw [← e0, ← g0]; show _ = DataW.trod _ _ _ _ _ _ _ 22 ((List.drop 0 [c0, c1, c2]).take (Tryz.prog.cellsOf 22)); rw [k0]; rfl
    obtain ⟨q0, r0, h0_0⟩ := tc_float64 g0
    simp only [List.cons.injEq, and_true] at r0
    have g1 := hf 1 _ rfl
    have k1 : Tryz.prog.cellsOf 23 = 1 := by kernel_rfl
    have e1 : ys[1]? = some (ys[1]'(by rw [hy]; decide)) := List.getElem?_eq_getElem _
    replace g1 : DataW.trod enc Tryz.prog w base spare held n' 23 [c1] = some (ys[1]'(by rw [hy]; decide)) := by rw [← e1, ← g1]; show _ = DataW.trod _ _ _ _ _ _ _ 23 ((List.drop 1 [c0, c1, c2]).take (Tryz.prog.cellsOf 23)); rw [k1]; rfl
    obtain ⟨q1A, q1C, q1, r1, h1_0, h1_1, h1_2, h1_3⟩ := tc_SlEntry g1
    simp only [List.cons.injEq, and_true] at r1
    have g2 := hf 2 _ rfl
    have k2 : Tryz.prog.cellsOf 24 = 1 := by kernel_rfl
    have e2 : ys[2]? = some (ys[2]'(by rw [hy]; decide)) := List.getElem?_eq_getElem _
    replace g2 : DataW.trod enc Tryz.prog w base spare held n' 24 [c2] = some (ys[2]'(by rw [hy]; decide)) := by rw [← e2, ← g2]; show _ = DataW.trod _ _ _ _ _ _ _ 24 ((List.drop 2 [c0, c1, c2]).take (Tryz.prog.cellsOf 24)); rw [k2]; rfl
    obtain ⟨q2A, q2C, q2, r2, h2_0, h2_1, h2_2, h2_3⟩ := tc_SlCall20 g2
    simp only [List.cons.injEq, and_true] at r2
    exact ⟨q0, q1A, q1C, q1, q2A, q2C, q2, by simp [r0, r1, r2], h0_0, h1_0, h1_1, h1_2, h1_3, h2_0, h2_1, h2_2, h2_3⟩
set_option maxRecDepth 100000 in
theorem open_story {H : Type} {enc : TypeId × Value → H} {w : World} {base : Nat} {spare : Nat → Bool} {held : Bool} {r : Reach} {b0 : Nat} {v : Value} {d : DataW H} {p : List MemPlace} (hv : Value.okWide Tryz.prog w r b0 26 v) (h : DataW.Trod enc Tryz.prog w base spare held 26 v d p) :
    ∃ (rate : Nat) (opensA : Option Addr) (opensC : Nat) (opens : List VEntry) (callsA : Option Addr) (callsC : Nat) (calls : List VCall20), v = .agg #[.float .f64 rate, .slice opensA opens.length opensC, .slice callsA calls.length callsC] ∧ (Lit.float .f64 rate).wf = true ∧ SlOk w 2 opensA opensC (opens.flatMap VEntry.cells) ∧ opens.length ≤ opensC ∧ opensC ≤ maxLen ∧ (∀ u_ ∈ opens, VEntry.ok w u_) ∧ SlOk w 8 callsA callsC (calls.flatMap VCall20.cells) ∧ calls.length ≤ callsC ∧ callsC ≤ maxLen ∧ (∀ u_ ∈ calls, VCall20.ok w u_) := by
  obtain ⟨cs, rfl, _⟩ := okWide_struct Tryz.underlying26 hv
  obtain ⟨fuel, hf⟩ := h
  obtain ⟨rate, opensA, opensC, opens, callsA, callsC, calls, e, hw⟩ := tc_Story hf
  refine ⟨rate, opensA, opensC, opens, callsA, callsC, calls, ?_, hw⟩
  obtain ⟨l⟩ := cs
  simp only [Value.cells] at e
  rw [show l = _ from e]
end Go.Proofs.YtjhhpcjnhjbpdaaGreat
