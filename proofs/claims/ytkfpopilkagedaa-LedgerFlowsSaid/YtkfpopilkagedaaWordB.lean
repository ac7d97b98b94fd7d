/- More words for memory: what stands behind calls that make memory. -/
import Derived.Test.YtkfpopilkagedaaWords
import Derived.WalkKit
import Derived.Lib.Hide
set_option linter.unusedSimpArgs false
set_option linter.unusedVariables false
namespace Go.Proofs.Ytkfpopilkagedaa
open Go.RowKit
theorem below_cell {w1 w2 : World} {p : Addr} {v : Value} (h : w1.cell? p = some v) (hb : Below w1.heap.size w1 w2) : w2.cell? p = some v :=
  (hb.cell (World.block_lt_of_cell? w1 p h)).trans h
theorem blk_pass {w1 w2 w3 : World} {g : Nat} {t : TypeId} {cs : Array Value} (h : Blk w1 g t cs) (k : Below w1.heap.size w1 w2) (hb : Below w2.heap.size w2 w3) : Blk w3 g t cs :=
  (h.keeps (S := fun _ => False) (.of_below k) id).keeps (S := fun _ => False) (.of_below hb) id
theorem keep2 {w w1 w2 : World} {p0 p1 : Addr} {v0 v1 : Value} (h : w1.cell? p0 = some v0 ∧ w1.cell? p1 = some v1 ∧ Hid (Below w.heap.size w w1)) (hb : Below w1.heap.size w1 w2) : w2.cell? p0 = some v0 ∧ w2.cell? p1 = some v1 ∧ Hid (Below w.heap.size w w2) := by
  obtain ⟨h0, h1, hB⟩ := h
  exact ⟨below_cell h0 hb, below_cell h1 hb, Lib.hid (below_then hB.out hb)⟩
theorem keep4 {w w1 w2 : World} {p0 p1 p2 p3 : Addr} {v0 v1 v2 v3 : Value} (h : w1.cell? p0 = some v0 ∧ w1.cell? p1 = some v1 ∧ w1.cell? p2 = some v2 ∧ w1.cell? p3 = some v3 ∧ Hid (Below w.heap.size w w1)) (hb : Below w1.heap.size w1 w2) : w2.cell? p0 = some v0 ∧ w2.cell? p1 = some v1 ∧ w2.cell? p2 = some v2 ∧ w2.cell? p3 = some v3 ∧ Hid (Below w.heap.size w w2) := by
  obtain ⟨h0, h1, h2, h3, hB⟩ := h
  exact ⟨below_cell h0 hb, below_cell h1 hb, below_cell h2 hb, below_cell h3 hb, Lib.hid (below_then hB.out hb)⟩
theorem keep6 {w w1 w2 : World} {p0 p1 p2 p3 p4 p5 : Addr} {v0 v1 v2 v3 v4 v5 : Value} (h : w1.cell? p0 = some v0 ∧ w1.cell? p1 = some v1 ∧ w1.cell? p2 = some v2 ∧ w1.cell? p3 = some v3 ∧ w1.cell? p4 = some v4 ∧ w1.cell? p5 = some v5 ∧ Hid (Below w.heap.size w w1)) (hb : Below w1.heap.size w1 w2) : w2.cell? p0 = some v0 ∧ w2.cell? p1 = some v1 ∧ w2.cell? p2 = some v2 ∧ w2.cell? p3 = some v3 ∧ w2.cell? p4 = some v4 ∧ w2.cell? p5 = some v5 ∧ Hid (Below w.heap.size w w2) := by
  obtain ⟨h0, h1, h2, h3, h4, h5, hB⟩ := h
  exact ⟨below_cell h0 hb, below_cell h1 hb, below_cell h2 hb, below_cell h3 hb, below_cell h4 hb, below_cell h5 hb, Lib.hid (below_then hB.out hb)⟩
theorem keep8 {w w1 w2 : World} {p0 p1 p2 p3 p4 p5 p6 p7 : Addr} {v0 v1 v2 v3 v4 v5 v6 v7 : Value} (h : w1.cell? p0 = some v0 ∧ w1.cell? p1 = some v1 ∧ w1.cell? p2 = some v2 ∧ w1.cell? p3 = some v3 ∧ w1.cell? p4 = some v4 ∧ w1.cell? p5 = some v5 ∧ w1.cell? p6 = some v6 ∧ w1.cell? p7 = some v7 ∧ Hid (Below w.heap.size w w1)) (hb : Below w1.heap.size w1 w2) : w2.cell? p0 = some v0 ∧ w2.cell? p1 = some v1 ∧ w2.cell? p2 = some v2 ∧ w2.cell? p3 = some v3 ∧ w2.cell? p4 = some v4 ∧ w2.cell? p5 = some v5 ∧ w2.cell? p6 = some v6 ∧ w2.cell? p7 = some v7 ∧ Hid (Below w.heap.size w w2) := by
  obtain ⟨h0, h1, h2, h3, h4, h5, h6, h7, hB⟩ := h
  exact ⟨below_cell h0 hb, below_cell h1 hb, below_cell h2 hb, below_cell h3 hb, below_cell h4 hb, below_cell h5 hb, below_cell h6 hb, below_cell h7 hb, Lib.hid (below_then hB.out hb)⟩
theorem last8 {a0 a1 a2 a3 a4 a5 a6 a7 : Prop} {P : Prop} (h : a0 ∧ a1 ∧ a2 ∧ a3 ∧ a4 ∧ a5 ∧ a6 ∧ a7 ∧ Hid P) : P := h.2.2.2.2.2.2.2.2.out
theorem via_blk {P : Program} {W : World} {α : Type} {prog : Sem α} {v : α} {g : Nat} {T : TypeId} {cs : Array Value} (B : Blk W g T cs) (h : ∀ W', Blk W' g T cs → Sem.run P prog W' = .ok v W') : Sem.run P prog W = .ok v W := h W B
theorem blk_s0 {w : World} {g : Nat} {T : TypeId} {a b u : Value} (h : Blk w g T #[a, b]) : Blk (w.setCell ⟨g, 0, none⟩ u) g T #[u, b] := h.set_ 0 u
theorem blk_s1 {w : World} {g : Nat} {T : TypeId} {a b u : Value} (h : Blk w g T #[a, b]) : Blk (w.setCell ⟨g, 1, none⟩ u) g T #[a, u] := h.set_ 1 u
theorem Blk.c3 {w : World} {g : Nat} {t : TypeId} {a b c : Value} (h : Blk w g t #[a, b, c]) : (w.cell? ⟨g, 0, none⟩ = some a ∧ w.cell? ⟨g, 1, none⟩ = some b ∧ w.cell? ⟨g, 2, none⟩ = some c) ∧ g < w.heap.size := by
  have h0 := h.cell 0; have h1 := h.cell 1; have h2 := h.cell 2
  exact ⟨⟨by simpa using h0, by simpa using h1, by simpa using h2⟩, h.lt⟩
theorem Blk.c7 {w : World} {g : Nat} {t : TypeId} {a0 a1 a2 a3 a4 a5 a6 : Value} (h : Blk w g t #[a0, a1, a2, a3, a4, a5, a6]) :
    (w.cell? ⟨g, 0, none⟩ = some a0 ∧ w.cell? ⟨g, 1, none⟩ = some a1 ∧ w.cell? ⟨g, 2, none⟩ = some a2 ∧ w.cell? ⟨g, 3, none⟩ = some a3 ∧ w.cell? ⟨g, 4, none⟩ = some a4 ∧ w.cell? ⟨g, 5, none⟩ = some a5 ∧ w.cell? ⟨g, 6, none⟩ = some a6) ∧ g < w.heap.size := by
  have h0 := h.cell 0; have h1 := h.cell 1; have h2 := h.cell 2; have h3 := h.cell 3; have h4 := h.cell 4; have h5 := h.cell 5; have h6 := h.cell 6
  exact ⟨⟨by simpa using h0, by simpa using h1, by simpa using h2, by simpa using h3, by simpa using h4, by simpa using h5, by simpa using h6⟩, h.lt⟩
theorem Blk.c4 {w : World} {g : Nat} {t : TypeId} {a0 a1 a2 a3 : Value} (h : Blk w g t #[a0, a1, a2, a3]) :
    w.cell? ⟨g, 0, none⟩ = some a0 ∧ w.cell? ⟨g, 1, none⟩ = some a1 ∧ w.cell? ⟨g, 2, none⟩ = some a2 ∧ w.cell? ⟨g, 3, none⟩ = some a3 := by
  have h0 := h.cell 0; have h1 := h.cell 1; have h2 := h.cell 2; have h3 := h.cell 3
  exact ⟨by simpa using h0, by simpa using h1, by simpa using h2, by simpa using h3⟩
theorem Blk.c5 {w : World} {g : Nat} {t : TypeId} {a0 a1 a2 a3 a4 : Value} (h : Blk w g t #[a0, a1, a2, a3, a4]) :
    w.cell? ⟨g, 0, none⟩ = some a0 ∧ w.cell? ⟨g, 1, none⟩ = some a1 ∧ w.cell? ⟨g, 2, none⟩ = some a2 ∧ w.cell? ⟨g, 3, none⟩ = some a3 ∧ w.cell? ⟨g, 4, none⟩ = some a4 := by
  have h0 := h.cell 0; have h1 := h.cell 1; have h2 := h.cell 2; have h3 := h.cell 3; have h4 := h.cell 4
  exact ⟨by simpa using h0, by simpa using h1, by simpa using h2, by simpa using h3, by simpa using h4⟩
theorem blk_upd {w : World} {g : Nat} {t : TypeId} {cs ds : Array Value} {i : Nat} {u : Value} (h : Blk w g t cs) (e : cs.setIfInBounds i u = ds) : Blk (w.setCell ⟨g, i, none⟩ u) g t ds := e ▸ h.set_ i u
theorem below_drewN_ {w a : World} (h : Below w.heap.size w a) (n : Nat) : Below w.heap.size w (a.drewN n) := Keeps.below ((Keeps.of_below h).drewN n)
theorem below_set_ {w a : World} (h : Below w.heap.size w a) {p : Addr} (hp : w.heap.size ≤ p.block) (u : Value) : Below w.heap.size w (a.setCell p u) := h.setCell hp u
theorem cellB {w w' : World} {p : Addr} {v : Value} (hb : Below w.heap.size w w') (h : p.block < w.heap.size) (q : w.cell? p = some v) : w'.cell? p = some v := (hb.cell h).trans q
theorem below_frozen {w1 w2 : World} {p : Addr} {v : Value} (h : w1.frozen? p = false) (c : w1.cell? p = some v) (hb : Below w1.heap.size w1 w2) : w2.frozen? p = false :=
  (hb.frozen (World.block_lt_of_cell? w1 p c)).trans h
theorem last2 {a0 a1 : Prop} {P : Prop} (h : a0 ∧ a1 ∧ Hid P) : P := h.2.2.out
theorem last4 {a0 a1 a2 a3 : Prop} {P : Prop} (h : a0 ∧ a1 ∧ a2 ∧ a3 ∧ Hid P) : P := h.2.2.2.2.out
theorem last6 {a0 a1 a2 a3 a4 a5 : Prop} {P : Prop} (h : a0 ∧ a1 ∧ a2 ∧ a3 ∧ a4 ∧ a5 ∧ Hid P) : P := h.2.2.2.2.2.2.out
theorem below_kp {w a b : World} {g : Nat} (h : Below w.heap.size w a) (k : Keeps (· = g) a b) (hg : w.heap.size ≤ g) : Below w.heap.size w b :=
  ⟨k.os.trans h.os, k.tape.trans h.tape, k.output.trans h.output, Nat.le_trans h.size k.size, fun i hi => (k.block i (Nat.lt_of_lt_of_le hi h.size) (by omega)).trans (h.block i hi)⟩
theorem keep_cell {w1 w2 : World} {g : Nat} {p : Addr} {v : Value} (h : w1.cell? p = some v) (k : Keeps (· = g) w1 w2) (hg : p.block ≠ g) : w2.cell? p = some v :=
  (k.cell (World.block_lt_of_cell? w1 p h) hg).trans h
end Go.Proofs.Ytkfpopilkagedaa
