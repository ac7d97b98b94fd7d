/- The document's clock: contracts. -/
import Derived.Test.YtdemonageoagiaaCkC
import Derived.Test.YtdemonageoagiaaCkR
import Derived.Test.YtdemonageoagiaaCkS
import Derived.IntWalk
import Derived.LoopTactic
import Derived.Deep.QuietTactic
import Derived.BigQuiet
import Derived.Deep.RegionHeld3
import Derived.Deep.DeepCutAuto
set_option linter.unusedSimpArgs false
set_option linter.unusedVariables false
namespace Go.Proofs.Ytdemonageoagiaa
open Go.RowKit Mo
/-- a reading that was taken -/
structure Tk where
  h : Int
  s : Bool
  t : Int
  e : Int
  f : Int
def Tk.cells (x : Tk) : List Value := [.int .i64 x.h, .bool x.s, .int .i64 x.t, .int .i64 x.e, .int .i64 x.f]
theorem rtime_any (n : Int) (w : World) : Calls Try.prog 24 #[.int .i64 n] w fun e w' => e = .returned (.bool (inT n)) ∧ w = w' := by
  rcases (show n < 0 ∨ (0 ≤ n ∧ n ≤ 1125899906842624) ∨ (0 ≤ n ∧ 1125899906842624 < n) by omega) with h | ⟨h, h'⟩ | ⟨h, h'⟩
  · have e : inT n = false := inT_not.2 (by omega)
    rw [e]; clear e
    go_enter Try.func24, Try.ntmps24
    go_wp2
    go_ret
    exact ⟨rfl, rfl⟩
  · have e : inT n = true := inT_iff.2 (by omega)
    rw [e]; clear e
    go_enter Try.func24, Try.ntmps24
    go_wp2
    go_ret
    exact ⟨ret_bool (by first | rfl | (simp; done) | (simp; omega)), rfl⟩
  · have e : inT n = false := inT_not.2 (by omega)
    rw [e]; clear e
    go_enter Try.func24, Try.ntmps24
    go_wp2
    go_ret
    exact ⟨ret_bool (by first | rfl | (simp; done) | (simp; omega)), rfl⟩
attribute [local go_sem] run_store_float
theorem info_tk : (Try.prog.info? 80).map (fun i => (i.zero, i.size, i.bytes)) = some (some (.agg #[.int .i64 0, .bool false, .int .i64 0, .int .i64 0, .int .i64 0]), 5, 40) := by kernel_rfl
theorem one_tks (L : List Tk) : ∀ u ∈ L.flatMap Tk.cells, u.oneCell' = true := by
  intro u hu
  obtain ⟨x, _, hx⟩ := List.mem_flatMap.1 hu
  unfold Tk.cells at hx
  simp at hx
  rcases hx with rfl | rfl | rfl | rfl | rfl <;> rfl
theorem one_tk (x : Tk) : ∀ u ∈ x.cells, u.oneCell' = true := by
  intro u hx
  unfold Tk.cells at hx
  simp at hx
  rcases hx with rfl | rfl | rfl | rfl | rfl <;> rfl
theorem own_empty5 {w : World} {e : TypeId} {base b : Nat} (hb : w.heap.size = b) (h : base ≤ b) : (w.alloc (.cells #[] e)).ownsRow base e 5 (.slice (some ⟨b, 0, none⟩) 0 0) 0 [] := by
  subst hb
  exact World.ownsRow_made w #[] 0 h (by simp [maxLen]) rfl
theorem reads_cells {w : World} {e : TypeId} {cs : Array Value} {b size : Nat} (hb : w.heap.size = b) (hs : cs.size = size) : Reads (w.alloc (.cells cs e)) (b + 1) size (some ⟨b, 0, none⟩) 1 cs.toList := by
  subst hb
  refine ⟨by simp [hs], fun _ => ⟨_, rfl, by simp, fun j u hu => ?_⟩⟩
  rw [Addr.add_lit, World.cell?_alloc_new]
  simpa using hu
/-- what a list of readings is as a slice -/
def TkAt (w : World) (A : Option Addr) (L : List Tk) : Prop := Reads w w.heap.size 5 A L.length (L.flatMap Tk.cells)
/-- the reference's Set gave such a list -/
def RSet (w : World) (A : Option Addr) (r : Nat) (L : List Tk) (E : Int) (e' : Ending) (w' : World) : Prop := ∃ A' c', e' = .returned (.tuple #[.agg #[.float .f64 r, .slice A' L.length c'], .int .i64 E]) ∧ TkAt w' A' L ∧ Below w.heap.size w w' ∧ ∀ a, A' = some a → A = some a ∨ w.heap.size ≤ a.block
set_option maxRecDepth 100000 in
set_option maxHeartbeats 1000000 in
theorem rset_ok (r : Nat) (A : Option Addr) (n c : Nat) (L : List Tk) (hh t e : Int) (w : World) (hn : L.length = n) (hr : TkAt w A L) (hm : n ≤ 100) (h0 : n = 0) (x0 : inT hh = true) (x1 : inT t = true) (x2 : inT e = true) :
    Calls Try.prog 13 #[.agg #[.float .f64 r, .slice A n c], .int .i64 hh, .int .i64 t, .int .i64 e] w (RSet w A r (L ++ [⟨hh, true, t, e, 0⟩]) 0) := by
  have X0 := Lib.hid x0; have X1 := Lib.hid x1; have X2 := Lib.hid x2
  have HN := Lib.hid hn
  have HR := Lib.hid (show Reads w w.heap.size 5 A n (L.flatMap Tk.cells) by rw [← hn]; exact hr)
  clear x0 x1 x2 hr hn
  obtain ⟨i0, hi0, hz0, hz1, hz2⟩ := info_parts info_tk
  have hb0 : ((n : Int) == 0) = true := by rw [h0]; rfl
  have hb1 : decide ((0 : Int) < (n : Int)) = false := by rw [h0]; rfl
  have hb2 : decide (0 < n) = false := by rw [h0]; rfl
  have hb3 : n = 0 := h0
  clear h0 hb3
  go_enter Try.func13, Try.ntmps13
  go_wp2_with (first
    | (go_at_call 24; refine (rtime_any _ _).mono ?_; rintro e w1 ⟨rfl, rfl⟩; first | rw [X0.out] | rw [X1.out] | rw [X2.out])
    | (at_builtin
       refine wpList_append_any _ rfl (.tmp 42) (.tmp 44) 30 rfl (w.heap.size + 1 + 1) 80 i0 _ 5 40 Try.underlying30 hi0 hz0 hz1 hz2 rfl (by omega) (.slice (some ⟨w.heap.size + 1 + 1, 0, none⟩) 0 0) 0 [] (by rfl) (own_empty5 (by simp) (Nat.le_refl _)) w.heap.size A n c (L.flatMap Tk.cells) (by rfl) (((HR.out.alloc (Nat.le_refl _) _).alloc (by (first | omega | (simp; done) | (simp; omega))) _).alloc (by (first | omega | (simp; done) | (simp; omega))) _) (one_tks L) (by simp only [maxLen]; omega) (by omega) (by (first | omega | (simp; done) | (simp; omega))) ?_
       intro v1 w1 hown1 hg1 hat1
       simp only [Nat.zero_add, List.nil_append] at hown1
       have HO1 := Lib.hid hown1
       have P1 := Lib.hid (Blk.grown (g := w.heap.size) (t := 32) (cs := #[.float .f64 r, .slice A n c]) (by repeat (first | (refine Blk.new' ?_; simp; done) | (refine Blk.new' ?_; rfl) | refine Blk.alloc ?_ _ | refine Blk.drewN ?_ _ | refine Blk.drew ?_)) hg1 (by simp [Value.ownBlock] <;> omega))
       have Z1 := Lib.hid (Blk.grown (g := w.heap.size + 1) (t := 32) (cs := #[.float .f64 0, .slice none 0 0]) (by repeat (first | (refine Blk.new' ?_; simp; done) | (refine Blk.new' ?_; rfl) | refine Blk.alloc ?_ _ | refine Blk.drewN ?_ _ | refine Blk.drew ?_)) hg1 (by simp [Value.ownBlock] <;> omega))
       have B1 : Hid (Below w.heap.size w w1) := Lib.hid (Below.grown (by repeat (first | exact Hid.out (by assumption) | exact Below.refl _ _ | refine below_alloc_ ?_ _ | refine below_drewN_ ?_ _ | refine Below.drew ?_ | refine below_set_ ?_ (by first | exact Nat.le_refl _ | (simp; done) | (simp; omega)) _)) hg1 (by (first | omega | (simp; done) | (simp; omega))) (fun k e => by simp [Value.ownBlock] at e; omega))
       have N1 : Hid (v1.ownBlock ≠ some w.heap.size ∧ v1.ownBlock ≠ some (w.heap.size + 1)) := Lib.hid (by rcases hat1 with e | e <;> rw [e] <;> simp [Value.ownBlock] <;> omega)
       have Q1 : Hid (∀ k, v1.ownBlock = some k → w.heap.size ≤ k) := Lib.hid (fun k hk => by have := (hown1.lt k hk).1; omega)
       have L1 := Lib.hid hg1.size
       clear hown1 hg1 hat1)
    | (at_builtin
       refine wpList_append_any _ rfl (.tmp 45) (.tmp 50) 30 rfl (w.heap.size + 1 + 1) 80 i0 _ 5 40 Try.underlying30 hi0 hz0 hz1 hz2 rfl (by omega) v1 n (L.flatMap Tk.cells) (by rfl) (HO1.out.alloc _) (w1.heap.size + 1) (some ⟨w1.heap.size, 0, none⟩) 1 1 (Tk.cells ⟨hh, true, t, e, 0⟩) (by rfl) (reads_cells rfl rfl) (one_tk _) (by simp only [maxLen]; omega) (by omega) (by have := L1.out; simp at this ⊢; omega) ?_
       intro v2 w2 hown2 hg2 hat2
       obtain ⟨A', c', rfl, hrd, hblk⟩ := own_shape hown2
       have RD := Lib.hid hrd; have BK := Lib.hid hblk
       have P2 := Lib.hid (Blk.grown (P1.out.alloc _) hg2 (fun h => N1.out.1 h.symm))
       have Z2 := Lib.hid (Blk.grown (Z1.out.alloc _) hg2 (fun h => N1.out.2 h.symm))
       have B2 : Hid (Below w.heap.size w w2) := Lib.hid (Below.grown (below_alloc_ B1.out _) hg2 (by have := B1.out.size; simp; omega) (fun k hk => Q1.out k hk))
       clear hown2 hrd hblk hg2 hat2
       obtain ⟨p0, p1⟩ := P2.out.c2
       obtain ⟨z0, z1⟩ := Z2.out.c2
       have f0 := Z2.out.frozen 0; have f1 := Z2.out.frozen 1; have f2 := P2.out.frozen 1
       have pl := P2.out.lt; have zl := Z2.out.lt))
  have hS : Keeps (fun k => k < w.heap.size + 1 + 1) w2 (((w2.setCell ⟨w.heap.size, 1, none⟩ (.slice A' (n + 1) c')).setCell ⟨w.heap.size + 1, 0, none⟩ (.float .f64 r)).setCell ⟨w.heap.size + 1, 1, none⟩ (.slice A' (n + 1) c')) := by
    refine Keeps.set_ ?_ (Or.inl (Nat.lt_succ_self _)) _
    refine Keeps.set_ ?_ (Or.inl (Nat.lt_succ_self _)) _
    exact Keeps.set_ (Keeps.refl _ _) (Or.inl (Nat.lt_succ_of_lt (Nat.lt_succ_self _))) _
  refine bodyPost_ret (v := .tuple #[.agg #[.float .f64 r, .slice A' (n + 1) c'], .int .i64 0]) (via_blk (g := w.heap.size + 1) (T := 32) (cs := #[.float .f64 r, .slice A' (n + 1) c']) ?_ (fun W' hB => by obtain ⟨c0, c1⟩ := hB.c2; simp [results, Try.results13, go_sem, c0, c1])) rfl ?_
  · exact blk_upd (blk_upd (Blk.far Z2.out (Nat.succ_ne_self _) _) rfl) rfl
  · refine ⟨A', c', by rw [List.length_append, HN.out]; rfl, ?_, ?_, fun a ha => .inr (by have := BK.out a ha; omega)⟩
    · have h := Reads.kp RD.out hS (fun a ha hlt => by have := BK.out a ha; omega)
      unfold TkAt
      rw [List.length_append, HN.out, List.flatMap_append]
      simpa using h
    · exact below_set_ (below_set_ (below_set_ B2.out (Nat.le_refl _) _) (Nat.le_succ _) _) (Nat.le_succ _) _
end Go.Proofs.Ytdemonageoagiaa
