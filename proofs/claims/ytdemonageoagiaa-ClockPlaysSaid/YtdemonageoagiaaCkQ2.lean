/- The document's clock: Set behind other readings. -/
import Derived.Test.YtdemonageoagiaaCkQ
import Derived.Test.YtdemonageoagiaaOpenA
set_option linter.unusedSimpArgs false
set_option linter.unusedVariables false
namespace Go.Proofs.Ytdemonageoagiaa
open Go.RowKit Mo
attribute [local go_sem] run_store_float
set_option maxRecDepth 100000 in
set_option maxHeartbeats 1000000 in
theorem rset_ok1 (r : Nat) (A : Option Addr) (n c : Nat) (L : List Tk) (x : Tk) (hx : L[n]? = some x) (hh t e : Int) (hl : x.h ≤ hh) (w : World) (hn : L.length = n + 1) (hr : TkAt w A L) (hm : n + 1 ≤ 100) (x0 : inT hh = true) (x1 : inT t = true) (x2 : inT e = true) :
    Calls Try.prog 13 #[.agg #[.float .f64 r, .slice A (n + 1) c], .int .i64 hh, .int .i64 t, .int .i64 e] w (RSet w A r (L ++ [⟨hh, true, t, e, 0⟩]) 0) := by
  have X0 := Lib.hid x0; have X1 := Lib.hid x1; have X2 := Lib.hid x2
  have HN := Lib.hid hn
  have HR := Lib.hid (show Reads w w.heap.size 5 A (n + 1) (L.flatMap Tk.cells) by rw [← hn]; exact hr)
  clear x0 x1 x2 hr hn
  obtain ⟨i0, hi0, hz0, hz1, hz2⟩ := info_parts info_tk
  obtain ⟨ad, rfl, hadb, hcell⟩ := HR.out.2 (by omega)
  have hnl : n < L.length := by rw [HN.out]; omega
  have q0 := hcell (n * 5 + 0) _ ((flatMap_at L Tk.cells 5 (fun _ => rfl) n 0 hnl (show 0 < 5 by decide)).trans (List.getElem?_eq_getElem (show 0 < 5 by decide)))
  have hxe : L[n] = x := by rw [List.getElem?_eq_getElem hnl] at hx; injection hx
  simp only [Tk.cells, List.getElem_cons_zero, hxe, Nat.add_zero] at q0
  have hbl := World.block_lt_of_cell? w _ q0
  have hd1 : decide (hh < x.h) = false := by simp; omega
  have hd2 : ¬ (hh < x.h) := by omega
  have hpos : 0 < n + 1 := by omega
  have hb1 : decide ((0 : Int) < ((n + 1 : Nat) : Int)) = true := by first | (simp; done) | (simp; omega)
  clear hcell hx hxe hnl
  go_enter Try.func13, Try.ntmps13
  go_wp2_with (first
    | (go_at_call 24; refine (rtime_any _ _).mono ?_; rintro e w1 ⟨rfl, rfl⟩; first | rw [X0.out] | rw [X1.out] | rw [X2.out])
    | (at_builtin
       refine wpList_append_any _ rfl (.tmp 42) (.tmp 44) 30 rfl (w.heap.size + 1 + 1) 80 i0 _ 5 40 Try.underlying30 hi0 hz0 hz1 hz2 rfl (by omega) (.slice (some ⟨w.heap.size + 1 + 1, 0, none⟩) 0 0) 0 [] (by rfl) (own_empty5 (by simp) (Nat.le_refl _)) w.heap.size (some ad) (n + 1) c (L.flatMap Tk.cells) (by rfl) (((HR.out.alloc (Nat.le_refl _) _).alloc (by (first | omega | (simp; done) | (simp; omega))) _).alloc (by (first | omega | (simp; done) | (simp; omega))) _) (one_tks L) (by simp only [maxLen]; omega) (by omega) (by (first | omega | (simp; done) | (simp; omega))) ?_
       intro v1 w1 hown1 hg1 hat1
       simp only [Nat.zero_add, List.nil_append] at hown1
       have HO1 := Lib.hid hown1
       have P1 := Lib.hid (Blk.grown (g := w.heap.size) (t := 32) (cs := #[.float .f64 r, .slice (some ad) (n + 1) c]) (by repeat (first | (refine Blk.new' ?_; simp; done) | (refine Blk.new' ?_; rfl) | refine Blk.alloc ?_ _ | refine Blk.drewN ?_ _ | refine Blk.drew ?_)) hg1 (by simp [Value.ownBlock] <;> omega))
       have Z1 := Lib.hid (Blk.grown (g := w.heap.size + 1) (t := 32) (cs := #[.float .f64 0, .slice none 0 0]) (by repeat (first | (refine Blk.new' ?_; simp; done) | (refine Blk.new' ?_; rfl) | refine Blk.alloc ?_ _ | refine Blk.drewN ?_ _ | refine Blk.drew ?_)) hg1 (by simp [Value.ownBlock] <;> omega))
       have B1 : Hid (Below w.heap.size w w1) := Lib.hid (Below.grown (by repeat (first | exact Hid.out (by assumption) | exact Below.refl _ _ | refine below_alloc_ ?_ _ | refine below_drewN_ ?_ _ | refine Below.drew ?_ | refine below_set_ ?_ (by first | exact Nat.le_refl _ | (simp; done) | (simp; omega)) _)) hg1 (by (first | omega | (simp; done) | (simp; omega))) (fun k e => by simp [Value.ownBlock] at e; omega))
       have N1 : Hid (v1.ownBlock ≠ some w.heap.size ∧ v1.ownBlock ≠ some (w.heap.size + 1)) := Lib.hid (by rcases hat1 with e | e <;> rw [e] <;> simp [Value.ownBlock] <;> omega)
       have Q1 : Hid (∀ k, v1.ownBlock = some k → w.heap.size ≤ k) := Lib.hid (fun k hk => by have := (hown1.lt k hk).1; omega)
       have L1 := Lib.hid hg1.size
       clear hown1 hg1 hat1)
    | (at_builtin
       refine wpList_append_any _ rfl (.tmp 45) (.tmp 50) 30 rfl (w.heap.size + 1 + 1) 80 i0 _ 5 40 Try.underlying30 hi0 hz0 hz1 hz2 rfl (by omega) v1 (n + 1) (L.flatMap Tk.cells) (by rfl) (HO1.out.alloc _) (w1.heap.size + 1) (some ⟨w1.heap.size, 0, none⟩) 1 1 (Tk.cells ⟨hh, true, t, e, 0⟩) (by rfl) (reads_cells rfl rfl) (one_tk _) (by simp only [maxLen]; omega) (by omega) (by have := L1.out; simp at this ⊢; omega) ?_
       intro v2 w2 hown2 hg2 hat2
       obtain ⟨A', c', rfl, hrd, hblk⟩ := own_shape hown2
       have RD := Lib.hid hrd; have BK := Lib.hid hblk
       have P2 := Lib.hid (Blk.grown (P1.out.alloc _) hg2 (fun h => N1.out.1 h.symm))
       have Z2 := Lib.hid (Blk.grown (Z1.out.alloc _) hg2 (fun h => N1.out.2 h.symm))
       have B2 : Hid (Below w.heap.size w w2) := Lib.hid (Below.grown (below_alloc_ B1.out _) hg2 (by have := B1.out.size; simp; omega) (fun k hk => Q1.out k hk))
       clear hown2 hrd hblk hg2 hat2
       obtain ⟨p0, p1⟩ := P2.out.c2
       obtain ⟨z0, z1⟩ := Z2.out.c2
       have f0 := Z2.out.frozen 0; have f1 := Z2.out.frozen 1; have f2 := P2.out.frozen 1
       have pl := P2.out.lt; have zl := Z2.out.lt))
  have hS : Keeps (fun k => k < w.heap.size + 1 + 1) w2 (((w2.setCell ⟨w.heap.size, 1, none⟩ (.slice A' (n + 1 + 1) c')).setCell ⟨w.heap.size + 1, 0, none⟩ (.float .f64 r)).setCell ⟨w.heap.size + 1, 1, none⟩ (.slice A' (n + 1 + 1) c')) := by
    refine Keeps.set_ ?_ (Or.inl (Nat.lt_succ_self _)) _
    refine Keeps.set_ ?_ (Or.inl (Nat.lt_succ_self _)) _
    exact Keeps.set_ (Keeps.refl _ _) (Or.inl (Nat.lt_succ_of_lt (Nat.lt_succ_self _))) _
  refine bodyPost_ret (v := .tuple #[.agg #[.float .f64 r, .slice A' (n + 1 + 1) c'], .int .i64 0]) (via_blk (g := w.heap.size + 1) (T := 32) (cs := #[.float .f64 r, .slice A' (n + 1 + 1) c']) ?_ (fun W' hB => by obtain ⟨c0, c1⟩ := hB.c2; simp [results, Try.results13, go_sem, c0, c1])) rfl ?_
  · exact blk_upd (blk_upd (Blk.far Z2.out (Nat.succ_ne_self _) _) rfl) rfl
  · refine ⟨A', c', by rw [List.length_append, HN.out]; rfl, ?_, ?_, fun a ha => .inr (by have := BK.out a ha; omega)⟩
    · have h := Reads.kp RD.out hS (fun a ha hlt => by have := BK.out a ha; omega)
      unfold TkAt
      rw [List.length_append, HN.out, List.flatMap_append]
      simpa using h
    · exact below_set_ (below_set_ (below_set_ B2.out (Nat.le_refl _) _) (Nat.le_succ _) _) (Nat.le_succ _) _
set_option maxRecDepth 100000 in
set_option maxHeartbeats 1000000 in
theorem rset_time (r : Nat) (A : Option Addr) (n c : Nat) (L : List Tk) (hh t e : Int) (w : World) (hn : L.length = n) (hr : TkAt w A L) (hb : (inT hh && inT t && inT e) = false) :
    Calls Try.prog 13 #[.agg #[.float .f64 r, .slice A n c], .int .i64 hh, .int .i64 t, .int .i64 e] w (RSet w A r L 61) := by
  obtain ⟨x, hx⟩ : ∃ x, inT hh = x := ⟨_, rfl⟩
  obtain ⟨y, hy⟩ : ∃ y, inT t = y := ⟨_, rfl⟩
  obtain ⟨z, hz⟩ : ∃ z, inT e = z := ⟨_, rfl⟩
  rw [hx, hy, hz] at hb
  have X0 := Lib.hid hx; have X1 := Lib.hid hy; have X2 := Lib.hid hz
  have HR := Lib.hid hr; have HN := Lib.hid hn
  clear hx hy hz hr hn
  rcases (show x = false ∨ (x = true ∧ y = false) ∨ (x = true ∧ y = true ∧ z = false) by revert hb; cases x <;> cases y <;> cases z <;> simp) with rfl | ⟨rfl, rfl⟩ | ⟨rfl, rfl, rfl⟩
  all_goals
    clear hb
    go_enter Try.func13, Try.ntmps13
    go_wp2_with (go_at_call 24; refine (rtime_any _ _).mono ?_; rintro e w1 ⟨rfl, rfl⟩; first | rw [X0.out] | rw [X1.out] | rw [X2.out])
    refine bodyPost_ret (v := .tuple #[.agg #[.float .f64 r, .slice A n c], .int .i64 61]) (via_blk (g := w.heap.size + 1) (T := 32) (cs := #[.float .f64 r, .slice A n c]) (by repeat (first | (refine Blk.new' ?_; simp; done) | (refine Blk.new' ?_; rfl) | refine Blk.alloc ?_ _ | refine Blk.drewN ?_ _ | refine Blk.drew ?_)) (fun W' hB => by obtain ⟨c0, c1⟩ := hB.c2; simp [results, Try.results13, go_sem, c0, c1])) rfl ?_
    have hbw : Below w.heap.size w ((w.alloc (.cells #[.float .f64 r, .slice A n c] 32)).alloc (.cells #[.float .f64 r, .slice A n c] 32)) := below_alloc_ (below_alloc_ (Below.refl _ _) _) _
    exact ⟨A, c, by rw [HN.out], Reads.kp (S := fun _ => False) HR.out (.of_below hbw) (fun _ _ h => h), hbw, fun a ha => .inl ha⟩
end Go.Proofs.Ytdemonageoagiaa
