/- The book: New, Has, Paid, Open. -/
import Derived.Test.YtkfpopilkagedaaLgE
import Derived.Test.YtkfpopilkagedaaWordB
set_option linter.unusedSimpArgs false
set_option linter.unusedVariables false
namespace Go.Proofs.Ytkfpopilkagedaa
open Go.RowKit Mo
/-- block b is a book by a rate, of accounts f -/
structure Bk (w : World) (b r m n : Nat) (f : Int → Option (Int × Int)) : Prop where
  b : Blk w b 63 #[.float .f64 r, .map (some m)]
  m : MapF w m n f
theorem run_mm : ∀ W : World, (Instr.makeMap 59 none).run Try.prog W = .ok (.map (some W.heap.size)) (W.alloc (.map #[] 0)) := fun W => by kernel_rfl
theorem is_any (a : Int) (w : World) : Calls Try.prog 23 #[.int .i64 a] w fun e w' => e = .returned (.bool (decide (0 ≤ a) && decide (a < 4096))) ∧ w = w' := by
  rcases (show a < 0 ∨ (0 ≤ a ∧ a < 4096) ∨ (0 ≤ a ∧ 4096 ≤ a) by omega) with h | ⟨h, h'⟩ | ⟨h, h'⟩
  · have d : decide (0 ≤ a) = false := by simp; omega
    go_enter Try.func23, Try.ntmps23
    go_wp2
    go_ret
    exact ⟨by rw [d]; rfl, rfl⟩
  · have d : decide (0 ≤ a) = true := by simp; omega
    have d1 : decide (a < 4096) = true := by simp; omega
    go_enter Try.func23, Try.ntmps23
    go_wp2
    go_ret
    exact ⟨by rw [d, d1]; rfl, rfl⟩
  · have d : decide (0 ≤ a) = true := by simp; omega
    have d1 : decide (a < 4096) = false := by simp; omega
    go_enter Try.func23, Try.ntmps23
    go_wp2
    go_ret
    exact ⟨by rw [d, d1]; rfl, rfl⟩
theorem new_bad (r : Nat) (w : World) (hr : r < 18446744073709551616) (h : rateOk r = false) : Calls Try.prog 12 #[.float .f64 r] w fun e w' => e = .returned (.tuple #[.pointer none, .int .i64 140]) ∧ w = w' := by
  have HK := Lib.hid h; clear h
  go_enter Try.func12, Try.ntmps12
  go_wp2_with (go_at_call 22; refine (arate_any _ _ hr).mono ?_; rintro e w1 ⟨rfl, rfl⟩; rw [HK.out, show errR false = 43 from rfl])
  go_ret2
  exact ⟨rfl, rfl⟩
theorem new_ok (r : Nat) (w : World) (hr : r < 18446744073709551616) (h : rateOk r = true) : Calls Try.prog 12 #[.float .f64 r] w fun e w' => e = .returned (.tuple #[.pointer (some ⟨w.heap.size + 1, 0, none⟩), .int .i64 0]) ∧ w' = (w.alloc (.map #[] 0)).alloc (.cells #[.float .f64 r, .map (some w.heap.size)] 63) := by
  have HK := Lib.hid h; clear h
  have hmm := run_mm
  go_enter Try.func12, Try.ntmps12
  go_wp2_with (go_at_call 22; refine (arate_any _ _ hr).mono ?_; rintro e w1 ⟨rfl, rfl⟩; rw [HK.out, show errR true = 0 from rfl])
  go_ret2
  exact ⟨rfl, rfl⟩
theorem bk_new (r : Nat) (w : World) : Bk ((w.alloc (.map #[] 0)).alloc (.cells #[.float .f64 r, .map (some w.heap.size)] 63)) (w.heap.size + 1) r w.heap.size 0 (fun _ => none) :=
  ⟨Blk.new' (by simp), (MapF.made w).alloc _⟩
set_option maxHeartbeats 1000000 in
set_option maxRecDepth 100000 in
theorem has_any (b r m n : Nat) (f : Int → Option (Int × Int)) (a : Int) (w : World) (ha : (Lit.int .i64 a).wf = true) (h : Bk w b r m n f) : Calls Try.prog 17 #[.pointer (some ⟨b, 0, none⟩), .int .i64 a] w fun e w' => e = .returned (.tuple #[.int .i64 ((f a).getD (0, 0)).1, .bool (f a).isSome]) ∧ w' = w.alloc (.cells #[.int .i64 ((f a).getD (0, 0)).1, .int .i64 ((f a).getD (0, 0)).2] 61) := by
  obtain ⟨q0, q1⟩ := h.b.c2
  have bl := h.b.lt
  have hl := h.m.look ha
  unfold accV at hl
  generalize (f a).getD (0, 0) = p at *
  obtain ⟨x, y⟩ := p
  simp only at hl ⊢
  generalize (f a).isSome = s at *
  clear h
  go_enter Try.func17, Try.ntmps17
  go_wp2
  go_ret2
  exact ⟨rfl, rfl⟩
set_option maxHeartbeats 1000000 in
set_option maxRecDepth 100000 in
theorem paid_any (b r m n : Nat) (f : Int → Option (Int × Int)) (a : Int) (w : World) (ha : (Lit.int .i64 a).wf = true) (h : Bk w b r m n f) : Calls Try.prog 18 #[.pointer (some ⟨b, 0, none⟩), .int .i64 a] w fun e w' => e = .returned (.int .i64 ((f a).getD (0, 0)).2) ∧ w = w' := by
  obtain ⟨q0, q1⟩ := h.b.c2
  have bl := h.b.lt
  have hl := h.m.look1 ha
  unfold accV at hl
  generalize (f a).getD (0, 0) = p at *
  obtain ⟨x, y⟩ := p
  simp only at hl ⊢
  clear h
  have hf : ∀ W : World, (Instr.field 61 (.agg #[.int .i64 x, .int .i64 y]) 1).run Try.prog W = .ok (.int .i64 y) W := fun W => by kernel_rfl
  go_enter Try.func18, Try.ntmps18
  go_wp2
  go_ret
  exact ⟨rfl, rfl⟩
end Go.Proofs.Ytkfpopilkagedaa
