/- The chapter's example of floats: awake. -/
import Derived.Test.YtmnpmcfhmhkibaaKeyL
set_option linter.unusedSimpArgs false
set_option linter.unusedVariables false
namespace Go.Proofs.Ytmnpmcfhmhkibaa
open Go.RowKit Mo
theorem ntimes_lit (w : World) : Calls Try.prog 23 #[.int .i64 (-7), .float .f64 4602678819172646912] w fun e w' => e = .returned (.tuple #[.int .i64 (-4), .int .i64 0]) ∧ w = w' := by
  have := times_any (-7) 4602678819172646912 w (by decide) (by decide) (by decide)
  have e1 : prodV (-7) 4602678819172646912 false = -4 := by decide +kernel
  have e2 : prodE (-7) 4602678819172646912 false = 0 := by decide +kernel
  rw [e1, e2] at this
  exact this
theorem of_lit (w : World) : Calls Try.prog 20 #[.int .u64 13830554455654793216] w fun e w' => e = .returned (.tuple #[.float .f64 4607182418800017408, .bool true]) ∧ w = w' := by
  have := of_any 13830554455654793216 w (by decide)
  have e1 : ofV 13830554455654793216 = 4607182418800017408 := by decide +kernel
  have e2 : ofOk 13830554455654793216 = true := by decide +kernel
  rw [e1, e2] at this
  exact this
theorem ncls_lit (w : World) : Calls Try.prog 14 #[.float .f64 4607182418800017408] w fun e w' => e = .returned (.int .i64 5) ∧ w = w' := by
  have := class_any 4607182418800017408 w (by decide)
  have e1 : cls 4607182418800017408 = 5 := by decide +kernel
  rw [e1] at this
  exact this
theorem ncmp_lit (w : World) : Calls Try.prog 16 #[.float .f64 4607182418800017408, .float .f64 4611686018427387904] w fun e w' => e = .returned (.int .i64 (-1)) ∧ w = w' := by
  have := cmp_any 4607182418800017408 4611686018427387904 w (by decide) (by decide)
  have e1 : cmpN 4607182418800017408 4611686018427387904 = -1 := by decide +kernel
  rw [e1] at this
  exact this
theorem nkey_lit (w : World) : Calls Try.prog 18 #[.float .f64 4607182418800017408] w fun e w' => e = .returned (.int .u64 13830554455654793216) ∧ w = w' := by
  have := key_any 4607182418800017408 w (by decide)
  have e1 : ((keyN 4607182418800017408 : Nat) : Int) = 13830554455654793216 := by decide +kernel
  rw [e1] at this
  exact this
theorem nleast_lit (w : World) (t : TypeId) (b : Nat) (hb : w.heap.size = b) : Calls Try.prog 25 #[.slice (some ⟨b, 0, none⟩) 3 3] (w.alloc (.cells #[.float .f64 4611686018427387904, .float .f64 4607182418800017408, .float .f64 4613937818241073152] t)) fun e w' => e = .returned (.tuple #[.float .f64 4607182418800017408, .bool true]) ∧ (w.alloc (.cells #[.float .f64 4611686018427387904, .float .f64 4607182418800017408, .float .f64 4613937818241073152] t)) = w' := by
  subst hb
  have hr : Reads (w.alloc (.cells #[.float .f64 4611686018427387904, .float .f64 4607182418800017408, .float .f64 4613937818241073152] t)) (w.alloc (.cells #[.float .f64 4611686018427387904, .float .f64 4607182418800017408, .float .f64 4613937818241073152] t)).heap.size 1 (some ⟨w.heap.size, 0, none⟩) ([4611686018427387904, 4607182418800017408, 4613937818241073152] : List Nat).length (([4611686018427387904, 4607182418800017408, 4613937818241073152] : List Nat).map (Value.float .f64)) :=
    ⟨rfl, fun _ => ⟨_, rfl, by simp, fun j u hu => by
      rw [Addr.add_lit, World.cell?_alloc_new]
      match j, hu with
      | 0, hu => simpa using hu
      | 1, hu => simpa using hu
      | 2, hu => simpa using hu
      | j + 3, hu => simp at hu⟩⟩
  have := least_any _ _ 3 [4611686018427387904, 4607182418800017408, 4613937818241073152] hr (by decide) (by decide) (by intro u hu; simp at hu; omega)
  have e1 : leastV [4611686018427387904, 4607182418800017408, 4613937818241073152] = 4607182418800017408 := by decide +kernel
  rw [e1] at this
  exact this
set_option maxHeartbeats 1000000 in
theorem awake01_any (w : World) : Calls Try.prog 13 #[] w fun e w' => e = .returned (.bool true) ∧ Below w.heap.size w w' := by
  have e1 : (FloatKind.f64.format.order 4607182418800017408 4607182418800017408 == some Ordering.eq) = true := by decide +kernel
  go_enter Try.func13, Try.ntmps13
  go_wp2_with (first
    | (go_at_call 23; refine (ntimes_lit _).mono ?_; rintro e w1 ⟨rfl, rfl⟩)
    | (go_at_call 29; refine (floor_lit _).mono ?_; rintro e w1 ⟨rfl, rfl⟩)
    | (go_at_call 20; refine (of_lit _).mono ?_; rintro e w1 ⟨rfl, rfl⟩)
    | (go_at_call 25; refine (nleast_lit _ _ _ (by simp)).mono ?_; rintro e w1 ⟨rfl, rfl⟩)
    | (go_at_call 14; refine (ncls_lit _).mono ?_; rintro e w1 ⟨rfl, rfl⟩)
    | (go_at_call 16; refine (ncmp_lit _).mono ?_; rintro e w1 ⟨rfl, rfl⟩)
    | (go_at_call 18; refine (nkey_lit _).mono ?_; rintro e w1 ⟨rfl, rfl⟩))
  go_ret
  exact ⟨rfl, by repeat (first | exact Below.refl _ _ | refine below_alloc_ ?_ _ | refine Below.drew ?_)⟩
end Go.Proofs.Ytmnpmcfhmhkibaa
