/- The chapter's example of a ledger. -/
import Derived.Test.YtkfpopilkagedaaLgY
set_option linter.unusedSimpArgs false
set_option linter.unusedVariables false
namespace Go.Proofs.Ytkfpopilkagedaa
open Go.RowKit Mo
def exN : Int → Option (Int × Int) := fun _ => none
def exA : Int → Option (Int × Int) := fput exN 1 (1000, 0)
def exB : Int → Option (Int × Int) := fput exA 2 (0, 0)
def exC : Int → Option (Int × Int) := fput (fput exB 1 (1000 - 200 - 2, 0 + 2)) 2 (0 + 200, 0)
def exR : Nat := 4576918229304087675
theorem ex_r : rateOk exR = true := by decide +kernel
theorem ex_fee : prodV 200 exR false = 2 := by decide +kernel
theorem ex_o1 : OpIs exN 1 1000 0 exA := .inr (.inr (.inr ⟨by decide, rfl, by decide, rfl, rfl⟩))
theorem ex_o2 : OpIs exA 2 0 0 exB := .inr (.inr (.inr ⟨by decide, by decide, by decide, rfl, rfl⟩))
theorem ex_m1 : MvIs exB 2 1 2 200 2 0 exC := .inr (.inr (.inr (.inr (.inr (.inr (.inr ⟨(1000, 0), (0, 0), ⟨by decide, by decide, by decide, by decide, by decide⟩, by decide, by decide, by decide, by decide, rfl, rfl, rfl⟩))))))
theorem ex_m2 : MvIs exC 2 2 1 200 0 146 exC := .inr (.inr (.inr (.inr (.inl ⟨(200, 0), ⟨by decide, by decide, by decide, by decide, by decide⟩, by decide, by decide, rfl, rfl, rfl⟩))))
theorem ex_okA : FOk exA 1 := (FOk.nil 1).opened (by decide) ex_o1
theorem ex_okB : FOk exB 1 := ex_okA.opened (by decide) ex_o2
theorem ex_okC : FOk exC 2 := ex_okB.moved (q := 1) (by decide) (fee := 2) (by decide) (by decide) ex_m1
theorem ex_has : (exC 1).getD (0, 0) = (798, 2) ∧ (exC 1).isSome = true := by decide
theorem ex_ents : ents exC = [(1, 798), (2, 200), (4097, 2)] := by decide +kernel
theorem ex_new (w : World) : Calls Try.prog 12 #[.float .f64 4576918229304087675] w fun e w' => e = .returned (.tuple #[.pointer (some ⟨w.heap.size + 1, 0, none⟩), .int .i64 0]) ∧ Bk w' (w.heap.size + 1) exR w.heap.size 0 exN ∧ Below w.heap.size w w' := by
  refine (new_ok exR w (by decide) ex_r).mono ?_
  rintro e w' ⟨rfl, rfl⟩
  exact ⟨rfl, bk_new _ _, by repeat (first | exact Below.refl _ _ | refine below_alloc_ ?_ _ | refine Below.drew ?_)⟩
theorem ex_list (b m n : Nat) (w : World) (h : Bk w b exR m n exC) (hn : n ≤ 1000000) : Calls Try.prog 10 #[.pointer (some ⟨b, 0, none⟩)] w fun e w' => ∃ ad c, e = .returned (.slice (some ad) 3 c) ∧ w'.cell? ⟨ad.block, ad.off + 4, none⟩ = some (.int .i64 4097) ∧ w'.cell? ⟨ad.block, ad.off + 4 + 1, none⟩ = some (.int .i64 2) ∧ w'.cell? ⟨ad.block, ad.off + 5, none⟩ = some (.int .i64 2) ∧ Below w.heap.size w w' := by
  refine (list_any b exR m n exC w h hn ex_okC.sup).mono ?_
  rintro e w' ⟨A, c, rfl, hr, _, hb⟩
  rw [ex_ents] at hr ⊢
  obtain ⟨ad, rfl, _, hc⟩ := hr.2 (by decide)
  have h4 := hc 4 (.int .i64 4097) rfl
  have h5 := hc 5 (.int .i64 2) rfl
  unfold Addr.add at h4 h5
  exact ⟨ad, c, rfl, h4, h5, h5, hb⟩
set_option maxRecDepth 100000 in
set_option maxHeartbeats 4000000 in
theorem awake14_any (w : World) : Calls Try.prog 9 #[] w fun e w' => e = .returned (.bool true) ∧ Below w.heap.size w w' := by
  go_enter Try.func9, Try.ntmps9
  go_wp2_with (first
    | (go_at_call 12
       with_reducible refine (ex_new _).mono ?_
       rintro e w1 ⟨rfl, hb, hw⟩
       have B1 := Lib.hid hb; have W1 := Lib.hid hw
       clear hb hw)
    | (go_at_call 13
       with_reducible refine (open_any _ exR _ 0 exN 1 1000 0 exA _ (by decide) (by decide) (by decide) B1.out ex_o1).mono ?_
       rintro e w2 ⟨rfl, hb, hk⟩
       have B2 := Lib.hid hb; have W2 := Lib.hid (below_kp W1.out hk (Nat.le_refl _))
       clear hb hk)
    | (go_at_call 13
       with_reducible refine (open_any _ exR _ (0 + 1) exA 2 0 0 exB _ (by decide) (by decide) (by decide) B2.out ex_o2).mono ?_
       rintro e w3 ⟨rfl, hb, hk⟩
       have B3 := Lib.hid hb; have W3 := Lib.hid (below_kp W2.out hk (Nat.le_refl _))
       clear hb hk)
    | (go_at_call 14
       with_reducible refine (move_any _ exR _ _ exB 1 2 200 2 2 0 1 exC _ B3.out ex_okB (by decide) (by decide) (by decide) ex_r (by decide) ex_fee (by decide) ex_m1).mono ?_
       rintro e w4 ⟨rfl, hb, hk⟩
       have B4 := Lib.hid hb; have W4 := Lib.hid (below_kp W3.out hk (Nat.le_refl _))
       clear hb hk)
    | (go_at_call 14
       with_reducible refine (move_any _ exR _ _ exC 2 1 200 2 0 146 2 exC _ B4.out ex_okC (by decide) (by decide) (by decide) ex_r (by decide) ex_fee (by decide) ex_m2).mono ?_
       rintro e w5 ⟨rfl, hb, hk⟩
       have B5 := Lib.hid hb; have W5 := Lib.hid (below_kp W4.out hk (Nat.le_refl _))
       clear hb hk)
    | (go_at_call 17
       with_reducible refine (has_any _ exR _ _ exC 1 _ (by decide) B5.out).mono ?_
       rintro e w6 ⟨rfl, hw⟩
       rw [ex_has.1, ex_has.2] at *
       have B6 := Lib.hid (show Bk w6 _ exR _ _ exC by subst hw; exact ⟨B5.out.b.alloc _, B5.out.m.alloc _⟩)
       have W6 := Lib.hid (show Below w.heap.size w w6 by subst hw; exact below_alloc_ W5.out _)
       clear hw)
    | (go_at_call 10
       with_reducible refine (ex_list _ _ _ _ B6.out (by decide)).mono ?_
       rintro e w7 ⟨ad, c, rfl, c0, c1, c2, hb⟩
       have B7 := Lib.hid (B6.out.keeps (Keeps.of_below (S := fun _ => False) hb) id id)
       have W7 := Lib.hid (below_then W6.out hb)
       clear hb)
    | (go_at_call 18
       with_reducible refine (paid_any _ exR _ _ exC 1 _ (by decide) B7.out).mono ?_
       rintro e w8 ⟨rfl, rfl⟩
       rw [ex_has.1]))
  go_ret
  exact ⟨rfl, W7.out⟩
end Go.Proofs.Ytkfpopilkagedaa
