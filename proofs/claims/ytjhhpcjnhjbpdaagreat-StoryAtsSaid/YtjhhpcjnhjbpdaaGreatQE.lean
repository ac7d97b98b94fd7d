/- Joined: SoS, SoT, SoU, SoW. -/
import Derived.Test.YtjhhpcjnhjbpdaaGreatQD
import Derived.Test.YtjhhpcjnhjbpdaaGreatQC
import Derived.Deep.RegionHeld3
import Derived.Deep.RegionWith
/- The story's book; whether two transfers share an account. -/
set_option linter.unusedSimpArgs false
set_option linter.unusedVariables false
namespace Go.Proofs.YtjhhpcjnhjbpdaaGreat
open Go.RowKit Mo
/-- accounts behind entries that were opened one by one -/
def OpRuns (l : List VEntry) (F : Nat → Int → Option (Int × Int)) : Prop := F 0 = (fun _ => none) ∧ ∀ k (h : k < l.length), ∃ E, OpIs (F k) l[k].key l[k].v E (F (k + 1))
theorem opRuns_of (l : List VEntry) : ∃ F, OpRuns l F := by
  have h : ∀ (l : List VEntry) (f : Int → Option (Int × Int)), ∃ F : Nat → Int → Option (Int × Int), F 0 = f ∧ ∀ k (h : k < l.length), ∃ E, OpIs (F k) l[k].key l[k].v E (F (k + 1)) := by
    intro l
    induction l with
    | nil => exact fun f => ⟨fun _ => f, rfl, fun k h => absurd h (Nat.not_lt_zero _)⟩
    | cons x l ih =>
      intro f
      obtain ⟨E, f1, h1⟩ := op_of f x.key x.v
      obtain ⟨F, h0, hF⟩ := ih f1
      refine ⟨fun k => match k with | 0 => f | k + 1 => F k, rfl, fun k h => ?_⟩
      cases k with
      | zero => exact ⟨E, by show OpIs f _ _ E (F 0); rw [h0]; exact h1⟩
      | succ k => exact hF k (by simpa using h)
  exact h l _
theorem OpRuns.ok {l : List VEntry} {F : Nat → Int → Option (Int × Int)} (h : OpRuns l F) : ∀ k, k ≤ l.length → FOk (F k) 0 := by
  intro k
  induction k with
  | zero => intro _; rw [h.1]; exact FOk.nil 0
  | succ k ih =>
    intro hk
    obtain ⟨E, hO⟩ := h.2 k (by omega)
    exact (ih (by omega)).opened (Int.le_refl _) hO
theorem book_bad (r : Nat) (A : Option Addr) (n c : Nat) (w : World) (hr : r < 18446744073709551616) (h : rateOk r = false) : Calls Tryz.prog 13 #[.float .f64 r, .slice A n c] w fun e w' => e = .returned (.tuple #[.pointer none, .int .i64 140]) ∧ w = w' := by
  have HK := Lib.hid h; clear h
  go_enter Tryz.func13, Tryz.ntmps13
  go_wp2_with (go_at_call 31; with_reducible refine (new_bad r _ hr HK.out).mono ?_; rintro e w1 ⟨rfl, rfl⟩)
  go_ret2
  exact ⟨rfl, rfl⟩
/-- a book was made -/
def BookIs (r n : Nat) (f : Int → Option (Int × Int)) (w : World) (e : Ending) (w' : World) : Prop := ∃ b m, e = .returned (.tuple #[.pointer (some ⟨b, 0, none⟩), .int .i64 0]) ∧ w.heap.size ≤ b ∧ w.heap.size ≤ m ∧ Bk w' b r m n f ∧ Below w.heap.size w w'
set_option maxRecDepth 100000 in
set_option maxHeartbeats 2000000 in
theorem book_any (r : Nat) (A : Option Addr) (c : Nat) (l : List VEntry) (F : Nat → Int → Option (Int × Int)) (w : World) (ha : Reads w w.heap.size 2 A l.length (l.flatMap VEntry.cells)) (hx : ∀ u ∈ l, VEntry.ok w u) (hl : l.length ≤ 100000) (hr : r < 18446744073709551616) (h : rateOk r = true) (hF : OpRuns l F) :
    Calls Tryz.prog 13 #[.float .f64 r, .slice A l.length c] w (BookIs r l.length (F l.length) w) := by
  have HK := Lib.hid h
  have HA := Lib.hid ha; have HX := Lib.hid hx; have HF := Lib.hid hF; have F0 := Lib.hid hF.1
  clear h ha hx hF
  go_enter Tryz.func13, Tryz.ntmps13
  go_wp2_with (go_at_call 31; with_reducible refine (new_ok r _ hr HK.out).mono ?_; rintro e w1 ⟨rfl, rfl⟩)
  go_loopw [20] (fun si wr => ∃ k : Nat, k ≤ l.length ∧ si = .int .i64 k ∧ Hid (Bk wr (w.heap.size + 1) r w.heap.size k (F k)) ∧ Hid (Below w.heap.size w wr)) (fun si _ => l.length - (intOf si).toNat)
  case atStart => exact ⟨0, Nat.zero_le _, rfl, Lib.hid (by rw [F0.out]; exact bk_new r w), Lib.hid (by repeat (first | exact Below.refl _ _ | refine below_alloc_ ?_ _ | refine Below.drew ?_))⟩
  case round =>
    obtain ⟨k, hk, rfl, HB, HW⟩ := hrel
    by_cases hlt : k < l.length
    · have hd : decide ((k : Int) < (l.length : Int)) = true := by simp; omega
      obtain ⟨ad, hA, hadb, hcell⟩ := (HA.out.below HW.out).2 (by omega)
      subst hA
      obtain ⟨q0, q1⟩ := ve_at hcell k hlt
      obtain ⟨E, hO⟩ := HF.out.2 k hlt
      have HO := Lib.hid hO
      obtain ⟨v0, v1⟩ := HX.out l[k] (List.getElem_mem hlt)
      clear hcell hO
      generalize l[k] = x at *
      obtain ⟨xk, xv⟩ := x
      simp only at q0 q1 v0 v1 HO
      obtain ⟨fk1, hfk1⟩ : ∃ g, F (k + 1) = g := ⟨_, rfl⟩
      obtain ⟨fk, hfk⟩ : ∃ g, F k = g := ⟨_, rfl⟩
      rw [hfk1] at HO
      rw [hfk] at HO HB
      have HFK1 := Lib.hid hfk1
      have B0 := Lib.hid (show Bk (wr.alloc (.cells #[.int .i64 xk, .int .i64 xv] 42)) (w.heap.size + 1) r w.heap.size k fk from ⟨HB.out.b.alloc _, HB.out.m.alloc _⟩)
      have W0 := Lib.hid (below_alloc_ HW.out (.cells #[.int .i64 xk, .int .i64 xv] 42))
      clear hfk1 hfk
      go_wp2_with ((go_at_call 32; (with_reducible refine (open_any (w.heap.size + 1) r w.heap.size k fk xk xv E fk1 _ v0 v1 (by simp only [maxLen]; omega) B0.out HO.out).mono ?_); rintro e w2 ⟨rfl, hb2, hk2⟩; have HB2 := Lib.hid hb2; have HW2 := Lib.hid (below_kp W0.out hk2 (Nat.le_refl _)); clear hb2 hk2))
      go_roundw
      case rel => exact ⟨k + 1, by omega, by go_num, Lib.hid (by rw [HFK1.out]; exact HB2.out), HW2⟩
      case measure => simp [intOf]; omega
    · have hd : decide ((k : Int) < (l.length : Int)) = false := by simp; omega
      obtain rfl : k = l.length := by omega
      go_wp2_with fail
      go_ret2
      exact ⟨w.heap.size + 1, w.heap.size, rfl, Nat.le_succ _, Nat.le_refl _, HB.out, HW.out⟩
/-- two transfers share an account -/
def shr (x y : VCall20) : Bool := (x.x_xf == y.x_xf || (x.x_xf == y.x_xt || (x.x_xt == y.x_xf || x.x_xt == y.x_xt)))
end Go.Proofs.YtjhhpcjnhjbpdaaGreat

/- Whether two transfers share an account: walked. -/
set_option linter.unusedSimpArgs false
set_option linter.unusedVariables false
namespace Go.Proofs.YtjhhpcjnhjbpdaaGreat
open Go.RowKit Mo
def shr4 (a1 a2 b1 b2 : Int) : Bool := (a1 == b1 || (a1 == b2 || (a2 == b1 || a2 == b2)))
set_option maxRecDepth 100000 in
theorem shares_any (a0 a1 a2 a3 b0 b1 b2 b3 : Int) (w : World) : Calls Tryz.prog 16 #[.agg #[.int .i64 a0, .int .i64 a1, .int .i64 a2, .int .i64 a3], .agg #[.int .i64 b0, .int .i64 b1, .int .i64 b2, .int .i64 b3]] w fun e w' => e = .returned (.bool (shr4 a1 a2 b1 b2)) ∧ Below w.heap.size w w' := by
  unfold shr4
  cases h1 : (a1 == b1)
  · cases h2 : (a1 == b2)
    · cases h3 : (a2 == b1)
      · cases h4 : (a2 == b2)
        · go_enter Tryz.func16, Tryz.ntmps16
          go_wp2_with fail
          go_ret
          exact ⟨rfl, by repeat (first | exact Below.refl _ _ | refine below_alloc_ ?_ _ | refine Below.drew ?_)⟩
        · go_enter Tryz.func16, Tryz.ntmps16
          go_wp2_with fail
          go_ret
          exact ⟨rfl, by repeat (first | exact Below.refl _ _ | refine below_alloc_ ?_ _ | refine Below.drew ?_)⟩
      · go_enter Tryz.func16, Tryz.ntmps16
        go_wp2_with fail
        go_ret
        exact ⟨rfl, by repeat (first | exact Below.refl _ _ | refine below_alloc_ ?_ _ | refine Below.drew ?_)⟩
    · go_enter Tryz.func16, Tryz.ntmps16
      go_wp2_with fail
      go_ret
      exact ⟨rfl, by repeat (first | exact Below.refl _ _ | refine below_alloc_ ?_ _ | refine Below.drew ?_)⟩
  · go_enter Tryz.func16, Tryz.ntmps16
    go_wp2_with fail
    go_ret
    exact ⟨rfl, by repeat (first | exact Below.refl _ _ | refine below_alloc_ ?_ _ | refine Below.drew ?_)⟩
end Go.Proofs.YtjhhpcjnhjbpdaaGreat

/- What Check says, in plain Lean. -/
set_option linter.unusedSimpArgs false
set_option linter.unusedVariables false
namespace Go.Proofs.YtjhhpcjnhjbpdaaGreat
open Go.RowKit Mo
/-- the call at a place -/
def cAt (l : List VCall20) (e : Int) : VCall20 := (l[e.toNat]?).getD ⟨0, 0, 0, 0, 0, 0, 0, 0⟩
theorem cAt_at {l : List VCall20} {i : Nat} (h : i < l.length) : cAt l (i : Int) = l[i] := by
  unfold cAt
  rw [Int.toNat_natCast, List.getElem?_eq_getElem h]
  rfl
/-- accounts, and errors, along an order -/
def MvRuns (l : List VCall20) (r : Nat) (R : List Int) (G : Nat → Int → Option (Int × Int)) (EE : Nat → Int) : Prop :=
  ∀ k (h : k < R.length), ∃ V, MvIs (G k) (prodV (cAt l R[k]).x_xn r false) (cAt l R[k]).x_xf (cAt l R[k]).x_xt (cAt l R[k]).x_xn V (EE k) (G (k + 1))
theorem mvRuns_of (l : List VCall20) (r : Nat) (R : List Int) : ∀ f, ∃ G EE, G 0 = f ∧ MvRuns l r R G EE := by
  induction R with
  | nil => exact fun f => ⟨fun _ => f, fun _ => 0, rfl, fun k h => absurd h (Nat.not_lt_zero _)⟩
  | cons e R ih =>
    intro f
    obtain ⟨V, E, f1, h1⟩ := mv_of f (prodV (cAt l e).x_xn r false) (cAt l e).x_xf (cAt l e).x_xt (cAt l e).x_xn
    obtain ⟨G, EE, h0, hG⟩ := ih f1
    refine ⟨fun k => match k with | 0 => f | k + 1 => G k, fun k => match k with | 0 => E | k + 1 => EE k, rfl, fun k h => ?_⟩
    cases k with
    | zero => exact ⟨V, by show MvIs f _ _ _ _ V E (G 0); rw [h0]; exact h1⟩
    | succ k => exact hG k (by simpa using h)
theorem MvRuns.ok {l : List VCall20} {r : Nat} {R : List Int} {G : Nat → Int → Option (Int × Int)} {EE : Nat → Int} (h : MvRuns l r R G EE) (hr : rateOk r = true) {q : Int} (hq : 0 ≤ q) (hf : FOk (G 0) q) : ∀ k, k ≤ R.length → FOk (G k) (q + k) := by
  intro k
  induction k with
  | zero => intro _; exact hf.mono (by omega)
  | succ k ih =>
    intro hk
    obtain ⟨V, hO⟩ := h k (by omega)
    exact (hO.fee_ok hr (ih (by omega)) (by omega)).mono (by omega)
/-- number k of an order has the stamp, and an account, of one ahead of it -/
def tie (l : List VCall20) (R : List Int) (k : Nat) : Bool := (R.take k).any (fun e => tOf l e == tOf l (R.getD k 0) && shr (cAt l e) (cAt l (R.getD k 0)))
/-- what Check says of an order -/
def ChkIs (l : List VCall20) (R : List Int) (EE : Nat → Int) (V E : Int) : Prop :=
  (∃ k, k < R.length ∧ (∀ j, j < k → tie l R j = false ∧ EE j = 0) ∧ V = R.getD k 0 ∧ ((tie l R k = true ∧ E = 215) ∨ (tie l R k = false ∧ EE k ≠ 0 ∧ E = 216))) ∨
  ((∀ j, j < R.length → tie l R j = false ∧ EE j = 0) ∧ V = (R.length : Int) ∧ E = 0)
end Go.Proofs.YtjhhpcjnhjbpdaaGreat

/- The story: Check. -/
set_option linter.unusedSimpArgs false
set_option linter.unusedVariables false
namespace Go.Proofs.YtjhhpcjnhjbpdaaGreat
open Go.RowKit Mo
/-- what Check says of a story -/
def ChkSpec (r : Nat) (ops : List VEntry) (l : List VCall20) (R : List Int) (EE : Nat → Int) (V E : Int) : Prop :=
  (rateOk r = false ∧ V = 0 ∧ E = 210) ∨ (rateOk r = true ∧ 0 ≤ V ∧ OpdIs ops V ∧ E = 211) ∨ (rateOk r = true ∧ OpdIs ops (-1) ∧ ClsIs l V E ∧ E ≠ 0) ∨ (rateOk r = true ∧ OpdIs ops (-1) ∧ ClsIs l 0 0 ∧ ChkIs l R EE V E)
def ChkPost (r : Nat) (ops : List VEntry) (l : List VCall20) (R : List Int) (EE : Nat → Int) (w : World) (e : Ending) (w' : World) : Prop := ∃ V E, e = .returned (.tuple #[.int .i64 V, .int .i64 E]) ∧ ChkSpec r ops l R EE V E ∧ Below w.heap.size w w'
theorem book_nil (r : Nat) (w : World) (hr : r < 18446744073709551616) (h : rateOk r = true) : Calls Tryz.prog 13 #[.float .f64 r, .slice none 0 0] w (BookIs r 0 (fun _ => none) w) :=
  book_any r none 0 [] (fun _ _ => none) w ⟨rfl, fun h => absurd h (Nat.lt_irrefl 0)⟩ (fun u hu => by cases hu) (by decide) hr h ⟨rfl, fun k h => absurd h (Nat.not_lt_zero _)⟩
theorem opd_cases {ops : List VEntry} {V : Int} (h : OpdIs ops V) : 0 ≤ V ∨ V = -1 := by
  rcases h with ⟨i, _, h, _⟩ | ⟨h, _⟩
  · exact .inl (by omega)
  · exact .inr h
set_option maxRecDepth 100000 in
set_option maxHeartbeats 2000000 in
theorem check_bad (r : Nat) (A B : Option Addr) (n c m d : Nat) (w : World) (hb : r < 18446744073709551616) (h : rateOk r = false) :
    Calls Tryz.prog 7 #[.float .f64 r, .slice A n c, .slice B m d] w fun e w' => e = .returned (.tuple #[.int .i64 0, .int .i64 210]) ∧ w = w' := by
  have HK := Lib.hid h; clear h
  go_enter Tryz.func7, Tryz.ntmps7
  go_wp2_with (go_at_call 13; (with_reducible refine (book_bad r none 0 0 _ hb HK.out).mono ?_); rintro e w1 ⟨rfl, rfl⟩)
  go_ret2
  exact ⟨rfl, rfl⟩
end Go.Proofs.YtjhhpcjnhjbpdaaGreat
