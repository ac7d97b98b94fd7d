/- The document's book, on which entries were opened. -/
import Derived.Test.YtjhhpcjnhjbpdaaGreatDcM
import Derived.Test.YtjhhpcjnhjbpdaaGreatDcL
import Derived.Deep.RegionWith
import Derived.Deep.DrawnRows
set_option linter.unusedSimpArgs false
set_option linter.unusedVariables false
namespace Go.Proofs.YtjhhpcjnhjbpdaaGreat
open Go.RowKit Mo
attribute [local go_sem] run_store_float
attribute [local go_sem ↓] Go.wp_at_zero Go.wp_at_succ
theorem DcBk.drew {w : World} {A : Option Addr} {D : List Dn} {m : Nat} {f : Int → Option (Int × Int)} (h : DcBk w A D m f) : DcBk w.drew A D m f := ⟨h.rd.dr, h.ok, h.doc, h.len⟩
theorem DcBk.set2 {w : World} {A : Option Addr} {D : List Dn} {m g : Nat} {f : Int → Option (Int × Int)} (h : DcBk w A D m f) (hg : ∀ x, A = some x → x.block ≠ g) (u v : Value) : DcBk ((w.setCell ⟨g, 0, none⟩ u).setCell ⟨g, 1, none⟩ v) A D m f :=
  ⟨h.rd.kp (((Keeps.refl (· = g) w).set_ (p := ⟨g, 0, none⟩) (Or.inl rfl) u).set_ (p := ⟨g, 1, none⟩) (Or.inl rfl) v) (fun x hx e => hg x hx e), h.ok, h.doc, h.len⟩
def BokIs (r n : Nat) (f : Int → Option (Int × Int)) (w : World) (e : Ending) (w' : World) : Prop := ∃ A c D, e = .returned (.agg #[.float .f64 r, .slice A D.length c]) ∧ DcBk w' A D n f ∧ Below w.heap.size w w'
set_option maxRecDepth 100000 in
set_option maxHeartbeats 4000000 in
theorem rbook_any (r : Nat) (A : Option Addr) (c : Nat) (l : List VEntry) (F : Nat → Int → Option (Int × Int)) (w : World) (ha : Reads w w.heap.size 2 A l.length (l.flatMap VEntry.cells)) (hl : l.length ≤ 20) (hF : OpRuns l F) :
    Calls Tryz.prog 21 #[.float .f64 r, .slice A l.length c] w (BokIs r l.length (F l.length) w) := by
  have HA := Lib.hid ha; have HF := Lib.hid hF
  clear ha hF
  have S0 := Lib.hid ((Blk.new w 58 #[.float .f64 0, .slice none 0 0]).alloc (.cells #[.float .f64 r, .slice none 0 0] 58))
  have T0 : Hid (Blk ((w.alloc (.cells #[.float .f64 0, .slice none 0 0] 58)).alloc (.cells #[.float .f64 r, .slice none 0 0] 58)) (w.heap.size + 1) 58 #[.float .f64 r, .slice none 0 0]) := Lib.hid (Blk.new' (by simp))
  go_enter Tryz.func21, Tryz.ntmps21
  go_wp2_with fail
  go_loopw [6] (fun s wr => ∃ (k : Nat) (A' : Option Addr) (c' : Nat) (D : List Dn), k ≤ l.length ∧ s = .int .i64 k ∧ Hid (Blk wr w.heap.size 58 #[.float .f64 0, .slice none 0 0]) ∧ Hid (Blk wr (w.heap.size + 1) 58 #[.float .f64 r, .slice A' D.length c']) ∧ Hid (DcBk wr A' D k (F k)) ∧ Hid (∀ x, A' = some x → x.block ≠ w.heap.size ∧ x.block ≠ w.heap.size + 1) ∧ Hid (Below w.heap.size w wr)) (fun s _ => l.length - (intOf s).toNat)
  case atStart => exact ⟨0, none, 0, [], Nat.zero_le _, rfl, S0, T0, Lib.hid (by rw [HF.out.1]; exact DcBk.nil _ _), Lib.hid (fun x hx => by cases hx), Lib.hid (by repeat (first | exact Below.refl _ _ | refine below_alloc_ ?_ _ | refine Below.drew ?_))⟩
  case round =>
    clear S0 T0
    obtain ⟨k, A1, c1, D, hk, rfl, S, T, B, HX, W⟩ := hrel
    rename World => wo
    obtain ⟨t0, t1⟩ := T.out.c2
    obtain ⟨z0, z1, zl⟩ := small5 T.out
    obtain ⟨s0, s1⟩ := S.out.c2
    obtain ⟨y0, y1, yl⟩ := small5 S.out
    by_cases hlt : k < l.length
    · have hd : decide ((k : Int) < (l.length : Int)) = true := by simp; omega
      have hd' : decide (k < l.length) = true := by simp; omega
      obtain ⟨ad, hA, hadb, hcell⟩ := (HA.out.below W.out).2 (by omega)
      subst hA
      obtain ⟨q0, q1⟩ := ve_at hcell k hlt
      obtain ⟨E, hO⟩ := HF.out.2 k hlt
      have HO := Lib.hid hO
      clear hcell hO
      generalize l[k] = x at *
      obtain ⟨xk, xv⟩ := x
      simp only at q0 q1 HO
      have i0 : (0 : Int) ≤ (k : Int) := by omega
      have i1 : (k : Int) < (l.length : Int) := by omega
      go_wp2_with fail
      go_region_with (go_at_call 43; ((with_reducible refine (ropen_any r A1 c1 D xk xv E k (F k) (F (k + 1)) _ B.out.drew (by omega) HO.out).mono ?_); rintro e w2 ⟨A2, c2, D2, rfl, hB2, hA2, hb2⟩; have T2 := Lib.hid (blk_pass (w1 := wo.drew) T.out.drew (Below.refl _ _) hb2); have S2 := Lib.hid (blk_pass (w1 := wo.drew) S.out.drew (Below.refl _ _) hb2); obtain ⟨t2, t3⟩ := T2.out.c2; obtain ⟨z2, z3, zl2⟩ := small5 T2.out; have B2 := Lib.hid hB2; have F2 := Lib.hid hA2; have W2 := Lib.hid (below_then (below_drew_ W.out) hb2); clear hB2 hb2 hA2))
      all_goals
        have hap : ∀ x, A2 = some x → x.block ≠ w.heap.size ∧ x.block ≠ w.heap.size + 1 := fun x hx => by
          rcases F2.out with ⟨h, _⟩ | h
          · exact HX.out x (by rw [← h]; exact hx)
          · have h := h x hx
            have hz : wo.drew.heap.size = wo.heap.size := rfl
            rw [hz] at h
            omega
        have HAP := Lib.hid hap
        clear hap
        go_wp2_with fail
        go_roundw
        case rel => exact ⟨k + 1, A2, c2, D2, by omega, by go_num, Lib.hid ((S2.out.far (p := ⟨w.heap.size + 1, 0, none⟩) (Nat.ne_of_lt (Nat.lt_succ_self _)) _).far (p := ⟨w.heap.size + 1, 1, none⟩) (Nat.ne_of_lt (Nat.lt_succ_self _)) _), Lib.hid (blk_upd (i := 1) (u := .slice A2 D2.length c2) (blk_upd (i := 0) (u := .float .f64 r) T2.out rfl) rfl), Lib.hid (B2.out.set2 (fun x hx => (HAP.out x hx).2) _ _), HAP, Lib.hid (below_set_ (below_set_ W2.out (p := ⟨w.heap.size + 1, 0, none⟩) (Nat.le_succ _) _) (p := ⟨w.heap.size + 1, 1, none⟩) (Nat.le_succ _) _)⟩
        case measure => simp [intOf]; omega
    · have hd : decide ((k : Int) < (l.length : Int)) = false := by simp; omega
      have hd' : decide (k < l.length) = false := by simp; omega
      obtain rfl : k = l.length := by omega
      go_wp2_with fail
      have S9 := Lib.hid (blk_upd (i := 1) (u := .slice A1 D.length c1) (blk_upd (i := 0) (u := .float .f64 r) S.out rfl) rfl)
      exact bodyPost_ret (v := .agg #[.float .f64 r, .slice A1 D.length c1]) (via_blk (g := w.heap.size) (T := 58) (cs := #[.float .f64 r, .slice A1 D.length c1]) S9.out (fun W' hB => by obtain ⟨c0, c1⟩ := hB.c2; simp [results, Tryz.results21, go_sem, c0, c1])) rfl ⟨A1, c1, D, rfl, B.out.set2 (fun x hx => (HX.out x hx).1) _ _, below_set_ (below_set_ W.out (p := ⟨w.heap.size, 0, none⟩) (Nat.le_refl _) _) (p := ⟨w.heap.size, 1, none⟩) (Nat.le_refl _) _⟩
end Go.Proofs.YtjhhpcjnhjbpdaaGreat
