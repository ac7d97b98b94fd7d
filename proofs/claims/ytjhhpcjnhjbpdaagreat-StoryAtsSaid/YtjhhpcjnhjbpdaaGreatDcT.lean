/- The document's At. -/
import Derived.Test.YtjhhpcjnhjbpdaaGreatDcC
set_option linter.unusedSimpArgs false
set_option linter.unusedVariables false
namespace Go.Proofs.YtjhhpcjnhjbpdaaGreat
open Go.RowKit Mo
attribute [local go_sem] run_store_float
def RAtPost (r : Nat) (ops : List VEntry) (l : List VCall20) (R : List Int) (EE : Nat → Int) (G : Nat → Int → Option (Int × Int)) (t : Int) (k0 : Nat) (w : World) (e : Ending) (w' : World) : Prop := ∃ A c L E, e = .returned (.tuple #[.slice A L.length c, .int .i64 E]) ∧ Reads w' w'.heap.size 2 A L.length (L.flatMap eC) ∧ AtSpec r ops l R EE G t k0 L E ∧ Below w.heap.size w w'
set_option maxRecDepth 100000 in
set_option maxHeartbeats 8000000 in
theorem rat_any (r : Nat) (A B : Option Addr) (c d : Nat) (ops : List VEntry) (l : List VCall20) (F : Nat → Int → Option (Int × Int)) (R : List Int) (G : Nat → Int → Option (Int × Int)) (EE : Nat → Int) (t : Int) (k0 : Nat) (w : World) (hb : r < 18446744073709551616)
    (ha : Reads w w.heap.size 2 A ops.length (ops.flatMap VEntry.cells)) (hl : ops.length ≤ 20) (hb2 : Reads w w.heap.size 8 B l.length (l.flatMap VCall20.cells)) (hx2 : ∀ u ∈ l, VCall20.ok w u) (hl2 : l.length ≤ 40) (hF : OpRuns ops F) (hR : OrdL l R) (hG0 : G 0 = F ops.length) (hG : MvRuns l r R G EE) (hk0 : UpTo l R t k0) :
    Calls Tryz.prog 11 #[.float .f64 r, .slice A ops.length c, .slice B l.length d, .int .i64 t] w (RAtPost r ops l R EE G t k0 w) := by
  have HA := Lib.hid ha; have HB := Lib.hid hb2; have HX2 := Lib.hid hx2; have HF := Lib.hid hF; have HR := Lib.hid hR; have HG0 := Lib.hid hG0; have HG := Lib.hid hG; have K0 := Lib.hid hk0
  clear ha hb2 hx2 hF hR hG0 hG hk0
  go_enter Tryz.func11, Tryz.ntmps11
  go_wp2_with fail
  refine (rcheck_any r A B c d ops l F R G EE _ hb HA.out hl HB.out HX2.out hl2 HF.out HR.out HG0.out HG.out).mono ?_
  rintro e w0 ⟨V, E, rfl, hs, hw0⟩
  have W0 := Lib.hid hw0
  by_cases he : E = 0
  · subst he
    have CS := Lib.hid hs
    have HK := Lib.hid (chk_rate hs)
    clear hs hw0
    cases ht : inT t
    · have T0 := Lib.hid ht
      clear ht
      go_wp2_with (go_at_call 26; (with_reducible refine (rtime_v (n := t) _ T0.out).mono ?_); rintro e w2 ⟨rfl, rfl⟩)
      go_ret2
      exact ⟨none, 0, [], _, rfl, ⟨rfl, fun h => absurd h (Nat.lt_irrefl 0)⟩, .inr ⟨V, CS.out, .inl ⟨T0.out, rfl, rfl⟩⟩, W0.out⟩
    · have T1 := Lib.hid ht
      clear ht
      go_wp2_with (go_at_call 26; (with_reducible refine (rtime_v (n := t) _ T1.out).mono ?_); rintro e w2 ⟨rfl, rfl⟩)
      refine (rbook_any r A c ops F _ ((HA.out.below W0.out).more W0.out.size) hl HF.out).mono ?_
      rintro e w1 ⟨Ab, cb, D, rfl, hB1, hb1⟩
      have W1 := Lib.hid (below_then W0.out hb1)
      have B1 := Lib.hid (hB1.pass (by repeat (first | exact Below.refl _ _ | refine below_alloc_ ?_ _ | refine Below.drew ?_) : Below w1.heap.size w1 (w1.alloc (.cells #[.float .f64 r, .slice Ab D.length cb] 58))))
      have T1' := Lib.hid (Blk.new w1 58 #[.float .f64 r, .slice Ab D.length cb])
      have X1 := Lib.hid (show ∀ x, Ab = some x → 0 < D.length → x.block ≠ w1.heap.size from fun x hx h0 => by
        obtain ⟨y, hy, hyb, _⟩ := hB1.rd.2 h0
        rw [hx] at hy; cases hy; omega)
      have V1 := Lib.hid (below_alloc_ W1.out (.cells #[.float .f64 r, .slice Ab D.length cb] 58))
      have hw1 : w.heap.size ≤ w1.heap.size := W1.out.size
      clear hB1 hb1
      go_wp2_with fail
      refine (rorder_any B d l R _ ((HB.out.below V1.out).more V1.out.size) (by omega) HR.out).mono ?_
      rintro e w2 ⟨O, co, rfl, hro, hfo, hb2⟩
      have W2 := Lib.hid (below_then V1.out hb2)
      have B2 := Lib.hid (B1.out.pass hb2)
      have T2 := Lib.hid (blk_pass T1'.out (Below.refl _ _) hb2)
      have O2 := Lib.hid hro
      have OF := Lib.hid (show ∀ a, O = some a → a.block ≠ w1.heap.size from fun a ha => by have := hfo a ha; simp at this; omega)
      clear hro hfo hb2 V1 B1 T1' W1
      have hRl := HR.out.len
      go_wp2_with fail
      go_loopw [14] (fun s wr => ∃ (k : Nat) (A1 : Option Addr) (c1 : Nat) (D1 : List Dn), k ≤ R.length ∧ s = .int .i64 k ∧ Hid (Blk wr w1.heap.size 58 #[.float .f64 r, .slice A1 D1.length c1]) ∧ Hid (DcBk wr A1 D1 (ops.length + k) (G (min k k0))) ∧ Hid (∀ x, A1 = some x → 0 < D1.length → x.block ≠ w1.heap.size) ∧ Hid (Reads wr wr.heap.size 1 O R.length (R.map (Value.int .i64))) ∧ Hid (Below w.heap.size w wr)) (fun s _ => R.length - (intOf s).toNat)
      case atStart => exact ⟨0, Ab, cb, D, Nat.zero_le _, rfl, T2, Lib.hid (by rw [Nat.zero_min, HG0.out]; exact B2.out), X1, O2, W2⟩
      case round =>
        clear T2 B2 X1 O2 W2
        obtain ⟨k, A1, c1, D1, hk, rfl, T, BB, HX, RO, W⟩ := hrel
        rename World => wo
        obtain ⟨t0, t1⟩ := T.out.c2
        obtain ⟨z0, z1, zl⟩ := small5 T.out
        by_cases hlt : k < R.length
        · have hd : decide ((k : Int) < (R.length : Int)) = true := by simp; omega
          have hd' : decide (k < R.length) = true := by simp; omega
          obtain ⟨ao, hO, haob, hoc⟩ := RO.out.2 (by omega)
          obtain ⟨p, hp, hp', hpl, hpf⟩ := HR.out.at hlt
          obtain ⟨ad, hA, hadb, hcell⟩ := HB.out.2 (by omega)
          subst hO; subst hA
          have ok := ord_at hoc hlt hp
          obtain ⟨x0, x1, x2, x3, x4, x5, x6, x7⟩ := call_at8 W.out hadb hcell p hpl
          have HXX := Lib.hid (HX2.out l[p] (List.getElem_mem hpl))
          obtain ⟨V2, hMV⟩ := HG.out k hlt
          rw [hp, cAt_at hpl] at hMV
          have MV := Lib.hid hMV
          have TP := Lib.hid (show tOf l (R.getD k 0) = l[p].tt by rw [hp', tOf_at hpl])
          clear hcell hadb hoc hp hp' hpf hMV haob
          generalize l[p] = x at *
          obtain ⟨xi, xf, xt, xn, xfr, xto, xfa, xs⟩ := x
          obtain ⟨v0, v1, v2, v3, _⟩ := HXX.out
          simp only at x0 x1 x2 x3 x4 x5 x6 x7 MV TP v3
          obtain ⟨n1, n2⟩ : -9223372036854775808 ≤ xn ∧ xn ≤ 9223372036854775807 := by simpa [Lit.wf, IntKind.min, IntKind.max, IntKind.signed, IntKind.bits] using v3
          have p0 : (0 : Int) ≤ (p : Int) := by omega
          have p1 : (p : Int) < (l.length : Int) := by omega
          clear v0 v1 v2 v3
          have T3 := Lib.hid (T.out.alloc (.cells #[.int .i64 xi, .int .i64 xf, .int .i64 xt, .int .i64 xn, .int .i64 xfr, .int .i64 xto, .int .i64 xfa, .int .i64 xs] 36))
          have W3 := Lib.hid (below_alloc_ (Below.refl wo.heap.size wo) (.cells #[.int .i64 xi, .int .i64 xf, .int .i64 xt, .int .i64 xn, .int .i64 xfr, .int .i64 xto, .int .i64 xfa, .int .i64 xs] 36))
          by_cases hkk : k < k0
          · have e1 : decide (xs ≤ t) = true := by have := K0.out.2.1 k hkk; rw [TP.out] at this; simpa using this
            have FK := Lib.hid (HG.out.ok HK.out (Int.le_refl 0) (by rw [HG0.out]; exact HF.out.ok _ (Nat.le_refl _)) k (by omega))
            have BM := Lib.hid (show DcBk _ A1 D1 (ops.length + k) (G k) from by
              have := BB.out.pass W3.out
              rw [Nat.min_eq_left (by omega)] at this
              exact this)
            have hm1 : min (k + 1) k0 = k + 1 := Nat.min_eq_left (by omega)
            have HM1 := Lib.hid hm1
            obtain ⟨E2, hE2⟩ : ∃ E2, EE k = E2 := ⟨_, rfl⟩
            rw [hE2] at MV
            clear BB hm1 hE2
            go_wp2_with fail
            refine (rmove_any r A1 c1 D1 xf xt xn V2 E2 (0 + (k : Int)) (ops.length + k) (G k) (G (k + 1)) _ BM.out (by omega) FK.out HK.out hb n1 n2 MV.out).mono ?_
            rintro e w4 ⟨A4, c4, D4, rfl, hB4, hA4, hb4⟩
            have T5 := Lib.hid (blk_pass T3.out (Below.refl _ _) hb4)
            have B5 := Lib.hid hB4
            have W5 := Lib.hid (below_then (below_then W.out W3.out) hb4)
            have R5 := Lib.hid ((RO.out.pass W3.out).pass hb4)
            have X5 := Lib.hid (show ∀ x, A4 = some x → 0 < D4.length → x.block ≠ w1.heap.size from fun x hx h0 => by
              rcases hA4 with ⟨h, h'⟩ | h
              · exact HX.out x (by rw [← h]; exact hx) (by rw [← h']; exact h0)
              · have := h x hx; simp at this; omega)
            clear hB4 hA4 hb4 t0 t1 z0 z1 zl x0 x1 x2 x3 x4 x5 x6 x7
            obtain ⟨t0, t1⟩ := T5.out.c2
            obtain ⟨z0, z1, zl⟩ := small5 T5.out
            go_wp2_with fail
            go_roundw
            case rel => exact ⟨k + 1, A4, c4, D4, by omega, by go_num, Lib.hid (blk_upd (i := 1) (u := .slice A4 D4.length c4) (blk_upd (i := 0) (u := .float .f64 r) T5.out rfl) rfl), Lib.hid (by rw [HM1.out]; exact B5.out.set2' X5.out _ _), X5, Lib.hid (R5.out.kp (S := fun g => g = w1.heap.size) (((Keeps.refl (fun g => g = w1.heap.size) w4).set_ (p := ⟨w1.heap.size, 0, none⟩) (Or.inl rfl) _).set_ (p := ⟨w1.heap.size, 1, none⟩) (Or.inl rfl) _) (fun a ha => OF.out a ha)), Lib.hid (below_set_ (below_set_ W5.out (p := ⟨w1.heap.size, 0, none⟩) hw1 _) (p := ⟨w1.heap.size, 1, none⟩) hw1 _)⟩
            case measure => simp [intOf]; omega
          · have e1 : decide (xs ≤ t) = false := by have := K0.out.2.2 k (by omega) hlt; rw [TP.out] at this; simpa using this
            have hm1 : min (k + 1) k0 = min k k0 := by omega
            have HM1 := Lib.hid hm1
            clear hm1
            go_wp2_with fail
            go_roundw
            case rel => exact ⟨k + 1, A1, c1, D1, by omega, by go_num, T3, Lib.hid (by rw [HM1.out]; exact (BB.out.pass W3.out).mono (by omega)), HX, Lib.hid (RO.out.pass W3.out), Lib.hid (below_then W.out W3.out)⟩
            case measure => simp [intOf]; omega
        · have hd : decide ((k : Int) < (R.length : Int)) = false := by simp; omega
          have hd' : decide (k < R.length) = false := by simp; omega
          have FK := Lib.hid (HG.out.ok HK.out (Int.le_refl 0) (by rw [HG0.out]; exact HF.out.ok _ (Nat.le_refl _)) k0 K0.out.1)
          have BM := Lib.hid (show DcBk wo A1 D1 (ops.length + k) (G k0) from by
            have := BB.out
            rw [Nat.min_eq_right (by have := K0.out.1; omega)] at this
            exact this)
          clear BB
          go_wp2_with fail
          refine (rlist_any r A1 c1 D1 (ops.length + k) (G k0) (0 + (k0 : Int)) _ BM.out (by omega) FK.out).mono ?_
          rintro e w6 ⟨A6, c6, rfl, hr6, hw6⟩
          have R6 := Lib.hid hr6
          have W6 := Lib.hid (below_then W.out hw6)
          clear hr6 hw6
          go_wp2_with fail
          go_ret2
          exact ⟨A6, c6, _, _, rfl, R6.out, .inr ⟨V, CS.out, .inr ⟨T1.out, rfl, rfl⟩⟩, W6.out⟩
  · have e1 : (E == 0) = false := by simpa using he
    have e2 : (E != 0) = true := by simpa using he
    have HE := Lib.hid he
    have CS := Lib.hid hs
    clear he hs hw0
    go_wp2_with fail
    go_ret2
    exact ⟨none, 0, [], _, rfl, ⟨rfl, fun h => absurd h (Nat.lt_irrefl 0)⟩, .inl ⟨V, CS.out, HE.out, rfl⟩, W0.out⟩
end Go.Proofs.YtjhhpcjnhjbpdaaGreat
