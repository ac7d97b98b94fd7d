/- The story: Check, walked (under way). -/
import Derived.Test.YtjhhpcjnhjbpdaaGreatQE
set_option linter.unusedSimpArgs false
set_option linter.unusedVariables false
namespace Go.Proofs.YtjhhpcjnhjbpdaaGreat
open Go.RowKit Mo
theorem below_drew_ {w a : World} (h : Below w.heap.size w a) : Below w.heap.size w a.drew := h.drew
theorem cls_zero {l : List VCall20} {V : Int} (h : ClsIs l V 0) : ClsIs l 0 0 := by
  rcases h with ⟨i, _, _, h1, h2, _⟩ | ⟨_, _, h⟩
  · exact absurd h1.symm h2
  · exact .inr ⟨rfl, rfl, h⟩
theorem OrdL.len {l : List VCall20} {R : List Int} (h : OrdL l R) : R.length ≤ l.length := by
  have hn : (cmt l l.length).Nodup := (cmt_rise l l.length).imp (fun h => by omega)
  have := (List.perm_ext_iff_of_nodup h.nodup hn).2 fun x => by rw [h.mem, cmt_mem]
  rw [this.length_eq]
  exact cmt_len l l.length
theorem OrdL.at {l : List VCall20} {R : List Int} (h : OrdL l R) {k : Nat} (hk : k < R.length) : ∃ p : Nat, R[k] = (p : Int) ∧ R.getD k 0 = (p : Int) ∧ ∃ h : p < l.length, l[p].fate = 2 := by
  obtain ⟨p, h1, h2⟩ := (h.mem R[k]).1 (List.getElem_mem hk)
  exact ⟨p, h1, by rw [List.getD_eq_getElem?_getD, List.getElem?_eq_getElem hk]; exact h1, h2⟩
/-- two places of an order, of one stamp, share an account -/
def tieB (l : List VCall20) (R : List Int) (j k : Nat) : Bool := tOf l (R.getD j 0) == tOf l (R.getD k 0) && shr (cAt l (R.getD j 0)) (cAt l (R.getD k 0))
theorem tie_true {l : List VCall20} {R : List Int} {j k : Nat} (hj : j < k) (hk : k < R.length) (h : tieB l R j k = true) : tie l R k = true := by
  unfold tie
  rw [List.any_eq_true]
  refine ⟨R.getD j 0, ?_, h⟩
  rw [List.mem_take_iff_getElem]
  exact ⟨j, by omega, by rw [List.getD_eq_getElem?_getD, List.getElem?_eq_getElem (by omega)]; rfl⟩
theorem tie_false {l : List VCall20} {R : List Int} {k : Nat} (h : ∀ j, j < k → tieB l R j k = false) : tie l R k = false := by
  unfold tie
  rw [List.any_eq_false]
  intro e he
  rw [List.mem_take_iff_getElem] at he
  obtain ⟨j, hj, rfl⟩ := he
  have := h j (by omega)
  unfold tieB at this
  rw [List.getD_eq_getElem?_getD, List.getElem?_eq_getElem (by omega : j < R.length)] at this
  simpa using this
theorem tieB_at {l : List VCall20} {R : List Int} {j k p q : Nat} (hj : R.getD j 0 = (q : Int)) (hk : R.getD k 0 = (p : Int)) (hp : p < l.length) (hq : q < l.length) : tieB l R j k = (l[q].tt == l[p].tt && shr4 l[q].x_xf l[q].x_xt l[p].x_xf l[p].x_xt) := by
  unfold tieB
  rw [hj, hk, tOf_at hp, tOf_at hq, cAt_at hp, cAt_at hq]
  rfl
theorem keep10 {w w1 w2 : World} {p0 p1 p2 p3 p4 p5 p6 p7 p8 p9 : Addr} {v0 v1 v2 v3 v4 v5 v6 v7 v8 v9 : Value} (h : w1.cell? p0 = some v0 ∧ w1.cell? p1 = some v1 ∧ w1.cell? p2 = some v2 ∧ w1.cell? p3 = some v3 ∧ w1.cell? p4 = some v4 ∧ w1.cell? p5 = some v5 ∧ w1.cell? p6 = some v6 ∧ w1.cell? p7 = some v7 ∧ w1.cell? p8 = some v8 ∧ w1.cell? p9 = some v9 ∧ Hid (Below w.heap.size w w1)) (hb : Below w1.heap.size w1 w2) : w2.cell? p0 = some v0 ∧ w2.cell? p1 = some v1 ∧ w2.cell? p2 = some v2 ∧ w2.cell? p3 = some v3 ∧ w2.cell? p4 = some v4 ∧ w2.cell? p5 = some v5 ∧ w2.cell? p6 = some v6 ∧ w2.cell? p7 = some v7 ∧ w2.cell? p8 = some v8 ∧ w2.cell? p9 = some v9 ∧ Hid (Below w.heap.size w w2) := by
  obtain ⟨a0, a1, a2, a3, a4, a5, a6, a7, a8, a9, hw⟩ := h
  exact ⟨below_cell a0 hb, below_cell a1 hb, below_cell a2 hb, below_cell a3 hb, below_cell a4 hb, below_cell a5 hb, below_cell a6 hb, below_cell a7 hb, below_cell a8 hb, below_cell a9 hb, Lib.hid (below_then hw.out hb)⟩
theorem last10 {a0 a1 a2 a3 a4 a5 a6 a7 a8 a9 : Prop} {P : Prop} (h : a0 ∧ a1 ∧ a2 ∧ a3 ∧ a4 ∧ a5 ∧ a6 ∧ a7 ∧ a8 ∧ a9 ∧ Hid P) : P := h.2.2.2.2.2.2.2.2.2.2.out
/-- the cells of call number k -/
theorem call_at {w wr : World} {ad : Addr} {xs : List VCall20} (hb : Below w.heap.size w wr) (ha : ad.block < w.heap.size) (h : ∀ j u, (xs.flatMap VCall20.cells)[j]? = some u → w.cell? (ad.add j) = some u) (k : Nat) (hk : k < xs.length) :
    wr.cell? (ad.add (k * 8)) = some (.int .i64 xs[k].x_id) ∧ wr.cell? ⟨(ad.add (k * 8)).block, (ad.add (k * 8)).off + 1, none⟩ = some (.int .i64 xs[k].x_xf) ∧ wr.cell? ⟨(ad.add (k * 8)).block, (ad.add (k * 8)).off + 2, none⟩ = some (.int .i64 xs[k].x_xt) ∧ wr.cell? ⟨(ad.add (k * 8)).block, (ad.add (k * 8)).off + 3, none⟩ = some (.int .i64 xs[k].x_xn) ∧ wr.cell? ⟨(ad.add (k * 8)).block, (ad.add (k * 8)).off + 7, none⟩ = some (.int .i64 xs[k].tt) := by
  have q := calls_at h k hk
  have q0 := q 0 (by omega); have q1 := q 1 (by omega); have q2 := q 2 (by omega); have q3 := q 3 (by omega); have q7 := q 7 (by omega)
  simp only [VCall20.cells, List.getElem_cons_zero, List.getElem_cons_succ, Nat.add_zero] at q0 q1 q2 q3 q7
  replace q1 := cell_in _ 1 (by omega) q1; replace q2 := cell_in _ 2 (by omega) q2; replace q3 := cell_in _ 3 (by omega) q3; replace q7 := cell_in _ 7 (by omega) q7
  have bl : (ad.add (k * 8)).block < w.heap.size := by rw [block_of_add]; exact ha
  exact ⟨cellB hb bl q0, cellB hb bl q1, cellB hb bl q2, cellB hb bl q3, cellB hb bl q7⟩
theorem ord_at {wr : World} {ao : Addr} {R : List Int} (h : ∀ j u, (R.map (Value.int .i64))[j]? = some u → wr.cell? (ao.add j) = some u) {k p : Nat} (hk : k < R.length) (e : R[k] = (p : Int)) : wr.cell? (ao.add k) = some (.int .i64 (p : Int)) :=
  h k _ (by rw [List.getElem?_map, List.getElem?_eq_getElem hk, e]; rfl)
set_option maxRecDepth 100000 in
set_option maxHeartbeats 8000000 in
theorem check_ok (r : Nat) (A B : Option Addr) (c d : Nat) (ops : List VEntry) (l : List VCall20) (F : Nat → Int → Option (Int × Int)) (R : List Int) (G : Nat → Int → Option (Int × Int)) (EE : Nat → Int) (w : World) (hb : r < 18446744073709551616) (h : rateOk r = true)
    (ha : Reads w w.heap.size 2 A ops.length (ops.flatMap VEntry.cells)) (hx : ∀ u ∈ ops, VEntry.ok w u) (hl : ops.length ≤ 1000) (hb2 : Reads w w.heap.size 8 B l.length (l.flatMap VCall20.cells)) (hx2 : ∀ u ∈ l, VCall20.ok w u) (hl2 : l.length ≤ 1000) (hlc : l.length ≤ d) (hF : OpRuns ops F) (hR : OrdL l R) (hG0 : G 0 = F ops.length) (hG : MvRuns l r R G EE) :
    Calls Tryz.prog 7 #[.float .f64 r, .slice A ops.length c, .slice B l.length d] w (ChkPost r ops l R EE w) := by
  have HK := Lib.hid h; have HA := Lib.hid ha; have HX := Lib.hid hx; have HB := Lib.hid hb2; have HX2 := Lib.hid hx2; have HF := Lib.hid hF; have HR := Lib.hid hR; have HG0 := Lib.hid hG0; have HG := Lib.hid hG
  clear h ha hx hb2 hx2 hF hR hG0 hG
  go_enter Tryz.func7, Tryz.ntmps7
  go_wp2_with fail
  refine (book_nil r _ hb HK.out).mono ?_
  rintro e w1 ⟨b0, m0, rfl, _, _, _, hw1⟩
  have W1 := Lib.hid hw1
  clear hw1
  go_wp2_with fail
  refine (opened_any A c ops _ ((HA.out.below W1.out).more W1.out.size) (by omega)).mono ?_
  rintro e w2 ⟨V1, rfl, hv1, hw2⟩
  have W2 := Lib.hid (below_then W1.out hw2); have V1S := Lib.hid hv1
  have hc1 := opd_cases hv1
  clear hw2 hv1
  rcases hc1 with hc1 | hc1
  · have d1 : decide (0 ≤ V1) = true := by simpa using hc1
    go_wp2_with fail
    go_ret2
    exact ⟨_, _, rfl, .inr (.inl ⟨HK.out, hc1, V1S.out, rfl⟩), W2.out⟩
  · subst hc1
    go_wp2_with fail
    refine (calls_any B d l _ ((HB.out.below W2.out).more W2.out.size) (by omega) hlc).mono ?_
    rintro e w3 ⟨V2, E2, rfl, hv2, hw3⟩
    have W3 := Lib.hid (below_then W2.out hw3); have V2S := Lib.hid hv2
    clear hw3 hv2
    by_cases he : E2 = 0
    · subst he
      go_wp2_with fail
      refine (book_any r A c ops F _ ((HA.out.below W3.out).more W3.out.size) HX.out (by omega) hb HK.out HF.out).mono ?_
      rintro e w4 ⟨b, m, rfl, hb4, hm4, hk4, hw4⟩
      have B4 := Lib.hid hk4
      have W4 := Lib.hid (below_then W3.out hw4)
      have hbw : w.heap.size ≤ b := by have := W3.out.size; omega
      have hmw : w.heap.size ≤ m := by have := W3.out.size; omega
      clear hk4 hw4 hb4 hm4
      go_wp2_with fail
      refine (order_any B d l _ ((HB.out.below W4.out).more W4.out.size) (by omega)).mono ?_
      rintro e w5 ⟨O, cap, R', rfl, hro, hcp, hrd, hfr, hw5⟩
      obtain rfl : R = R' := HR.out.unique hro
      have R5 := Lib.hid hrd
      have W5 := Lib.hid (below_then W4.out hw5)
      have B5 := Lib.hid (B4.out.pass hw5)
      have OB := Lib.hid (show ∀ a, O = some a → a.block ≠ b ∧ a.block ≠ m from fun a ha => by
        have h1 := hfr a ha
        have h2 := B4.out.b.lt
        have h3 := B4.out.m.lt
        omega)
      clear hro hrd hfr hw5
      have hRl := HR.out.len
      go_wp2_with fail
      go_loopw [51] (fun s wr => ∃ k : Nat, k ≤ R.length ∧ s = .int .i64 k ∧ Hid (∀ j, j < k → tie l R j = false ∧ EE j = 0) ∧ Hid (Bk wr b r m (ops.length + 2 * k) (G k)) ∧ Hid (Below w.heap.size w wr) ∧ Hid (Reads wr wr.heap.size 1 O R.length (R.map (Value.int .i64)))) (fun s _ => R.length - (intOf s).toNat)
      case atStart => exact ⟨0, Nat.zero_le _, rfl, Lib.hid (fun j h => absurd h (Nat.not_lt_zero _)), Lib.hid (by rw [HG0.out]; exact B5.out), W5, R5⟩
      case round =>
        obtain ⟨k, hk, rfl, HN, BK, HW, RR⟩ := hrel
        rename World => wo
        clear B5 W5 R5
        by_cases hlt : k < R.length
        · have hd : decide ((k : Int) < (R.length : Int)) = true := by simp; omega
          have hd' : decide (k < R.length) = true := by simp; omega
          have kc : (k : Int) ≤ (cap : Int) := by omega
          obtain ⟨ao, hO, haob, hoc⟩ := RR.out.2 (by omega)
          obtain ⟨p, hp, hp', hpl, hpf⟩ := HR.out.at hlt
          obtain ⟨ad, hA, hadb, hcell⟩ := HB.out.2 (by omega)
          have HC := Lib.hid hcell; have HAB := Lib.hid hadb; have HOC := Lib.hid hoc
          have OM := Lib.hid ((OB.out ao hO).2)
          subst hO; subst hA
          have ok := ord_at hoc hlt hp
          obtain ⟨x0, x1, x2, x3, x7⟩ := call_at HW.out hadb hcell p hpl
          have TB := Lib.hid (fun j (q : Nat) (h : R.getD j 0 = (q : Int)) (hq : q < l.length) => tieB_at h hp' hpl hq)
          have HX := Lib.hid (HX2.out l[p] (List.getElem_mem hpl))
          obtain ⟨V, hMV⟩ := HG.out k hlt
          have EP := Lib.hid hp'
          rw [hp, cAt_at hpl] at hMV
          have MV := Lib.hid hMV
          clear hcell hadb hoc hp hp' hpf hMV haob
          generalize l[p] = x at *
          obtain ⟨xi, xf, xt, xn, xfr, xto, xfa, xs⟩ := x
          simp only at x0 x1 x2 x3 x7 TB HX MV
          have p0 : (0 : Int) ≤ (p : Int) := by omega
          have p1 : (p : Int) < (l.length : Int) := by omega
          go_wp2_with fail
          go_loopw [60] (fun s wr => ∃ j : Nat, j ≤ k ∧ s = .int .i64 j ∧ Hid (∀ i, i < j → tieB l R i k = false) ∧ Hid (Below wo.heap.size wo wr)) (fun s _ => k - (intOf s).toNat)
          case atStart => exact ⟨0, Nat.zero_le _, rfl, Lib.hid (fun i h => absurd h (Nat.not_lt_zero _)), Lib.hid (Below.refl _ _)⟩
          case round =>
            obtain ⟨j, hj, rfl, HT, HI⟩ := hrel
            rename World => wi
            replace x0 := below_cell x0 HI.out; replace x1 := below_cell x1 HI.out; replace x2 := below_cell x2 HI.out; replace x3 := below_cell x3 HI.out; replace x7 := below_cell x7 HI.out
            by_cases hjk : j < k
            · have e0 : decide ((j : Int) < (k : Int)) = true := by simp; omega
              have e0' : decide (j < k) = true := by simp; omega
              obtain ⟨q, hq, hq', hql, hqf⟩ := HR.out.at (show j < R.length by omega)
              have oj := below_cell (ord_at HOC.out (by omega) hq) HI.out
              obtain ⟨y0, y1, y2, y3, y7⟩ := call_at (below_then HW.out HI.out) HAB.out HC.out q hql
              have TT := Lib.hid (TB.out j q hq' hql)
              clear hq hq' hqf ok
              generalize l[q] = y at *
              obtain ⟨yi, yf, yt, yn, yfr, yto, yfa, ys⟩ := y
              simp only at y0 y1 y2 y3 y7 TT
              have q0 : (0 : Int) ≤ (q : Int) := by omega
              have q1 : (q : Int) < (l.length : Int) := by omega
              by_cases htt : ys = xs
              · have e1 : (ys == xs) = true := by simpa using htt
                clear htt
                cases hs : shr4 yf yt xf xt
                all_goals
                  have HS := Lib.hid hs
                  clear hs
                  go_wp2_with fail
                  go_region_held3 (fun w' => w'.cell? (ad.add (q * 8)) = some (.int .i64 yi) ∧ w'.cell? ⟨(ad.add (q * 8)).block, (ad.add (q * 8)).off + 1, none⟩ = some (.int .i64 yf) ∧ w'.cell? ⟨(ad.add (q * 8)).block, (ad.add (q * 8)).off + 2, none⟩ = some (.int .i64 yt) ∧ w'.cell? ⟨(ad.add (q * 8)).block, (ad.add (q * 8)).off + 3, none⟩ = some (.int .i64 yn) ∧ w'.cell? ⟨(ad.add (q * 8)).block, (ad.add (q * 8)).off + 7, none⟩ = some (.int .i64 ys) ∧ w'.cell? (ad.add (p * 8)) = some (.int .i64 xi) ∧ w'.cell? ⟨(ad.add (p * 8)).block, (ad.add (p * 8)).off + 1, none⟩ = some (.int .i64 xf) ∧ w'.cell? ⟨(ad.add (p * 8)).block, (ad.add (p * 8)).off + 2, none⟩ = some (.int .i64 xt) ∧ w'.cell? ⟨(ad.add (p * 8)).block, (ad.add (p * 8)).off + 3, none⟩ = some (.int .i64 xn) ∧ w'.cell? ⟨(ad.add (p * 8)).block, (ad.add (p * 8)).off + 7, none⟩ = some (.int .i64 xs) ∧ Hid (Below wo.heap.size wo w'))
                    (first | exact keep10 (by assumption) hb | exact ⟨y0, y1, y2, y3, y7, x0, x1, x2, x3, x7, Lib.hid (Below.drew HI.out)⟩ | exact (by assumption))
                    (first | ((go_at_call 16; (with_reducible refine (shares_any _ _ _ _ _ _ _ _ _).mono ?_); rintro e w2 ⟨rfl, hb⟩; rw [HS.out])))
                  go_wp2_with fail
                · go_roundw
                  case rel => exact ⟨j + 1, by omega, by go_num, Lib.hid (fun i hi => by
                    rcases Nat.lt_or_eq_of_le (Nat.lt_succ_iff.1 hi) with h | h
                    · exact HT.out i h
                    · rw [h, TT.out, HS.out]; simp), Lib.hid (last10 (by assumption))⟩
                  case measure => simp [intOf]; omega
                · have TI := Lib.hid (tie_true hjk hlt (by rw [TT.out, HS.out, e1]; rfl))
                  go_ret2
                  exact ⟨_, _, rfl, .inr (.inr (.inr ⟨HK.out, V1S.out, cls_zero V2S.out, .inl ⟨k, hlt, HN.out, EP.out.symm, .inl ⟨TI.out, rfl⟩⟩⟩)), below_then HW.out (last10 (by assumption))⟩
              · have e1 : (ys == xs) = false := by simpa using htt
                clear htt
                go_wp2_with fail
                go_quiet (fail)
                go_wp2_with fail
                go_roundw
                case rel => exact ⟨j + 1, by omega, by go_num, Lib.hid (fun i hi => by
                  rcases Nat.lt_or_eq_of_le (Nat.lt_succ_iff.1 hi) with h | h
                  · exact HT.out i h
                  · rw [h, TT.out, e1]; rfl), Lib.hid (below_dn HI.out _)⟩
                case measure => simp [intOf]; omega
            · have e0 : decide ((j : Int) < (k : Int)) = false := by simp; omega
              have e0' : decide (j < k) = false := by simp; omega
              obtain rfl : j = k := by omega
              have TK := Lib.hid (tie_false HT.out)
              have BM := Lib.hid (show Bk wi.drew b r m (ops.length + 2 * j) (G j) from ⟨(BK.out.pass HI.out).b.drew, (BK.out.pass HI.out).m.drew⟩)
              have hnm : (ad.add (p * 8)).block ≠ m := by rw [block_of_add]; have := HAB.out; omega
              obtain ⟨v0, v1, v2, v3, _⟩ := HX.out
              have FK := Lib.hid (HG.out.ok HK.out (Int.le_refl 0) (by rw [HG0.out]; exact HF.out.ok _ (Nat.le_refl _)) j (by omega))
              have WI := Lib.hid (below_then HW.out HI.out)
              have RI := Lib.hid (RR.out.pass HI.out)
              obtain ⟨E, hE⟩ : ∃ E, EE j = E := ⟨_, rfl⟩
              have HE := Lib.hid hE
              rw [hE] at MV
              simp only at v0 v1 v2 v3
              clear hE BK HI RR HT ok
              by_cases hz : E = 0
              · subst hz
                go_wp2_with fail
                go_region_held3 (fun w' => w'.cell? ⟨(ad.add (p * 8)).block, (ad.add (p * 8)).off + 1, none⟩ = some (.int .i64 xf) ∧ w'.cell? ⟨(ad.add (p * 8)).block, (ad.add (p * 8)).off + 2, none⟩ = some (.int .i64 xt) ∧ w'.cell? ⟨(ad.add (p * 8)).block, (ad.add (p * 8)).off + 3, none⟩ = some (.int .i64 xn))
                  (first | exact ⟨x1, x2, x3⟩ | exact ⟨keep_cell (w1 := wi.drew) x1 hk4 hnm, keep_cell (w1 := wi.drew) x2 hk4 hnm, keep_cell (w1 := wi.drew) x3 hk4 hnm⟩)
                  (((go_at_call 17; (with_reducible refine (move_any b r m (ops.length + 2 * j) (G j) xf xt xn _ V 0 (0 + (j : Int)) (G (j + 1)) _ BM.out FK.out (by omega) v1 v2 HK.out hb rfl (by simp only [maxLen]; omega) MV.out).mono ?_); rintro e w4 ⟨rfl, hb4, hk4⟩)))
                go_wp2_with fail
                go_roundw
                case rel => exact ⟨j + 1, by omega, by go_num, Lib.hid (fun i hi => by
                  rcases Nat.lt_or_eq_of_le (Nat.lt_succ_iff.1 hi) with h | h
                  · exact HN.out i h
                  · rw [h]; exact ⟨TK.out, HE.out⟩), Lib.hid (show Bk w4 b r m (ops.length + 2 * (j + 1)) (G (j + 1)) from hb4), Lib.hid (below_kp (below_drew_ WI.out) hk4 hmw), Lib.hid (RI.out.dr.kp hk4 (fun a ha => by cases ha; exact OM.out))⟩
                case measure => simp [intOf]; omega
              · have e1 : (E == 0) = false := by simpa using hz
                have e2 : (E != 0) = true := by simpa using hz
                have HZ := Lib.hid hz
                clear hz
                go_wp2_with fail
                go_region_held3 (fun w' => w'.cell? ⟨(ad.add (p * 8)).block, (ad.add (p * 8)).off + 1, none⟩ = some (.int .i64 xf) ∧ w'.cell? ⟨(ad.add (p * 8)).block, (ad.add (p * 8)).off + 2, none⟩ = some (.int .i64 xt) ∧ w'.cell? ⟨(ad.add (p * 8)).block, (ad.add (p * 8)).off + 3, none⟩ = some (.int .i64 xn))
                  (first | exact ⟨x1, x2, x3⟩ | exact ⟨keep_cell (w1 := wi.drew) x1 hk4 hnm, keep_cell (w1 := wi.drew) x2 hk4 hnm, keep_cell (w1 := wi.drew) x3 hk4 hnm⟩)
                  (((go_at_call 17; (with_reducible refine (move_any b r m (ops.length + 2 * j) (G j) xf xt xn _ V E (0 + (j : Int)) (G (j + 1)) _ BM.out FK.out (by omega) v1 v2 HK.out hb rfl (by simp only [maxLen]; omega) MV.out).mono ?_); rintro e w4 ⟨rfl, hb4, hk4⟩)))
                go_wp2_with fail
                go_ret2
                exact ⟨_, _, rfl, .inr (.inr (.inr ⟨HK.out, V1S.out, cls_zero V2S.out, .inl ⟨j, hlt, HN.out, EP.out.symm, .inr ⟨TK.out, by rw [HE.out]; exact HZ.out, rfl⟩⟩⟩)), below_kp (below_drew_ WI.out) hk4 hmw⟩
        · have hd : decide ((k : Int) < (R.length : Int)) = false := by simp; omega
          have hd' : decide (k < R.length) = false := by simp; omega
          have HN2 := Lib.hid (show ∀ j, j < R.length → tie l R j = false ∧ EE j = 0 from fun j hj => HN.out j (by omega))
          go_wp2_with fail
          go_ret2
          exact ⟨_, _, rfl, .inr (.inr (.inr ⟨HK.out, V1S.out, cls_zero V2S.out, .inr ⟨HN2.out, rfl, rfl⟩⟩)), HW.out⟩
    · have e1 : (E2 == 0) = false := by simpa using he
      have e2 : (E2 != 0) = true := by simpa using he
      have HE := Lib.hid he
      clear he
      go_wp2_with fail
      go_ret2
      exact ⟨_, _, rfl, .inr (.inr (.inl ⟨HK.out, V1S.out, V2S.out, HE.out⟩)), W3.out⟩
end Go.Proofs.YtjhhpcjnhjbpdaaGreat
