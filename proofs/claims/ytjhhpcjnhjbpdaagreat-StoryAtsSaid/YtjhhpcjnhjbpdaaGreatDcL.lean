/- The document's book: List. -/
import Derived.Test.YtjhhpcjnhjbpdaaGreatDcO
import Derived.Test.YtjhhpcjnhjbpdaaGreatSoRo
import Derived.IntWalk
set_option linter.unusedSimpArgs false
set_option linter.unusedVariables false
namespace Go.Proofs.YtjhhpcjnhjbpdaaGreat
open Go.RowKit Mo
/-- the accounts below n -/
def kb (f : Int → Option (Int × Int)) (n : Nat) : List Int := ((List.range n).map (fun i : Nat => (i : Int))).filter (fun k => (f k).isSome)
theorem kb_succ1 {f : Int → Option (Int × Int)} {n : Nat} (h : (f (n : Int)).isSome = true) : kb f (n + 1) = kb f n ++ [(n : Int)] := by
  unfold kb
  rw [List.range_succ, List.map_append, List.filter_append]
  simp [h]
theorem kb_succ0 {f : Int → Option (Int × Int)} {n : Nat} (h : (f (n : Int)).isSome = false) : kb f (n + 1) = kb f n := by
  unfold kb
  rw [List.range_succ, List.map_append, List.filter_append]
  simp [h]
theorem kb_len (f : Int → Option (Int × Int)) (n : Nat) : (kb f n).length ≤ n := by
  unfold kb
  refine Nat.le_trans (List.length_filter_le _ _) ?_
  rw [List.length_map, List.length_range]
  exact Nat.le_refl _
/-- where the document's List stands -/
structure LsD (B : Nat) (w1 wr : World) (f : Int → Option (Int × Int)) (k : Nat) (s3 s4 : Value) : Prop where
  h : wr.ownsRow B 42 2 s3 (kb f k).length ((entsH f (kb f k)).flatMap eC)
  p : wr.ownsRow B 42 2 s4 (entsP f (kb f k)).length ((entsP f (kb f k)).flatMap eC)
  ap : Apart s3 s4
  b : Below B w1 wr
theorem LsD.pass {B : Nat} {w1 wr w2 : World} {f : Int → Option (Int × Int)} {k : Nat} {s3 s4 : Value} (h : LsD B w1 wr f k s3 s4) (hB : B ≤ wr.heap.size) (hb : Below wr.heap.size wr w2) : LsD B w1 w2 f k s3 s4 :=
  ⟨own_kp h.h (Keeps.ofB hb) (fun _ _ h => h), own_kp h.p (Keeps.ofB hb) (fun _ _ h => h), h.ap, h.b.trans (hb.mono hB)⟩
theorem own_emptyE {w : World} {e : TypeId} {base b : Nat} (hb : w.heap.size = b) (h : base ≤ b) : (w.alloc (.cells #[] e)).ownsRow base e 2 (.slice (some ⟨b, 0, none⟩) 0 0) 0 [] := by
  subst hb
  exact World.ownsRow_made w #[] 0 h (by simp [maxLen]) rfl
def RLst (f : Int → Option (Int × Int)) (w : World) (e : Ending) (w' : World) : Prop := ∃ A c, e = .returned (.slice A (ents f).length c) ∧ Reads w' w'.heap.size 2 A (ents f).length ((ents f).flatMap eC) ∧ Below w.heap.size w w'
set_option maxRecDepth 100000 in
set_option maxHeartbeats 4000000 in
theorem rlist_any (r : Nat) (A : Option Addr) (c : Nat) (D : List Dn) (m : Nat) (f : Int → Option (Int × Int)) (q : Int) (w : World) (hB : DcBk w A D m f) (hm : m ≤ 100) (hF : FOk f q) :
    Calls Tryz.prog 27 #[.agg #[.float .f64 r, .slice A D.length c]] w (RLst f w) := by
  have HD := Lib.hid hB
  have HF := Lib.hid hF
  have dl := hB.len
  clear hB hF
  obtain ⟨i0, hi0, hz0, hz1, hz2⟩ := info_parts info_en
  have S0 := Lib.hid (Blk.new w 58 #[.float .f64 r, .slice A D.length c])
  have W0 : Hid (Below w.heap.size w (w.alloc (.cells #[.float .f64 r, .slice A D.length c] 58))) := Lib.hid (by repeat (first | exact Below.refl _ _ | refine below_alloc_ ?_ _ | refine Below.drew ?_))
  obtain ⟨w1, hw1⟩ : ∃ w1, w.alloc (.cells #[.float .f64 r, .slice A D.length c] 58) = w1 := ⟨_, rfl⟩
  have hs1 : w1.heap.size = w.heap.size + 1 := by rw [← hw1]; simp
  have H1 := Lib.hid hs1
  rw [hw1] at S0 W0
  have L0 : Hid (LsD w1.heap.size w1 ((w1.alloc (.cells #[] 42)).alloc (.cells #[] 42)) f 0 (.slice (some ⟨w1.heap.size, 0, none⟩) 0 0) (.slice (some ⟨w1.heap.size + 1, 0, none⟩) 0 0)) := Lib.hid ⟨(own_emptyE rfl (Nat.le_refl _)).alloc _, own_emptyE (by simp) (Nat.le_succ _), fun g h1 h2 => by simp [Value.ownBlock] at h1 h2; omega, by repeat (first | exact Below.refl _ _ | refine below_alloc_ ?_ _ | refine Below.drew ?_)⟩
  clear hs1
  go_enter Tryz.func27, Tryz.ntmps27
  go_wp2_with fail
  clear hw1
  have hl1 : w.heap.size < w1.heap.size := by rw [H1.out]; exact Nat.lt_succ_self _
  go_loopw [3, 4, 5] (fun s3 s4 s5 wr => ∃ k : Nat, k ≤ 4096 ∧ s5 = .int .i64 k ∧ Hid (LsD w1.heap.size w1 wr f k s3 s4)) (fun _ _ s _ => 4096 - (intOf s).toNat)
  case atStart => exact ⟨0, Nat.zero_le _, rfl, L0⟩
  case round =>
    clear L0
    obtain ⟨k, hk, rfl, R⟩ := hrel
    rename World => wo
    have S := Lib.hid (S0.out.below R.out.b S0.out.lt)
    have W := Lib.hid (below_then W0.out R.out.b)
    obtain ⟨s0, s1⟩ := S.out.c2
    have sl := S.out.lt
    by_cases hlt : k < 4096
    · have hd : decide ((k : Int) < 4096) = true := by simp; omega
      go_wp2_with fail
      go_loopw [6, 7] (fun s6 s7 wr => ∃ (i : Nat) (t : Bool), i ≤ D.length ∧ s7 = .int .i64 i ∧ s6 = .bool t ∧ Hid (t = docOk (D.take i) (k : Int)) ∧ Hid (Below wo.heap.size wo wr)) (fun _ s _ => D.length - (intOf s).toNat)
      case atStart => exact ⟨0, false, Nat.zero_le _, rfl, rfl, Lib.hid rfl, Lib.hid (Below.refl _ _)⟩
      case round =>
        obtain ⟨i, t, hi, rfl, rfl, HT, HI⟩ := hrel
        rename World => wi
        replace s0 := below_cell s0 HI.out; replace s1 := below_cell s1 HI.out
        have sl2 : w.heap.size < wi.heap.size := by have := HI.out.size; omega
        by_cases hil : i < D.length
        · have hd2 : decide ((i : Int) < (D.length : Int)) = true := by simp; omega
          have hd3 : decide (i < D.length) = true := by simp; omega
          obtain ⟨ad, hA, hadb, hcell⟩ := (HD.out.rd.below (below_then W.out HI.out)).2 (by omega)
          subst hA
          obtain ⟨q0, q1, q2, q3⟩ := dn_at hcell i hil
          have ht := List.take_succ_eq_append_getElem hil
          have HO1 := Lib.hid (show docOk (D.take (i + 1)) (k : Int) = (t || (D[i].to_ == (k : Int) && decide (D[i].fr < 0))) by rw [ht, docOk_snoc, HT.out])
          clear hcell ht
          generalize D[i] = x at *
          obtain ⟨xf, xt, xn, xe⟩ := x
          simp only at q0 q1 q2 q3 HO1
          cases t
          · rcases (show (decide (xf < 0) = false) ∨ (decide (xf < 0) = true ∧ (xt == (k : Int)) = false) ∨ (decide (xf < 0) = true ∧ (xt == (k : Int)) = true) by
              cases decide (xf < 0) <;> cases (xt == (k : Int)) <;> simp) with e1 | ⟨e1, e2⟩ | ⟨e1, e2⟩
            · have HQ := Lib.hid (show docOk (D.take (i + 1)) (k : Int) = false by rw [HO1.out, e1]; simp)
              go_wp2_with fail
              go_roundw
              case rel => exact ⟨i + 1, false, by omega, by go_num, rfl, Lib.hid HQ.out.symm, HI⟩
              case measure => simp [intOf]; omega
            · have HQ := Lib.hid (show docOk (D.take (i + 1)) (k : Int) = false by rw [HO1.out, e2]; simp)
              go_wp2_with fail
              go_roundw
              case rel => exact ⟨i + 1, false, by omega, by go_num, rfl, Lib.hid HQ.out.symm, HI⟩
              case measure => simp [intOf]; omega
            · have HQ := Lib.hid (show docOk (D.take (i + 1)) (k : Int) = true by rw [HO1.out, e1, e2]; rfl)
              go_wp2_with fail
              go_roundw
              case rel => exact ⟨i + 1, true, by omega, by go_num, rfl, Lib.hid HQ.out.symm, HI⟩
              case measure => simp [intOf]; omega
          · go_wp2_with fail
            go_roundw
            case rel => exact ⟨i + 1, true, by omega, by go_num, rfl, Lib.hid (by rw [HO1.out]; rfl), HI⟩
            case measure => simp [intOf]; omega
        · have hd2 : decide ((i : Int) < (D.length : Int)) = false := by simp; omega
          have hd3 : decide (i < D.length) = false := by simp; omega
          obtain rfl : i = D.length := by omega
          have ht := HT.out
          rw [List.take_of_length_le (Nat.le_refl _)] at ht
          obtain ⟨g1, g2, g3⟩ := HD.out.doc (k : Int) (by omega)
          have hsz := R.out.b.size
          have R1 := Lib.hid (R.out.pass hsz HI.out)
          cases hf : (f (k : Int)).isSome
          · rw [g1, hf] at ht
            subst ht
            have HN := Lib.hid (kb_succ0 (n := k) hf)
            clear g1 g2 g3 hf
            go_wp2_with fail
            go_roundw
            case rel => exact ⟨k + 1, by omega, by go_num, Lib.hid (by have := R1.out; exact ⟨by rw [HN.out]; exact this.h, by rw [HN.out]; exact this.p, this.ap, this.b⟩)⟩
            case measure => simp [intOf]; omega
          · rw [g1, hf] at ht
            subst ht
            have HN := Lib.hid (kb_succ1 (n := k) hf)
            have HG1 := Lib.hid (g1.trans hf)
            obtain ⟨x, hx⟩ : ∃ x, hasAt f (k : Int) = x := ⟨_, rfl⟩
            obtain ⟨y, hy⟩ : ∃ y, paidAt f (k : Int) = y := ⟨_, rfl⟩
            have HG2 := Lib.hid (show docN D (k : Int) = x from g2.trans hx)
            have HG3 := Lib.hid (show docP D (k : Int) = y from g3.trans hy)
            have y0 : 0 ≤ y := by
              obtain ⟨pp, hpp⟩ := Option.isSome_iff_exists.1 hf
              have := (HF.out _ _ hpp).2.2.1
              rw [← hy]; unfold paidAt; rw [hpp]; exact this
            have HX := Lib.hid hx; have HY := Lib.hid hy
            have kl := kb_len f k
            have hsz2 : w1.heap.size ≤ wi.heap.size := R1.out.b.size
            have hwr : IntKind.i64.wrap (4096 + (k : Int)) = 4096 + (k : Int) := IntWalk.i64_in _ (by omega)
            clear hf g1 g2 g3 hx hy
            by_cases hy0 : y = 0
            · have b1 : decide (0 < y) = false := by simp; omega
              have HP := Lib.hid hy0
              clear hy0
              go_wp2_with (first
                | (go_at_call 46; (with_reducible refine (rhas_v (a := (k : Int)) _ (HD.out.pass (below_then W.out HI.out)).rd (by omega) HD.out.ok HG2.out HG1.out HG3.out).mono ?_); rintro e w2 ⟨rfl, hb2⟩; have R2 := Lib.hid (R1.out.pass hsz2 hb2); have hsz3 := R2.out.b.size; clear hb2)
                | (at_builtin
                   refine wpList_append_any _ rfl (.tmp 53) (.tmp 57) 23 rfl w1.heap.size 42 i0 _ 2 16 Tryz.underlying23 hi0 hz0 hz1 hz2 rfl (by omega) u3 (kb f k).length _ (by rfl) (R2.out.h.alloc _) (w2.heap.size + 1) (some ⟨w2.heap.size, 0, none⟩) 1 1 (eC ((k : Int), x)) (by rfl) (reads_cells rfl rfl) (one_en _) (by simp only [maxLen]; omega) (by omega) (by simp; omega) ?_
                   intro v1 w3 hown1 hg1 hat1
                   have HO := Lib.hid hown1
                   have HP4 := Lib.hid (own_push (R2.out.p.alloc _) (fun g hg => (R2.out.h.lt g hg).1) R2.out.ap (below_alloc_ R2.out.b _) (by simp; omega) hg1 hat1)
                   clear hown1 hg1 hat1))
              go_roundw
              case rel =>
                refine ⟨k + 1, by omega, by go_num, Lib.hid ⟨?_, ?_, HP4.out.2.1, HP4.out.2.2⟩⟩
                · rw [HN.out, entsH_snoc, List.flatMap_append, List.length_append, HX.out]
                  simpa using HO.out
                · rw [HN.out, entsP_snoc0 _ _ _ (HY.out.trans HP.out)]
                  exact HP4.out.1
              case measure => simp [intOf]; omega
            · have b1 : decide (0 < y) = true := by simp; omega
              have HP := Lib.hid hy0
              clear hy0
              have pl := entsP_len f (kb f k)
              go_wp2_with (first
                | (go_at_call 46; (with_reducible refine (rhas_v (a := (k : Int)) _ (HD.out.pass (below_then W.out HI.out)).rd (by omega) HD.out.ok HG2.out HG1.out HG3.out).mono ?_); rintro e w2 ⟨rfl, hb2⟩; have R2 := Lib.hid (R1.out.pass hsz2 hb2); have hsz3 := R2.out.b.size; clear hb2)
                | (at_builtin
                   refine wpList_append_any _ rfl (.tmp 53) (.tmp 57) 23 rfl w1.heap.size 42 i0 _ 2 16 Tryz.underlying23 hi0 hz0 hz1 hz2 rfl (by omega) u3 (kb f k).length _ (by rfl) (R2.out.h.alloc _) (w2.heap.size + 1) (some ⟨w2.heap.size, 0, none⟩) 1 1 (eC ((k : Int), x)) (by rfl) (reads_cells rfl rfl) (one_en _) (by simp only [maxLen]; omega) (by omega) (by simp; omega) ?_
                   intro v1 w3 hown1 hg1 hat1
                   have HO := Lib.hid hown1
                   have HP4 := Lib.hid (own_push (R2.out.p.alloc _) (fun g hg => (R2.out.h.lt g hg).1) R2.out.ap (below_alloc_ R2.out.b _) (by simp; omega) hg1 hat1)
                   clear hown1 hg1 hat1)
                | (at_builtin
                   refine wpList_append_any _ rfl (.tmp 61) (.tmp 66) 23 rfl w1.heap.size 42 i0 _ 2 16 Tryz.underlying23 hi0 hz0 hz1 hz2 rfl (by omega) u4 (entsP f (kb f k)).length _ (by rfl) (HP4.out.1.alloc _) (w3.heap.size + 1) (some ⟨w3.heap.size, 0, none⟩) 1 1 (eC (4096 + (k : Int), y)) (by rfl) (reads_cells rfl rfl) (one_en _) (by simp only [maxLen]; omega) (by omega) (by simp; have := HP4.out.2.2.size; omega) ?_
                   intro v2 w4 hown2 hg2 hat2
                   have HO2 := Lib.hid hown2
                   have HP5 := Lib.hid (own_push (HO.out.alloc _) (fun g hg => (HP4.out.1.lt g hg).1) HP4.out.2.1.symm (below_alloc_ HP4.out.2.2 _) (by simp; have := HP4.out.2.2.size; omega) hg2 hat2)
                   clear hown2 hg2 hat2))
              go_roundw
              case rel =>
                refine ⟨k + 1, by omega, by go_num, Lib.hid ⟨?_, ?_, HP5.out.2.1.symm, HP5.out.2.2⟩⟩
                · have := HP5.out.1
                  rw [HN.out, entsH_snoc, List.flatMap_append, List.length_append, HX.out]
                  simpa using this
                · have := HO2.out
                  rw [HN.out, entsP_snoc1 _ _ _ (by rw [HY.out]; exact HP.out), List.flatMap_append, List.length_append, HY.out]
                  simpa using this
              case measure => simp [intOf]; omega
    · have hd : decide ((k : Int) < 4096) = false := by simp; omega
      obtain rfl : k = 4096 := by omega
      have RH := R.out.h; have RP := R.out.p
      rw [show kb f 4096 = keysOf f from rfl] at RH RP
      obtain ⟨A4, c4, h4, hr4, -⟩ := own_shape RP
      have H0 := Lib.hid RH; have R4 := Lib.hid hr4
      have P4 := entsP_len f (keysOf f)
      have KL := keysOf_len f
      obtain ⟨N, hN⟩ : ∃ N, (keysOf f).length = N := ⟨_, rfl⟩
      obtain ⟨M, hM⟩ : ∃ M, (entsP f (keysOf f)).length = M := ⟨_, rfl⟩
      have HN := Lib.hid hN; have HM := Lib.hid hM
      rw [hN] at H0 P4 KL
      rw [hM] at R4 h4 P4
      have hsz := R.out.b.size
      clear RH RP hr4 hM hN
      subst h4
      go_wp2_with (at_builtin
                   refine wpList_append_any _ rfl (.tmp 68) (.tmp 69) 23 rfl w1.heap.size 42 i0 _ 2 16 Tryz.underlying23 hi0 hz0 hz1 hz2 rfl (by omega) u3 N _ (by rfl) H0.out wo.heap.size A4 M c4 ((entsP f (keysOf f)).flatMap eC) (by rfl) R4.out (one_ens _) (by simp only [maxLen]; omega) (by omega) (by omega) ?_
                   intro v1 w2 hown1 hg1 hat1
                   obtain ⟨A', c', rfl, hrd, _⟩ := own_shape hown1
                   have RD := Lib.hid hrd
                   have HB2 := Lib.hid (W.out.grown hg1 (by have := W.out.size; omega) (fun g hg => by have := (H0.out.lt g hg).1; omega))
                   clear hown1 hrd hg1 hat1)
      go_ret
      have hlen : (ents f).length = N + M := by unfold ents; rw [List.length_append, entsH_len, HN.out, HM.out]
      refine ⟨A', c', by rw [hlen]; rfl, ?_, HB2.out⟩
      rw [hlen]; unfold ents; rw [List.flatMap_append]; exact RD.out
end Go.Proofs.YtjhhpcjnhjbpdaaGreat
