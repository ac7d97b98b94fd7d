/- The document's book: Move (printed by gen_dcm.py). -/
import Derived.Test.YtjhhpcjnhjbpdaaGreatDcO
set_option linter.unusedSimpArgs false
set_option linter.unusedVariables false
namespace Go.Proofs.YtjhhpcjnhjbpdaaGreat
open Go.RowKit Mo
attribute [local go_sem] run_store_float
/-- a book with one thing more done -/
theorem app_end {r : Nat} {A : Option Addr} {c : Nat} {D : List Dn} {x : Dn} {m : Nat} {f f' : Int → Option (Int × Int)} {w w3 : World} {A2 : Option Addr} {c2 : Nat} (hB : DcBk w A D m f) (hx : x.ok) (hd : DocF (D ++ [x]) f')
    (S3 : Blk w3 w.heap.size 58 #[.float .f64 r, .slice A D.length c]) (T3 : Blk w3 (w.heap.size + 1) 58 #[.float .f64 0, .slice none 0 0]) (W3 : Below w.heap.size w w3) (R3 : Reads w3 w3.heap.size 4 A2 (D.length + 1) (D.flatMap Dn.cells ++ Dn.cells x)) (F3 : ∀ x, A2 = some x → w.heap.size + 1 + 1 ≤ x.block) :
    Blk (((w3.setCell ⟨w.heap.size, 1, none⟩ (.slice A2 (D.length + 1) c2)).setCell ⟨w.heap.size + 1, 0, none⟩ (.float .f64 r)).setCell ⟨w.heap.size + 1, 1, none⟩ (.slice A2 (D.length + 1) c2)) (w.heap.size + 1) 58 #[.float .f64 r, .slice A2 (D.length + 1) c2] ∧
    (D ++ [x]).length = D.length + 1 ∧ DcBk (((w3.setCell ⟨w.heap.size, 1, none⟩ (.slice A2 (D.length + 1) c2)).setCell ⟨w.heap.size + 1, 0, none⟩ (.float .f64 r)).setCell ⟨w.heap.size + 1, 1, none⟩ (.slice A2 (D.length + 1) c2)) A2 (D ++ [x]) (m + 1) f' ∧
    Below w.heap.size w (((w3.setCell ⟨w.heap.size, 1, none⟩ (.slice A2 (D.length + 1) c2)).setCell ⟨w.heap.size + 1, 0, none⟩ (.float .f64 r)).setCell ⟨w.heap.size + 1, 1, none⟩ (.slice A2 (D.length + 1) c2)) := by
  have lb : w.heap.size ≤ w.heap.size + 1 := Nat.le_succ _
  have l0 : w.heap.size ≤ w.heap.size := Nat.le_refl _
  refine ⟨blk_upd (i := 1) (u := .slice A2 (D.length + 1) c2) (blk_upd (i := 0) (u := .float .f64 r) (T3.far (p := ⟨w.heap.size, 1, none⟩) (Nat.ne_of_gt (Nat.lt_succ_self _)) _) rfl) rfl, by rw [List.length_append]; rfl, ⟨?_, ?_, hd, by rw [List.length_append]; have := hB.len; simp; omega⟩, ?_⟩
  · have K : Keeps (fun g => g = w.heap.size ∨ g = w.heap.size + 1) w3 (((w3.setCell ⟨w.heap.size, 1, none⟩ (.slice A2 (D.length + 1) c2)).setCell ⟨w.heap.size + 1, 0, none⟩ (.float .f64 r)).setCell ⟨w.heap.size + 1, 1, none⟩ (.slice A2 (D.length + 1) c2)) :=
      (((Keeps.refl _ w3).set_ (p := ⟨w.heap.size, 1, none⟩) (Or.inl (Or.inl rfl)) _).set_ (p := ⟨w.heap.size + 1, 0, none⟩) (Or.inl (Or.inr rfl)) _).set_ (p := ⟨w.heap.size + 1, 1, none⟩) (Or.inl (Or.inr rfl)) _
    have := R3.kp K (fun x hx h => by have := F3 x hx; omega)
    rw [List.length_append, List.flatMap_append]
    simpa using this
  · intro y hy
    rcases List.mem_append.1 hy with h | h
    · exact hB.ok y h
    · rw [List.mem_singleton.1 h]; exact hx
  · exact below_set_ (below_set_ (below_set_ W3 (p := ⟨w.heap.size, 1, none⟩) l0 _) (p := ⟨w.heap.size + 1, 0, none⟩) lb _) (p := ⟨w.heap.size + 1, 1, none⟩) lb _
def MovIs (r m : Nat) (f' : Int → Option (Int × Int)) (V E : Int) (A0 : Option Addr) (D0 : List Dn) (w : World) (e : Ending) (w' : World) : Prop := ∃ A c D, e = .returned (.tuple #[.agg #[.float .f64 r, .slice A D.length c], .int .i64 V, .int .i64 E]) ∧ DcBk w' A D (m + 1) f' ∧ ((A = A0 ∧ D = D0) ∨ ∀ x, A = some x → w.heap.size ≤ x.block) ∧ Below w.heap.size w w'
set_option maxRecDepth 100000 in
set_option maxHeartbeats 8000000 in
theorem rmove_any (r : Nat) (A : Option Addr) (c : Nat) (D : List Dn) (a cc n V E q : Int) (m : Nat) (f f' : Int → Option (Int × Int)) (w : World) (hB : DcBk w A D m f) (hm : m ≤ 99) (hF : FOk f q) (hr : rateOk r = true) (hb64 : r < 18446744073709551616) (n1 : -9223372036854775808 ≤ n) (n2 : n ≤ 9223372036854775807) (hO : MvIs f (prodV n r false) a cc n V E f') :
    Calls Tryz.prog 23 #[.agg #[.float .f64 r, .slice A D.length c], .int .i64 a, .int .i64 cc, .int .i64 n] w (MovIs r m f' V E A D w) := by
  have HB := Lib.hid hB
  have HF := Lib.hid hF
  have S0 := Lib.hid ((Blk.new w 58 #[.float .f64 r, .slice A D.length c]).alloc (.cells #[.float .f64 0, .slice none 0 0] 58))
  have T0 : Hid (Blk ((w.alloc (.cells #[.float .f64 r, .slice A D.length c] 58)).alloc (.cells #[.float .f64 0, .slice none 0 0] 58)) (w.heap.size + 1) 58 #[.float .f64 0, .slice none 0 0]) := Lib.hid (Blk.new' (by simp))
  have W0 : Hid (Below w.heap.size w ((w.alloc (.cells #[.float .f64 r, .slice A D.length c] 58)).alloc (.cells #[.float .f64 0, .slice none 0 0] 58))) := Lib.hid (by repeat (first | exact Below.refl _ _ | refine below_alloc_ ?_ _ | refine Below.drew ?_))
  have dl := hB.len
  have lb : w.heap.size ≤ w.heap.size + 1 := Nat.le_succ _
  have HR := Lib.hid hr
  clear hB hF hr
  obtain ⟨t0, t1⟩ := T0.out.c2
  obtain ⟨z0, z1, zl⟩ := small5 T0.out
  obtain ⟨s0, s1⟩ := S0.out.c2
  rcases hO with ⟨h1, rfl, rfl, rfl⟩ | ⟨h1, h2, h3, rfl, rfl, rfl⟩ | ⟨h1, h2, h3, h4, h5, rfl, rfl, rfl⟩ | hO
  · rcases (show isAc a = false ∨ (isAc a = true ∧ isAc cc = false) by cases ha : isAc a <;> cases hc : isAc cc <;> simp_all) with h | ⟨h, h2⟩
    · have H1 := Lib.hid h
      clear h h1
      go_enter Tryz.func23, Tryz.ntmps23
      go_wp2_with (first
        | (go_at_call 44; (with_reducible refine (ris14_v (a := a) _ H1.out).mono ?_); rintro e w9 ⟨rfl, rfl⟩))
      have T9 : Hid (Blk ((w.alloc (.cells #[.float .f64 r, .slice A D.length c] 58)).alloc (.cells #[.float .f64 r, .slice A D.length c] 58)) (w.heap.size + 1) 58 #[.float .f64 r, .slice A D.length c]) := Lib.hid (Blk.new' (by simp))
      have W9 : Hid (Below w.heap.size w ((w.alloc (.cells #[.float .f64 r, .slice A D.length c] 58)).alloc (.cells #[.float .f64 r, .slice A D.length c] 58))) := Lib.hid (by repeat (first | exact Below.refl _ _ | refine below_alloc_ ?_ _ | refine Below.drew ?_))
      exact bodyPost_ret (v := .tuple #[.agg #[.float .f64 r, .slice A D.length c], .int .i64 0, .int .i64 141]) (via_blk (g := w.heap.size + 1) (T := 58) (cs := #[.float .f64 r, .slice A D.length c]) T9.out (fun W' hB => by obtain ⟨c0, c1⟩ := hB.c2; simp [results, Tryz.results23, go_sem, c0, c1])) rfl ⟨A, c, D, rfl, (HB.out.pass W9.out).mono (Nat.le_succ _), .inl ⟨rfl, rfl⟩, W9.out⟩
    · have H1 := Lib.hid h; have H2 := Lib.hid h2
      clear h h1 h2
      go_enter Tryz.func23, Tryz.ntmps23
      go_wp2_with (first
        | (go_at_call 44; (with_reducible refine (ris14_v (a := a) _ H1.out).mono ?_); rintro e w9 ⟨rfl, rfl⟩)
        | (go_at_call 44; (with_reducible refine (ris14_v (a := cc) _ H2.out).mono ?_); rintro e w9 ⟨rfl, rfl⟩))
      have T9 : Hid (Blk ((w.alloc (.cells #[.float .f64 r, .slice A D.length c] 58)).alloc (.cells #[.float .f64 r, .slice A D.length c] 58)) (w.heap.size + 1) 58 #[.float .f64 r, .slice A D.length c]) := Lib.hid (Blk.new' (by simp))
      have W9 : Hid (Below w.heap.size w ((w.alloc (.cells #[.float .f64 r, .slice A D.length c] 58)).alloc (.cells #[.float .f64 r, .slice A D.length c] 58))) := Lib.hid (by repeat (first | exact Below.refl _ _ | refine below_alloc_ ?_ _ | refine Below.drew ?_))
      exact bodyPost_ret (v := .tuple #[.agg #[.float .f64 r, .slice A D.length c], .int .i64 0, .int .i64 141]) (via_blk (g := w.heap.size + 1) (T := 58) (cs := #[.float .f64 r, .slice A D.length c]) T9.out (fun W' hB => by obtain ⟨c0, c1⟩ := hB.c2; simp [results, Tryz.results23, go_sem, c0, c1])) rfl ⟨A, c, D, rfl, (HB.out.pass W9.out).mono (Nat.le_succ _), .inl ⟨rfl, rfl⟩, W9.out⟩
  · have H1 := Lib.hid h1; have H2 := Lib.hid h2
    rcases (show isA n = false ∨ (isA n = true ∧ n = 0) by
      cases hn : isA n
      · exact .inl rfl
      · have := isA_iff.1 hn; rw [hn] at h3; exact .inr ⟨rfl, by rcases h3 with h | h; omega; cases h⟩) with h | ⟨h, h4⟩
    · have H3 := Lib.hid h
      clear h h1 h2 h3
      go_enter Tryz.func23, Tryz.ntmps23
      go_wp2_with (first
        | (go_at_call 44; (with_reducible refine (ris14_v (a := a) _ H1.out).mono ?_); rintro e w9 ⟨rfl, rfl⟩)
        | (go_at_call 44; (with_reducible refine (ris14_v (a := cc) _ H2.out).mono ?_); rintro e w9 ⟨rfl, rfl⟩)
        | (go_at_call 19; (with_reducible refine (ris_v (n := n) _ H3.out).mono ?_); rintro e w9 ⟨rfl, rfl⟩))
      have T9 : Hid (Blk ((w.alloc (.cells #[.float .f64 r, .slice A D.length c] 58)).alloc (.cells #[.float .f64 r, .slice A D.length c] 58)) (w.heap.size + 1) 58 #[.float .f64 r, .slice A D.length c]) := Lib.hid (Blk.new' (by simp))
      have W9 : Hid (Below w.heap.size w ((w.alloc (.cells #[.float .f64 r, .slice A D.length c] 58)).alloc (.cells #[.float .f64 r, .slice A D.length c] 58))) := Lib.hid (by repeat (first | exact Below.refl _ _ | refine below_alloc_ ?_ _ | refine Below.drew ?_))
      exact bodyPost_ret (v := .tuple #[.agg #[.float .f64 r, .slice A D.length c], .int .i64 0, .int .i64 143]) (via_blk (g := w.heap.size + 1) (T := 58) (cs := #[.float .f64 r, .slice A D.length c]) T9.out (fun W' hB => by obtain ⟨c0, c1⟩ := hB.c2; simp [results, Tryz.results23, go_sem, c0, c1])) rfl ⟨A, c, D, rfl, (HB.out.pass W9.out).mono (Nat.le_succ _), .inl ⟨rfl, rfl⟩, W9.out⟩
    · have H3 := Lib.hid h
      have e1 : (n == 0) = true := by simpa using h4
      clear h h1 h2 h3 h4
      go_enter Tryz.func23, Tryz.ntmps23
      go_wp2_with (first
        | (go_at_call 44; (with_reducible refine (ris14_v (a := a) _ H1.out).mono ?_); rintro e w9 ⟨rfl, rfl⟩)
        | (go_at_call 44; (with_reducible refine (ris14_v (a := cc) _ H2.out).mono ?_); rintro e w9 ⟨rfl, rfl⟩)
        | (go_at_call 19; (with_reducible refine (ris_v (n := n) _ H3.out).mono ?_); rintro e w9 ⟨rfl, rfl⟩))
      have T9 : Hid (Blk ((w.alloc (.cells #[.float .f64 r, .slice A D.length c] 58)).alloc (.cells #[.float .f64 r, .slice A D.length c] 58)) (w.heap.size + 1) 58 #[.float .f64 r, .slice A D.length c]) := Lib.hid (Blk.new' (by simp))
      have W9 : Hid (Below w.heap.size w ((w.alloc (.cells #[.float .f64 r, .slice A D.length c] 58)).alloc (.cells #[.float .f64 r, .slice A D.length c] 58))) := Lib.hid (by repeat (first | exact Below.refl _ _ | refine below_alloc_ ?_ _ | refine Below.drew ?_))
      exact bodyPost_ret (v := .tuple #[.agg #[.float .f64 r, .slice A D.length c], .int .i64 0, .int .i64 143]) (via_blk (g := w.heap.size + 1) (T := 58) (cs := #[.float .f64 r, .slice A D.length c]) T9.out (fun W' hB => by obtain ⟨c0, c1⟩ := hB.c2; simp [results, Tryz.results23, go_sem, c0, c1])) rfl ⟨A, c, D, rfl, (HB.out.pass W9.out).mono (Nat.le_succ _), .inl ⟨rfl, rfl⟩, W9.out⟩
  · have H1 := Lib.hid h1; have H2 := Lib.hid h2; have H3 := Lib.hid h4
    have e1 : (n == 0) = false := by simp; omega
    have e2 : (a == cc) = true := by simpa using h5
    clear h1 h2 h3 h4 h5
    go_enter Tryz.func23, Tryz.ntmps23
    go_wp2_with (first
      | (go_at_call 44; (with_reducible refine (ris14_v (a := a) _ H1.out).mono ?_); rintro e w9 ⟨rfl, rfl⟩)
      | (go_at_call 44; (with_reducible refine (ris14_v (a := cc) _ H2.out).mono ?_); rintro e w9 ⟨rfl, rfl⟩)
      | (go_at_call 19; (with_reducible refine (ris_v (n := n) _ H3.out).mono ?_); rintro e w9 ⟨rfl, rfl⟩))
    have T9 : Hid (Blk ((w.alloc (.cells #[.float .f64 r, .slice A D.length c] 58)).alloc (.cells #[.float .f64 r, .slice A D.length c] 58)) (w.heap.size + 1) 58 #[.float .f64 r, .slice A D.length c]) := Lib.hid (Blk.new' (by simp))
    have W9 : Hid (Below w.heap.size w ((w.alloc (.cells #[.float .f64 r, .slice A D.length c] 58)).alloc (.cells #[.float .f64 r, .slice A D.length c] 58))) := Lib.hid (by repeat (first | exact Below.refl _ _ | refine below_alloc_ ?_ _ | refine Below.drew ?_))
    exact bodyPost_ret (v := .tuple #[.agg #[.float .f64 r, .slice A D.length c], .int .i64 0, .int .i64 144]) (via_blk (g := w.heap.size + 1) (T := 58) (cs := #[.float .f64 r, .slice A D.length c]) T9.out (fun W' hB => by obtain ⟨c0, c1⟩ := hB.c2; simp [results, Tryz.results23, go_sem, c0, c1])) rfl ⟨A, c, D, rfl, (HB.out.pass W9.out).mono (Nat.le_succ _), .inl ⟨rfl, rfl⟩, W9.out⟩
  · have hmv : mvOk a cc n := by
      rcases hO with ⟨h, _⟩ | ⟨_, h, _⟩ | ⟨_, h, _⟩ | ⟨_, _, h, _⟩ | ⟨_, _, h, _⟩ <;> exact h
    obtain ⟨o1, o2, o3, o4, o5⟩ := hmv
    have H1 := Lib.hid o1; have H2 := Lib.hid o2; have H3 := Lib.hid o4
    have e1 : (n == 0) = false := by simp; omega
    have e2 : (a == cc) = false := by simpa using o5
    have HNE := Lib.hid o5
    obtain ⟨a0, a1⟩ := isAc_iff.1 o1
    obtain ⟨c0', c1'⟩ := isAc_iff.1 o2
    obtain ⟨g1, g2, g3⟩ := HB.out.doc a a0
    obtain ⟨g4, g5, g6⟩ := HB.out.doc cc c0'
    have HFE := Lib.hid (show FeeIs n r (prodV n r false) (prodE n r false) from .inr (.inr ⟨o4, HR.out, rfl, rfl⟩))
    have hfb := fee_bd HR.out o4
    obtain ⟨fee, hfee⟩ : ∃ fee, prodV n r false = fee := ⟨_, rfl⟩
    obtain ⟨FE, hFE⟩ : ∃ FE, prodE n r false = FE := ⟨_, rfl⟩
    rw [hfee] at hO HFE hfb
    rw [hFE] at HFE
    obtain ⟨fb0, fb1⟩ := hfb
    obtain ⟨nb0, nb1⟩ := isA_iff.1 o4
    clear o1 o2 o4 o5 hfee hFE
    obtain ⟨ya, hya⟩ : ∃ b, (f cc).isSome = b := ⟨_, rfl⟩
    obtain ⟨yv, hyv⟩ : ∃ v, ((f cc).getD (0, 0)).1 = v := ⟨_, rfl⟩
    obtain ⟨xv, hxv⟩ : ∃ v, ((f a).getD (0, 0)).1 = v := ⟨_, rfl⟩
    have KC1 := Lib.hid (g4.trans hya); have KC2 := Lib.hid (g5.trans hyv); have KA2 := Lib.hid (g2.trans hxv)
    have xb : 0 ≤ xv ∧ xv ≤ 1000000000000000 := by
      rw [← hxv]
      cases hf : f a with
      | none => simp
      | some p => exact isA_iff.1 (HF.out a p hf).2.1
    have yb : 0 ≤ yv ∧ yv ≤ 1000000000000000 := by
      rw [← hyv]
      cases hf : f cc with
      | none => simp
      | some p => exact isA_iff.1 (HF.out cc p hf).2.1
    obtain ⟨x0, x1⟩ := xb
    obtain ⟨y0, y1⟩ := yb
    clear g2 g3 g4 g5 g6
    rcases hO with ⟨_, h1, rfl, rfl, rfl⟩ | ⟨x, _, h1, h2, rfl, rfl, rfl⟩ | ⟨x, _, h1, h2, h3, rfl, rfl, rfl⟩ | ⟨x, y, _, h1, h2, h3, h4, rfl, rfl, rfl⟩ | ⟨x, y, _, h1, h2, h3, h4, rfl, rfl, rfl⟩
    · have KA1 := Lib.hid (show docOk D a = false by rw [g1, h1]; rfl)
      clear g1 h1 hya hyv hxv
      go_enter Tryz.func23, Tryz.ntmps23
      go_wp2_with (first
        | (go_at_call 44; (with_reducible refine (ris14_v (a := a) _ H1.out).mono ?_); rintro e w9 ⟨rfl, rfl⟩)
        | (go_at_call 44; (with_reducible refine (ris14_v (a := cc) _ H2.out).mono ?_); rintro e w9 ⟨rfl, rfl⟩)
        | (go_at_call 19; (with_reducible refine (ris_v (n := n) _ H3.out).mono ?_); rintro e w9 ⟨rfl, rfl⟩)
        | (go_at_call 45; (with_reducible refine (rfee_any n r fee FE _ HFE.out n1 n2 hb64).mono ?_); rintro e w1 ⟨rfl, hb1⟩; have W1 := Lib.hid (below_then W0.out hb1); have T1 := Lib.hid (blk_pass T0.out (Below.refl _ _) hb1); have S1 := Lib.hid (blk_pass S0.out (Below.refl _ _) hb1); clear hb1 t0 t1 z0 z1 zl s0 s1; obtain ⟨t0, t1⟩ := T1.out.c2; obtain ⟨z0, z1, zl⟩ := small5 T1.out; obtain ⟨s0, s1⟩ := S1.out.c2; have sl := S1.out.lt)
        | (go_at_call 46; (with_reducible refine (rhas_v (a := a) _ (HB.out.pass W1.out).rd (by omega) HB.out.ok KA2.out KA1.out rfl).mono ?_); rintro e w2 ⟨rfl, hb2⟩; have W2 := Lib.hid (below_then W1.out hb2); have T2 := Lib.hid (blk_pass T1.out (Below.refl _ _) hb2); have S2 := Lib.hid (blk_pass S1.out (Below.refl _ _) hb2); clear hb2 t0 t1 z0 z1 zl s0 s1; obtain ⟨t0, t1⟩ := T2.out.c2; obtain ⟨z0, z1, zl⟩ := small5 T2.out; obtain ⟨s0, s1⟩ := S2.out.c2; have sl := S2.out.lt)
        | (go_at_call 46; (with_reducible refine (rhas_v (a := cc) _ (HB.out.pass W2.out).rd (by omega) HB.out.ok KC2.out KC1.out rfl).mono ?_); rintro e w3 ⟨rfl, hb3⟩; have W3 := Lib.hid (below_then W2.out hb3); have T3 := Lib.hid (blk_pass T2.out (Below.refl _ _) hb3); have S3 := Lib.hid (blk_pass S2.out (Below.refl _ _) hb3); clear hb3 t0 t1 z0 z1 zl s0 s1; obtain ⟨t0, t1⟩ := T3.out.c2; obtain ⟨z0, z1, zl⟩ := small5 T3.out; obtain ⟨s0, s1⟩ := S3.out.c2; have sl := S3.out.lt))
      have T9 := Lib.hid (blk_upd (i := 1) (u := .slice A D.length c) (blk_upd (i := 0) (u := .float .f64 r) T3.out rfl) rfl)
      have W9 := Lib.hid (below_set_ (below_set_ W3.out (p := ⟨w.heap.size + 1, 0, none⟩) lb (.float .f64 r)) (p := ⟨w.heap.size + 1, 1, none⟩) lb (.slice A D.length c))
      exact bodyPost_ret (v := .tuple #[.agg #[.float .f64 r, .slice A D.length c], .int .i64 0, .int .i64 145]) (via_blk (g := w.heap.size + 1) (T := 58) (cs := #[.float .f64 r, .slice A D.length c]) T9.out (fun W' hB => by obtain ⟨c0, c1⟩ := hB.c2; simp [results, Tryz.results23, go_sem, c0, c1])) rfl ⟨A, c, D, rfl, (HB.out.pass W9.out).mono (Nat.le_succ _), .inl ⟨rfl, rfl⟩, W9.out⟩
    · have KA1 := Lib.hid (show docOk D a = true by rw [g1, h1]; rfl)
      rw [h1] at hxv
      have hx2 : x.1 = xv := hxv
      have d1 : decide (xv - n < fee) = true := by simp; omega
      clear g1 h1 hya hyv hxv hx2 h2
      go_enter Tryz.func23, Tryz.ntmps23
      go_wp2_with (first
        | (go_at_call 44; (with_reducible refine (ris14_v (a := a) _ H1.out).mono ?_); rintro e w9 ⟨rfl, rfl⟩)
        | (go_at_call 44; (with_reducible refine (ris14_v (a := cc) _ H2.out).mono ?_); rintro e w9 ⟨rfl, rfl⟩)
        | (go_at_call 19; (with_reducible refine (ris_v (n := n) _ H3.out).mono ?_); rintro e w9 ⟨rfl, rfl⟩)
        | (go_at_call 45; (with_reducible refine (rfee_any n r fee FE _ HFE.out n1 n2 hb64).mono ?_); rintro e w1 ⟨rfl, hb1⟩; have W1 := Lib.hid (below_then W0.out hb1); have T1 := Lib.hid (blk_pass T0.out (Below.refl _ _) hb1); have S1 := Lib.hid (blk_pass S0.out (Below.refl _ _) hb1); clear hb1 t0 t1 z0 z1 zl s0 s1; obtain ⟨t0, t1⟩ := T1.out.c2; obtain ⟨z0, z1, zl⟩ := small5 T1.out; obtain ⟨s0, s1⟩ := S1.out.c2; have sl := S1.out.lt)
        | (go_at_call 46; (with_reducible refine (rhas_v (a := a) _ (HB.out.pass W1.out).rd (by omega) HB.out.ok KA2.out KA1.out rfl).mono ?_); rintro e w2 ⟨rfl, hb2⟩; have W2 := Lib.hid (below_then W1.out hb2); have T2 := Lib.hid (blk_pass T1.out (Below.refl _ _) hb2); have S2 := Lib.hid (blk_pass S1.out (Below.refl _ _) hb2); clear hb2 t0 t1 z0 z1 zl s0 s1; obtain ⟨t0, t1⟩ := T2.out.c2; obtain ⟨z0, z1, zl⟩ := small5 T2.out; obtain ⟨s0, s1⟩ := S2.out.c2; have sl := S2.out.lt)
        | (go_at_call 46; (with_reducible refine (rhas_v (a := cc) _ (HB.out.pass W2.out).rd (by omega) HB.out.ok KC2.out KC1.out rfl).mono ?_); rintro e w3 ⟨rfl, hb3⟩; have W3 := Lib.hid (below_then W2.out hb3); have T3 := Lib.hid (blk_pass T2.out (Below.refl _ _) hb3); have S3 := Lib.hid (blk_pass S2.out (Below.refl _ _) hb3); clear hb3 t0 t1 z0 z1 zl s0 s1; obtain ⟨t0, t1⟩ := T3.out.c2; obtain ⟨z0, z1, zl⟩ := small5 T3.out; obtain ⟨s0, s1⟩ := S3.out.c2; have sl := S3.out.lt))
      have T9 := Lib.hid (blk_upd (i := 1) (u := .slice A D.length c) (blk_upd (i := 0) (u := .float .f64 r) T3.out rfl) rfl)
      have W9 := Lib.hid (below_set_ (below_set_ W3.out (p := ⟨w.heap.size + 1, 0, none⟩) lb (.float .f64 r)) (p := ⟨w.heap.size + 1, 1, none⟩) lb (.slice A D.length c))
      exact bodyPost_ret (v := .tuple #[.agg #[.float .f64 r, .slice A D.length c], .int .i64 0, .int .i64 146]) (via_blk (g := w.heap.size + 1) (T := 58) (cs := #[.float .f64 r, .slice A D.length c]) T9.out (fun W' hB => by obtain ⟨c0, c1⟩ := hB.c2; simp [results, Tryz.results23, go_sem, c0, c1])) rfl ⟨A, c, D, rfl, (HB.out.pass W9.out).mono (Nat.le_succ _), .inl ⟨rfl, rfl⟩, W9.out⟩
    · have KA1 := Lib.hid (show docOk D a = true by rw [g1, h1]; rfl)
      rw [h1] at hxv
      have hx2 : x.1 = xv := hxv
      have d1 : decide (xv - n < fee) = false := by simp; omega
      rw [h3] at hya hyv
      have hya2 : false = ya := hya
      subst hya2
      clear g1 h1 hya hyv hxv hx2 h2 h3
      go_enter Tryz.func23, Tryz.ntmps23
      go_wp2_with (first
        | (go_at_call 44; (with_reducible refine (ris14_v (a := a) _ H1.out).mono ?_); rintro e w9 ⟨rfl, rfl⟩)
        | (go_at_call 44; (with_reducible refine (ris14_v (a := cc) _ H2.out).mono ?_); rintro e w9 ⟨rfl, rfl⟩)
        | (go_at_call 19; (with_reducible refine (ris_v (n := n) _ H3.out).mono ?_); rintro e w9 ⟨rfl, rfl⟩)
        | (go_at_call 45; (with_reducible refine (rfee_any n r fee FE _ HFE.out n1 n2 hb64).mono ?_); rintro e w1 ⟨rfl, hb1⟩; have W1 := Lib.hid (below_then W0.out hb1); have T1 := Lib.hid (blk_pass T0.out (Below.refl _ _) hb1); have S1 := Lib.hid (blk_pass S0.out (Below.refl _ _) hb1); clear hb1 t0 t1 z0 z1 zl s0 s1; obtain ⟨t0, t1⟩ := T1.out.c2; obtain ⟨z0, z1, zl⟩ := small5 T1.out; obtain ⟨s0, s1⟩ := S1.out.c2; have sl := S1.out.lt)
        | (go_at_call 46; (with_reducible refine (rhas_v (a := a) _ (HB.out.pass W1.out).rd (by omega) HB.out.ok KA2.out KA1.out rfl).mono ?_); rintro e w2 ⟨rfl, hb2⟩; have W2 := Lib.hid (below_then W1.out hb2); have T2 := Lib.hid (blk_pass T1.out (Below.refl _ _) hb2); have S2 := Lib.hid (blk_pass S1.out (Below.refl _ _) hb2); clear hb2 t0 t1 z0 z1 zl s0 s1; obtain ⟨t0, t1⟩ := T2.out.c2; obtain ⟨z0, z1, zl⟩ := small5 T2.out; obtain ⟨s0, s1⟩ := S2.out.c2; have sl := S2.out.lt)
        | (go_at_call 46; (with_reducible refine (rhas_v (a := cc) _ (HB.out.pass W2.out).rd (by omega) HB.out.ok KC2.out KC1.out rfl).mono ?_); rintro e w3 ⟨rfl, hb3⟩; have W3 := Lib.hid (below_then W2.out hb3); have T3 := Lib.hid (blk_pass T2.out (Below.refl _ _) hb3); have S3 := Lib.hid (blk_pass S2.out (Below.refl _ _) hb3); clear hb3 t0 t1 z0 z1 zl s0 s1; obtain ⟨t0, t1⟩ := T3.out.c2; obtain ⟨z0, z1, zl⟩ := small5 T3.out; obtain ⟨s0, s1⟩ := S3.out.c2; have sl := S3.out.lt))
      have T9 := Lib.hid (blk_upd (i := 1) (u := .slice A D.length c) (blk_upd (i := 0) (u := .float .f64 r) T3.out rfl) rfl)
      have W9 := Lib.hid (below_set_ (below_set_ W3.out (p := ⟨w.heap.size + 1, 0, none⟩) lb (.float .f64 r)) (p := ⟨w.heap.size + 1, 1, none⟩) lb (.slice A D.length c))
      exact bodyPost_ret (v := .tuple #[.agg #[.float .f64 r, .slice A D.length c], .int .i64 0, .int .i64 147]) (via_blk (g := w.heap.size + 1) (T := 58) (cs := #[.float .f64 r, .slice A D.length c]) T9.out (fun W' hB => by obtain ⟨c0, c1⟩ := hB.c2; simp [results, Tryz.results23, go_sem, c0, c1])) rfl ⟨A, c, D, rfl, (HB.out.pass W9.out).mono (Nat.le_succ _), .inl ⟨rfl, rfl⟩, W9.out⟩
    · have KA1 := Lib.hid (show docOk D a = true by rw [g1, h1]; rfl)
      rw [h1] at hxv
      have hx2 : x.1 = xv := hxv
      have d1 : decide (xv - n < fee) = false := by simp; omega
      rw [h3] at hya hyv
      have hya2 : true = ya := hya
      have hyv2 : y.1 = yv := hyv
      subst hya2
      rw [hyv2] at h4
      have H4 := Lib.hid h4
      clear g1 h1 hya hyv hxv hx2 hyv2 h2 h3 h4
      go_enter Tryz.func23, Tryz.ntmps23
      go_wp2_with (first
        | (go_at_call 44; (with_reducible refine (ris14_v (a := a) _ H1.out).mono ?_); rintro e w9 ⟨rfl, rfl⟩)
        | (go_at_call 44; (with_reducible refine (ris14_v (a := cc) _ H2.out).mono ?_); rintro e w9 ⟨rfl, rfl⟩)
        | (go_at_call 19; (with_reducible refine (ris_v (n := n) _ H3.out).mono ?_); rintro e w9 ⟨rfl, rfl⟩)
        | (go_at_call 45; (with_reducible refine (rfee_any n r fee FE _ HFE.out n1 n2 hb64).mono ?_); rintro e w1 ⟨rfl, hb1⟩; have W1 := Lib.hid (below_then W0.out hb1); have T1 := Lib.hid (blk_pass T0.out (Below.refl _ _) hb1); have S1 := Lib.hid (blk_pass S0.out (Below.refl _ _) hb1); clear hb1 t0 t1 z0 z1 zl s0 s1; obtain ⟨t0, t1⟩ := T1.out.c2; obtain ⟨z0, z1, zl⟩ := small5 T1.out; obtain ⟨s0, s1⟩ := S1.out.c2; have sl := S1.out.lt)
        | (go_at_call 46; (with_reducible refine (rhas_v (a := a) _ (HB.out.pass W1.out).rd (by omega) HB.out.ok KA2.out KA1.out rfl).mono ?_); rintro e w2 ⟨rfl, hb2⟩; have W2 := Lib.hid (below_then W1.out hb2); have T2 := Lib.hid (blk_pass T1.out (Below.refl _ _) hb2); have S2 := Lib.hid (blk_pass S1.out (Below.refl _ _) hb2); clear hb2 t0 t1 z0 z1 zl s0 s1; obtain ⟨t0, t1⟩ := T2.out.c2; obtain ⟨z0, z1, zl⟩ := small5 T2.out; obtain ⟨s0, s1⟩ := S2.out.c2; have sl := S2.out.lt)
        | (go_at_call 46; (with_reducible refine (rhas_v (a := cc) _ (HB.out.pass W2.out).rd (by omega) HB.out.ok KC2.out KC1.out rfl).mono ?_); rintro e w3 ⟨rfl, hb3⟩; have W3 := Lib.hid (below_then W2.out hb3); have T3 := Lib.hid (blk_pass T2.out (Below.refl _ _) hb3); have S3 := Lib.hid (blk_pass S2.out (Below.refl _ _) hb3); clear hb3 t0 t1 z0 z1 zl s0 s1; obtain ⟨t0, t1⟩ := T3.out.c2; obtain ⟨z0, z1, zl⟩ := small5 T3.out; obtain ⟨s0, s1⟩ := S3.out.c2; have sl := S3.out.lt)
        | (go_at_call 19; (with_reducible refine (ris_v (n := yv + n) _ H4.out).mono ?_); rintro e w9 ⟨rfl, rfl⟩))
      have T9 := Lib.hid (blk_upd (i := 1) (u := .slice A D.length c) (blk_upd (i := 0) (u := .float .f64 r) T3.out rfl) rfl)
      have W9 := Lib.hid (below_set_ (below_set_ W3.out (p := ⟨w.heap.size + 1, 0, none⟩) lb (.float .f64 r)) (p := ⟨w.heap.size + 1, 1, none⟩) lb (.slice A D.length c))
      exact bodyPost_ret (v := .tuple #[.agg #[.float .f64 r, .slice A D.length c], .int .i64 0, .int .i64 148]) (via_blk (g := w.heap.size + 1) (T := 58) (cs := #[.float .f64 r, .slice A D.length c]) T9.out (fun W' hB => by obtain ⟨c0, c1⟩ := hB.c2; simp [results, Tryz.results23, go_sem, c0, c1])) rfl ⟨A, c, D, rfl, (HB.out.pass W9.out).mono (Nat.le_succ _), .inl ⟨rfl, rfl⟩, W9.out⟩
    · have KA1 := Lib.hid (show docOk D a = true by rw [g1, h1]; rfl)
      have HD' := Lib.hid (docF_move (fee := V) (n := n) HB.out.doc a0 HNE.out h1 h3)
      rw [h1] at hxv
      have hx2 : x.1 = xv := hxv
      have d1 : decide (xv - n < V) = false := by simp; omega
      rw [h3] at hya hyv
      have hya2 : true = ya := hya
      have hyv2 : y.1 = yv := hyv
      subst hya2
      rw [hyv2] at h4
      have H4 := Lib.hid h4
      obtain ⟨i0, hi0, hz0, hz1, hz2⟩ := info_parts info_dn
      clear g1 h1 hya hyv hxv hx2 hyv2 h2 h3 h4
      go_enter Tryz.func23, Tryz.ntmps23
      go_wp2_with (first
        | (go_at_call 44; (with_reducible refine (ris14_v (a := a) _ H1.out).mono ?_); rintro e w9 ⟨rfl, rfl⟩)
        | (go_at_call 44; (with_reducible refine (ris14_v (a := cc) _ H2.out).mono ?_); rintro e w9 ⟨rfl, rfl⟩)
        | (go_at_call 19; (with_reducible refine (ris_v (n := n) _ H3.out).mono ?_); rintro e w9 ⟨rfl, rfl⟩)
        | (go_at_call 45; (with_reducible refine (rfee_any n r V FE _ HFE.out n1 n2 hb64).mono ?_); rintro e w1 ⟨rfl, hb1⟩; have W1 := Lib.hid (below_then W0.out hb1); have T1 := Lib.hid (blk_pass T0.out (Below.refl _ _) hb1); have S1 := Lib.hid (blk_pass S0.out (Below.refl _ _) hb1); clear hb1 t0 t1 z0 z1 zl s0 s1; obtain ⟨t0, t1⟩ := T1.out.c2; obtain ⟨z0, z1, zl⟩ := small5 T1.out; obtain ⟨s0, s1⟩ := S1.out.c2; have sl := S1.out.lt)
        | (go_at_call 46; (with_reducible refine (rhas_v (a := a) _ (HB.out.pass W1.out).rd (by omega) HB.out.ok KA2.out KA1.out rfl).mono ?_); rintro e w2 ⟨rfl, hb2⟩; have W2 := Lib.hid (below_then W1.out hb2); have T2 := Lib.hid (blk_pass T1.out (Below.refl _ _) hb2); have S2 := Lib.hid (blk_pass S1.out (Below.refl _ _) hb2); clear hb2 t0 t1 z0 z1 zl s0 s1; obtain ⟨t0, t1⟩ := T2.out.c2; obtain ⟨z0, z1, zl⟩ := small5 T2.out; obtain ⟨s0, s1⟩ := S2.out.c2; have sl := S2.out.lt)
        | (go_at_call 46; (with_reducible refine (rhas_v (a := cc) _ (HB.out.pass W2.out).rd (by omega) HB.out.ok KC2.out KC1.out rfl).mono ?_); rintro e w3 ⟨rfl, hb3⟩; have W3 := Lib.hid (below_then W2.out hb3); have T3 := Lib.hid (blk_pass T2.out (Below.refl _ _) hb3); have S3 := Lib.hid (blk_pass S2.out (Below.refl _ _) hb3); clear hb3 t0 t1 z0 z1 zl s0 s1; obtain ⟨t0, t1⟩ := T3.out.c2; obtain ⟨z0, z1, zl⟩ := small5 T3.out; obtain ⟨s0, s1⟩ := S3.out.c2; have sl := S3.out.lt)
        | (go_at_call 19; (with_reducible refine (ris_v (n := yv + n) _ H4.out).mono ?_); rintro e w9 ⟨rfl, rfl⟩)
        | (at_builtin
           refine wpList_append_any _ rfl (.tmp 79) (.tmp 81) 56 rfl (w.heap.size + 1 + 1) 90 i0 _ 4 32 Tryz.underlying56 hi0 hz0 hz1 hz2 rfl (by omega) (.slice (some ⟨w3.heap.size, 0, none⟩) 0 0) 0 [] (by rfl) (own_empty4 (by rfl) zl) _ A D.length c (D.flatMap Dn.cells) (by rfl) ((HB.out.pass W3.out).rd.al _) (one_dn D) (by simp only [maxLen]; omega) (by omega) (by simp; omega) ?_
           intro v1 w4 hown hg1 hat1
           simp only [Nat.zero_add, List.nil_append] at hown
           have W4 := Lib.hid ((below_alloc_ W3.out _).grown hg1 (by simp; omega) (fun g hg => by simp [Value.ownBlock] at hg; have := W3.out.size; omega))
           have S4 := Lib.hid (Blk.grown (S3.out.alloc _) hg1 (fun e => by simp [Value.ownBlock] at e; omega))
           have T4 := Lib.hid (Blk.grown (T3.out.alloc _) hg1 (fun e => by simp [Value.ownBlock] at e; omega))
           have O4 := Lib.hid hown
           clear hown hg1 hat1 t0 t1 z0 z1 zl s0 s1 sl
           obtain ⟨t0, t1⟩ := T4.out.c2
           obtain ⟨z0, z1, zl⟩ := small5 T4.out
           obtain ⟨s0, s1⟩ := S4.out.c2
           have sl := S4.out.lt)
        | (at_builtin
           refine wpList_append_any _ rfl (.tmp 82) (.tmp 88) 56 rfl (w.heap.size + 1 + 1) 90 i0 _ 4 32 Tryz.underlying56 hi0 hz0 hz1 hz2 rfl (by omega) v1 D.length _ (by rfl) (O4.out.alloc _) (w4.heap.size + 1) (some ⟨w4.heap.size, 0, none⟩) 1 1 (Dn.cells ⟨a, cc, n, V⟩) (by rfl) (reads_cells rfl rfl) (by simp [Dn.cells, Value.oneCell']) (by simp only [maxLen]; omega) (by omega) (by simp; omega) ?_
           intro v2 w5 hown hg1 hat1
           obtain ⟨A2, c2, rfl, hrd, hfr⟩ := own_shape hown
           have W5 := Lib.hid (Below.grown (below_alloc_ W4.out _) hg1 (by have := W4.out.size; simp; omega) (fun g hg => by have := (O4.out.lt g hg).1; omega))
           have S5 := Lib.hid (Blk.grown (S4.out.alloc _) hg1 (fun e => by have := (O4.out.lt _ e.symm).1; omega))
           have T5 := Lib.hid (Blk.grown (T4.out.alloc _) hg1 (fun e => by have := (O4.out.lt _ e.symm).1; omega))
           have R5 := Lib.hid hrd
           have F5 := Lib.hid hfr
           clear hown hg1 hat1 hrd hfr t0 t1 z0 z1 zl s0 s1 sl
           obtain ⟨t0, t1⟩ := T5.out.c2
           obtain ⟨z0, z1, zl⟩ := small5 T5.out
           obtain ⟨s0, s1⟩ := S5.out.c2
           have sl := S5.out.lt
           have y1' := S5.out.frozen 1))
      obtain ⟨hT, hl, hO, hW⟩ := app_end (c2 := c2) HB.out (x := ⟨a, cc, n, V⟩) ⟨nb0, nb1, fb0, Int.le_trans fb1 nb1⟩ HD'.out S5.out T5.out W5.out R5.out F5.out
      exact bodyPost_ret (v := .tuple #[.agg #[.float .f64 r, .slice A2 (D.length + 1) c2], .int .i64 V, .int .i64 0]) (via_blk (g := w.heap.size + 1) (T := 58) (cs := #[.float .f64 r, .slice A2 (D.length + 1) c2]) hT (fun W' hB => by obtain ⟨c0, c1⟩ := hB.c2; simp [results, Tryz.results23, go_sem, c0, c1])) rfl ⟨A2, c2, _, by rw [hl], hO, .inr (fun x hx => by have := F5.out x hx; omega), hW⟩
end Go.Proofs.YtjhhpcjnhjbpdaaGreat
