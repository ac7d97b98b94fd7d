/- The document's book: Open. -/
import Derived.Test.YtjhhpcjnhjbpdaaGreatDcH
set_option linter.unusedSimpArgs false
set_option linter.unusedVariables false
namespace Go.Proofs.YtjhhpcjnhjbpdaaGreat
open Go.RowKit Mo
/-- what was done makes these accounts -/
def DocF (D : List Dn) (f : Int → Option (Int × Int)) : Prop := ∀ a, 0 ≤ a → docOk D a = (f a).isSome ∧ docN D a = ((f a).getD (0, 0)).1 ∧ docP D a = ((f a).getD (0, 0)).2
theorem docF_nil : DocF [] (fun _ => none) := fun _ _ => ⟨rfl, rfl, rfl⟩
theorem docF_open {D : List Dn} {f : Int → Option (Int × Int)} (h : DocF D f) {a n : Int} (ha : 0 ≤ a) (hn : (f a).isSome = false) : DocF (D ++ [⟨-1, a, n, 0⟩]) (fput f a (n, 0)) := by
  intro b hb
  obtain ⟨h1, h2, h3⟩ := h b hb
  rw [docOk_snoc, docN_snoc, docP_snoc]
  simp only [stN]
  unfold fput
  by_cases e : b = a
  · subst e
    have hz : f b = none := by cases hf : f b with
      | none => rfl
      | some v => rw [hf] at hn; cases hn
    rw [hz] at h2 h3
    rw [if_pos rfl, if_pos rfl, if_neg (by omega), if_neg (by omega), h2, h3]
    simp
  · rw [if_neg e, if_neg (Ne.symm e), if_neg (by omega), if_neg (by omega), h1, h2, h3]
    refine ⟨?_, by omega, by omega⟩
    have : (a == b) = false := by simpa using Ne.symm e
    rw [this]; simp
theorem docF_move {D : List Dn} {f : Int → Option (Int × Int)} (h : DocF D f) {a c n fee : Int} {p q : Int × Int} (ha : 0 ≤ a) (hac : a ≠ c) (hp : f a = some p) (hq : f c = some q) : DocF (D ++ [⟨a, c, n, fee⟩]) (fput (fput f a (p.1 - n - fee, p.2 + fee)) c (q.1 + n, q.2)) := by
  intro b hb
  obtain ⟨h1, h2, h3⟩ := h b hb
  rw [docOk_snoc, docN_snoc, docP_snoc]
  simp only [stN]
  unfold fput
  have hd : decide (a < 0) = false := by simp; omega
  rw [hd]
  by_cases e : b = c
  · subst e
    rw [hq] at h1 h2 h3
    rw [if_pos rfl, if_pos rfl, if_neg hac, if_neg hac, h1, h2, h3]
    simp
  · by_cases e2 : b = a
    · subst e2
      rw [hp] at h1 h2 h3
      rw [if_neg e, if_pos rfl, if_neg (Ne.symm e), if_pos rfl, if_pos rfl, h1, h2, h3]
      simp
      omega
    · rw [if_neg e, if_neg e2, if_neg (Ne.symm e), if_neg (Ne.symm e2), if_neg (Ne.symm e2), h1, h2, h3]
      simp
theorem ris14_any (a : Int) (w : World) : Calls Tryz.prog 44 #[.int .i64 a] w fun e w' => e = .returned (.bool (isAc a)) ∧ w = w' := by
  have hh : (decide (0 ≤ a) = false ∧ isAc a = false) ∨ (decide (0 ≤ a) = true ∧ decide (a < 4096) = false ∧ isAc a = false) ∨ (decide (0 ≤ a) = true ∧ decide (a < 4096) = true ∧ isAc a = true) := by
    unfold isAc
    cases decide (0 ≤ a) <;> cases decide (a < 4096) <;> simp
  rcases hh with ⟨h1, h2⟩ | ⟨h1, h3, h2⟩ | ⟨h1, h3, h2⟩
  all_goals
    rw [h2]
    clear h2
    go_enter Tryz.func44, Tryz.ntmps44
    go_wp2_with fail
    go_ret
    exact ⟨rfl, rfl⟩
theorem ris14_v {a : Int} {b : Bool} (w : World) (h : isAc a = b) : Calls Tryz.prog 44 #[.int .i64 a] w fun e w' => e = .returned (.bool b) ∧ w = w' := by rw [← h]; exact ris14_any a w
theorem ris_v {n : Int} {b : Bool} (w : World) (h : isA n = b) : Calls Tryz.prog 19 #[.int .i64 n] w fun e w' => e = .returned (.bool b) ∧ w = w' := by rw [← h]; exact ris_any n w
theorem rhas_v {r : Nat} {A : Option Addr} {c : Nat} {D : List Dn} {a : Int} {n p : Int} {b : Bool} (w : World) (ha : Reads w w.heap.size 4 A D.length (D.flatMap Dn.cells)) (hl : D.length ≤ 100) (hok : ∀ x ∈ D, Dn.ok x) (hn : docN D a = n) (hb : docOk D a = b) (hp : docP D a = p) :
    Calls Tryz.prog 46 #[.agg #[.float .f64 r, .slice A D.length c], .int .i64 a] w fun e w' => e = .returned (.tuple #[.int .i64 n, .bool b, .int .i64 p]) ∧ Below w.heap.size w w' := by rw [← hn, ← hb, ← hp]; exact rhas_d r A c D a w ha hl hok
theorem info_dn : (Tryz.prog.info? 90).map (fun i => (i.zero, i.size, i.bytes)) = some (some (.agg #[.int .i64 0, .int .i64 0, .int .i64 0, .int .i64 0]), 4, 32) := by kernel_rfl
theorem one_dn (l : List Dn) : ∀ u ∈ l.flatMap Dn.cells, u.oneCell' = true := by
  intro u hu
  obtain ⟨x, _, hx⟩ := List.mem_flatMap.1 hu
  simp [Dn.cells] at hx
  rcases hx with rfl | rfl | rfl | rfl <;> rfl
theorem own_empty4 {w : World} {e : TypeId} {base b : Nat} (hb : w.heap.size = b) (h : base ≤ b) : (w.alloc (.cells #[] e)).ownsRow base e 4 (.slice (some ⟨b, 0, none⟩) 0 0) 0 [] := by
  subst hb
  exact World.ownsRow_made w #[] 0 h (by simp [maxLen]) rfl
/-- a book of the document's -/
structure DcBk (w : World) (A : Option Addr) (D : List Dn) (m : Nat) (f : Int → Option (Int × Int)) : Prop where
  rd : Reads w w.heap.size 4 A D.length (D.flatMap Dn.cells)
  ok : ∀ x ∈ D, Dn.ok x
  doc : DocF D f
  len : D.length ≤ m
theorem DcBk.pass {w w' : World} {A : Option Addr} {D : List Dn} {m : Nat} {f : Int → Option (Int × Int)} (h : DcBk w A D m f) (hb : Below w.heap.size w w') : DcBk w' A D m f := ⟨h.rd.pass hb, h.ok, h.doc, h.len⟩
theorem DcBk.mono {w : World} {A : Option Addr} {D : List Dn} {m m' : Nat} {f : Int → Option (Int × Int)} (h : DcBk w A D m f) (hm : m ≤ m') : DcBk w A D m' f := ⟨h.rd, h.ok, h.doc, Nat.le_trans h.len hm⟩
theorem DcBk.nil (w : World) (m : Nat) : DcBk w none [] m (fun _ => none) := ⟨⟨rfl, fun h => absurd h (Nat.lt_irrefl 0)⟩, (fun x hx => by cases hx), docF_nil, Nat.zero_le _⟩
def OpnIs (r m : Nat) (f' : Int → Option (Int × Int)) (E : Int) (A0 : Option Addr) (D0 : List Dn) (w : World) (e : Ending) (w' : World) : Prop := ∃ A c D, e = .returned (.tuple #[.agg #[.float .f64 r, .slice A D.length c], .int .i64 E]) ∧ DcBk w' A D (m + 1) f' ∧ ((A = A0 ∧ D = D0) ∨ ∀ x, A = some x → w.heap.size ≤ x.block) ∧ Below w.heap.size w w'
theorem small5 {a b : Value} {w : World} {g : Nat} {t : TypeId} (h : Blk w g t #[a, b]) : w.frozen? ⟨g, 0, none⟩ = false ∧ w.frozen? ⟨g, 1, none⟩ = false ∧ g < w.heap.size := ⟨h.frozen 0, h.frozen 1, h.lt⟩
/-- the end of Open: the book with an account more -/
theorem open_end {r : Nat} {A : Option Addr} {c : Nat} {D : List Dn} {a n : Int} {m : Nat} {f : Int → Option (Int × Int)} {w w3 : World} {A2 : Option Addr} {c2 : Nat} (hB : DcBk w A D m f) (h3 : isA n = true) (ha : 0 ≤ a) (hn : (f a).isSome = false)
    (S3 : Blk w3 w.heap.size 58 #[.float .f64 r, .slice A D.length c]) (T3 : Blk w3 (w.heap.size + 1) 58 #[.float .f64 0, .slice none 0 0]) (W3 : Below w.heap.size w w3) (R3 : Reads w3 w3.heap.size 4 A2 (D.length + 1) (D.flatMap Dn.cells ++ Dn.cells ⟨-1, a, n, 0⟩)) (F3 : ∀ x, A2 = some x → w.heap.size + 1 + 1 ≤ x.block) :
    Blk (((w3.setCell ⟨w.heap.size, 1, none⟩ (.slice A2 (D.length + 1) c2)).setCell ⟨w.heap.size + 1, 0, none⟩ (.float .f64 r)).setCell ⟨w.heap.size + 1, 1, none⟩ (.slice A2 (D.length + 1) c2)) (w.heap.size + 1) 58 #[.float .f64 r, .slice A2 (D.length + 1) c2] ∧
    OpnIs r m (fput f a (n, 0)) 0 A D w (.returned (.tuple #[.agg #[.float .f64 r, .slice A2 (D.length + 1) c2], .int .i64 0])) (((w3.setCell ⟨w.heap.size, 1, none⟩ (.slice A2 (D.length + 1) c2)).setCell ⟨w.heap.size + 1, 0, none⟩ (.float .f64 r)).setCell ⟨w.heap.size + 1, 1, none⟩ (.slice A2 (D.length + 1) c2)) := by
  have lb : w.heap.size ≤ w.heap.size + 1 := Nat.le_succ _
  have l0 : w.heap.size ≤ w.heap.size := Nat.le_refl _
  refine ⟨blk_upd (i := 1) (u := .slice A2 (D.length + 1) c2) (blk_upd (i := 0) (u := .float .f64 r) (T3.far (p := ⟨w.heap.size, 1, none⟩) (Nat.ne_of_gt (Nat.lt_succ_self _)) _) rfl) rfl, A2, c2, D ++ [⟨-1, a, n, 0⟩], by rw [List.length_append]; rfl, ⟨?_, ?_, docF_open hB.doc ha hn, by rw [List.length_append]; have := hB.len; simp; omega⟩, .inr (fun x hx => by have := F3 x hx; omega), ?_⟩
  · have K : Keeps (fun g => g = w.heap.size ∨ g = w.heap.size + 1) w3 (((w3.setCell ⟨w.heap.size, 1, none⟩ (.slice A2 (D.length + 1) c2)).setCell ⟨w.heap.size + 1, 0, none⟩ (.float .f64 r)).setCell ⟨w.heap.size + 1, 1, none⟩ (.slice A2 (D.length + 1) c2)) :=
      (((Keeps.refl _ w3).set_ (p := ⟨w.heap.size, 1, none⟩) (Or.inl (Or.inl rfl)) _).set_ (p := ⟨w.heap.size + 1, 0, none⟩) (Or.inl (Or.inr rfl)) _).set_ (p := ⟨w.heap.size + 1, 1, none⟩) (Or.inl (Or.inr rfl)) _
    have := R3.kp K (fun x hx h => by have := F3 x hx; omega)
    rw [List.length_append, List.flatMap_append]
    simpa using this
  · intro x hx
    rcases List.mem_append.1 hx with h | h
    · exact hB.ok x h
    · rw [List.mem_singleton.1 h]
      have := isA_iff.1 h3
      exact ⟨this.1, this.2, Int.le_refl 0, (by decide : (0 : Int) ≤ 1000000000000000)⟩
  · exact below_set_ (below_set_ (below_set_ W3 (p := ⟨w.heap.size, 1, none⟩) l0 _) (p := ⟨w.heap.size + 1, 0, none⟩) lb _) (p := ⟨w.heap.size + 1, 1, none⟩) lb _
theorem run_store_float {P : Program} {w : World} {a : Addr} {m : Mode} (k : FloatKind) (b : Nat) : (store a (.float k b) m).run P w = stored P w a (.float k b) m := run_store P w a _ m rfl
attribute [local go_sem] run_store_float
set_option maxRecDepth 100000 in
set_option maxHeartbeats 4000000 in
theorem ropen_any (r : Nat) (A : Option Addr) (c : Nat) (D : List Dn) (a n E : Int) (m : Nat) (f f' : Int → Option (Int × Int)) (w : World) (hB : DcBk w A D m f) (hm : m ≤ 99) (hO : OpIs f a n E f') :
    Calls Tryz.prog 43 #[.agg #[.float .f64 r, .slice A D.length c], .int .i64 a, .int .i64 n] w (OpnIs r m f' E A D w) := by
  have HB := Lib.hid hB
  have S0 := Lib.hid ((Blk.new w 58 #[.float .f64 r, .slice A D.length c]).alloc (.cells #[.float .f64 0, .slice none 0 0] 58))
  have T0 : Hid (Blk ((w.alloc (.cells #[.float .f64 r, .slice A D.length c] 58)).alloc (.cells #[.float .f64 0, .slice none 0 0] 58)) (w.heap.size + 1) 58 #[.float .f64 0, .slice none 0 0]) := Lib.hid (Blk.new' (by simp))
  have W0 : Hid (Below w.heap.size w ((w.alloc (.cells #[.float .f64 r, .slice A D.length c] 58)).alloc (.cells #[.float .f64 0, .slice none 0 0] 58))) := Lib.hid (by repeat (first | exact Below.refl _ _ | refine below_alloc_ ?_ _ | refine Below.drew ?_))
  have dl := hB.len
  have lb : w.heap.size ≤ w.heap.size + 1 := Nat.le_succ _
  clear hB
  obtain ⟨t0, t1⟩ := T0.out.c2
  obtain ⟨z0, z1, zl⟩ := small5 T0.out
  obtain ⟨s0, s1⟩ := S0.out.c2
  rcases hO with ⟨h1, rfl, rfl⟩ | ⟨h1, h2, rfl, rfl⟩ | ⟨h1, h2, h3, rfl, rfl⟩ | ⟨h1, h2, h3, rfl, rfl⟩
  · have H1 := Lib.hid h1
    clear h1
    go_enter Tryz.func43, Tryz.ntmps43
    go_wp2_with (go_at_call 44; (with_reducible refine (ris14_v _ H1.out).mono ?_); rintro e w1 ⟨rfl, rfl⟩)
    have T9 : Hid (Blk ((w.alloc (.cells #[.float .f64 r, .slice A D.length c] 58)).alloc (.cells #[.float .f64 r, .slice A D.length c] 58)) (w.heap.size + 1) 58 #[.float .f64 r, .slice A D.length c]) := Lib.hid (Blk.new' (by simp))
    have W9 : Hid (Below w.heap.size w ((w.alloc (.cells #[.float .f64 r, .slice A D.length c] 58)).alloc (.cells #[.float .f64 r, .slice A D.length c] 58))) := Lib.hid (by repeat (first | exact Below.refl _ _ | refine below_alloc_ ?_ _ | refine Below.drew ?_))
    refine bodyPost_ret (v := .tuple #[.agg #[.float .f64 r, .slice A D.length c], .int .i64 141]) (via_blk (g := w.heap.size + 1) (T := 58) (cs := #[.float .f64 r, .slice A D.length c]) T9.out (fun W' hB => by obtain ⟨c0, c1⟩ := hB.c2; simp [results, Tryz.results43, go_sem, c0, c1])) rfl ⟨A, c, D, rfl, (HB.out.pass W9.out).mono (Nat.le_succ _), .inl ⟨rfl, rfl⟩, W9.out⟩
  · have H1 := Lib.hid h1
    obtain ⟨v0, v1⟩ := isAc_iff.1 h1
    have HK := Lib.hid ((HB.out.doc a v0).1.trans h2)
    clear h1 h2
    go_enter Tryz.func43, Tryz.ntmps43
    go_wp2_with (first
      | (go_at_call 44; (with_reducible refine (ris14_v _ H1.out).mono ?_); rintro e w1 ⟨rfl, rfl⟩)
      | (go_at_call 46; (with_reducible refine (rhas_v (a := a) _ (HB.out.pass W0.out).rd (by omega) HB.out.ok rfl HK.out rfl).mono ?_); rintro e w1 ⟨rfl, hb1⟩; have W1 := Lib.hid (below_then W0.out hb1); have T1 := Lib.hid (blk_pass T0.out (Below.refl _ _) hb1); have S1 := Lib.hid (blk_pass S0.out (Below.refl _ _) hb1); clear hb1 t0 t1 z0 z1 zl s0 s1; obtain ⟨t0, t1⟩ := T1.out.c2; obtain ⟨z0, z1, zl⟩ := small5 T1.out; obtain ⟨s0, s1⟩ := S1.out.c2))
    have T9 := Lib.hid (blk_upd (i := 1) (u := .slice A D.length c) (blk_upd (i := 0) (u := .float .f64 r) T1.out rfl) rfl)
    have W9 := Lib.hid (below_set_ (below_set_ W1.out (p := ⟨w.heap.size + 1, 0, none⟩) lb (.float .f64 r)) (p := ⟨w.heap.size + 1, 1, none⟩) lb (.slice A D.length c))
    refine bodyPost_ret (v := .tuple #[.agg #[.float .f64 r, .slice A D.length c], .int .i64 142]) (via_blk (g := w.heap.size + 1) (T := 58) (cs := #[.float .f64 r, .slice A D.length c]) T9.out (fun W' hB => by obtain ⟨c0, c1⟩ := hB.c2; simp [results, Tryz.results43, go_sem, c0, c1])) rfl ⟨A, c, D, rfl, (HB.out.pass W9.out).mono (Nat.le_succ _), .inl ⟨rfl, rfl⟩, W9.out⟩
  · have H1 := Lib.hid h1; have H3 := Lib.hid h3
    obtain ⟨v0, v1⟩ := isAc_iff.1 h1
    have HK := Lib.hid ((HB.out.doc a v0).1.trans h2)
    clear h1 h2 h3
    go_enter Tryz.func43, Tryz.ntmps43
    go_wp2_with (first
      | (go_at_call 44; (with_reducible refine (ris14_v _ H1.out).mono ?_); rintro e w1 ⟨rfl, rfl⟩)
      | (go_at_call 19; (with_reducible refine (ris_v _ H3.out).mono ?_); rintro e w1 ⟨rfl, rfl⟩)
      | (go_at_call 46; (with_reducible refine (rhas_v (a := a) _ (HB.out.pass W0.out).rd (by omega) HB.out.ok rfl HK.out rfl).mono ?_); rintro e w1 ⟨rfl, hb1⟩; have W1 := Lib.hid (below_then W0.out hb1); have T1 := Lib.hid (blk_pass T0.out (Below.refl _ _) hb1); have S1 := Lib.hid (blk_pass S0.out (Below.refl _ _) hb1); clear hb1 t0 t1 z0 z1 zl s0 s1; obtain ⟨t0, t1⟩ := T1.out.c2; obtain ⟨z0, z1, zl⟩ := small5 T1.out; obtain ⟨s0, s1⟩ := S1.out.c2))
    have T9 := Lib.hid (blk_upd (i := 1) (u := .slice A D.length c) (blk_upd (i := 0) (u := .float .f64 r) T1.out rfl) rfl)
    have W9 := Lib.hid (below_set_ (below_set_ W1.out (p := ⟨w.heap.size + 1, 0, none⟩) lb (.float .f64 r)) (p := ⟨w.heap.size + 1, 1, none⟩) lb (.slice A D.length c))
    refine bodyPost_ret (v := .tuple #[.agg #[.float .f64 r, .slice A D.length c], .int .i64 143]) (via_blk (g := w.heap.size + 1) (T := 58) (cs := #[.float .f64 r, .slice A D.length c]) T9.out (fun W' hB => by obtain ⟨c0, c1⟩ := hB.c2; simp [results, Tryz.results43, go_sem, c0, c1])) rfl ⟨A, c, D, rfl, (HB.out.pass W9.out).mono (Nat.le_succ _), .inl ⟨rfl, rfl⟩, W9.out⟩
  · have H1 := Lib.hid h1; have H3 := Lib.hid h3
    obtain ⟨v0, v1⟩ := isAc_iff.1 h1
    have HK := Lib.hid ((HB.out.doc a v0).1.trans h2)
    have HN := Lib.hid h2
    obtain ⟨i0, hi0, hz0, hz1, hz2⟩ := info_parts info_dn
    clear h1 h2 h3
    go_enter Tryz.func43, Tryz.ntmps43
    go_wp2_with (first
      | (go_at_call 44; (with_reducible refine (ris14_v _ H1.out).mono ?_); rintro e w1 ⟨rfl, rfl⟩)
      | (go_at_call 19; (with_reducible refine (ris_v _ H3.out).mono ?_); rintro e w1 ⟨rfl, rfl⟩)
      | (go_at_call 46; (with_reducible refine (rhas_v (a := a) _ (HB.out.pass W0.out).rd (by omega) HB.out.ok rfl HK.out rfl).mono ?_); rintro e w1 ⟨rfl, hb1⟩; have W1 := Lib.hid (below_then W0.out hb1); have T1 := Lib.hid (blk_pass T0.out (Below.refl _ _) hb1); have S1 := Lib.hid (blk_pass S0.out (Below.refl _ _) hb1); clear hb1 t0 t1 z0 z1 zl s0 s1; obtain ⟨t0, t1⟩ := T1.out.c2; obtain ⟨z0, z1, zl⟩ := small5 T1.out; obtain ⟨s0, s1⟩ := S1.out.c2; have sl := S1.out.lt)
      | (at_builtin
         refine wpList_append_any _ rfl (.tmp 28) (.tmp 30) 56 rfl (w.heap.size + 1 + 1) 90 i0 _ 4 32 Tryz.underlying56 hi0 hz0 hz1 hz2 rfl (by omega) (.slice (some ⟨w1.heap.size, 0, none⟩) 0 0) 0 [] (by rfl) (own_empty4 (by rfl) zl) _ A D.length c (D.flatMap Dn.cells) (by rfl) ((HB.out.pass W1.out).rd.al _) (one_dn D) (by simp only [maxLen]; omega) (by omega) (by simp; omega) ?_
         intro v1 w2 hown hg1 hat1
         simp only [Nat.zero_add, List.nil_append] at hown
         have W2 := Lib.hid ((below_alloc_ W1.out _).grown hg1 (by simp; omega) (fun g hg => by simp [Value.ownBlock] at hg; have := W1.out.size; omega))
         have S2 := Lib.hid (Blk.grown (S1.out.alloc _) hg1 (fun e => by simp [Value.ownBlock] at e; omega))
         have T2 := Lib.hid (Blk.grown (T1.out.alloc _) hg1 (fun e => by simp [Value.ownBlock] at e; omega))
         have O2 := Lib.hid hown
         clear hown hg1 hat1 t0 t1 z0 z1 zl s0 s1 sl
         obtain ⟨t0, t1⟩ := T2.out.c2
         obtain ⟨z0, z1, zl⟩ := small5 T2.out
         obtain ⟨s0, s1⟩ := S2.out.c2
         have sl := S2.out.lt)
      | (at_builtin
         refine wpList_append_any _ rfl (.tmp 31) (.tmp 35) 56 rfl (w.heap.size + 1 + 1) 90 i0 _ 4 32 Tryz.underlying56 hi0 hz0 hz1 hz2 rfl (by omega) v1 D.length _ (by rfl) (O2.out.alloc _) (w2.heap.size + 1) (some ⟨w2.heap.size, 0, none⟩) 1 1 (Dn.cells ⟨-1, a, n, 0⟩) (by rfl) (reads_cells rfl rfl) (by simp [Dn.cells, Value.oneCell']) (by simp only [maxLen]; omega) (by omega) (by simp; omega) ?_
         intro v2 w3 hown hg1 hat1
         obtain ⟨A2, c2, rfl, hrd, hfr⟩ := own_shape hown
         have W3 := Lib.hid (Below.grown (below_alloc_ W2.out _) hg1 (by have := W2.out.size; simp; omega) (fun g hg => by have := (O2.out.lt g hg).1; omega))
         have S3 := Lib.hid (Blk.grown (S2.out.alloc _) hg1 (fun e => by have := (O2.out.lt _ e.symm).1; omega))
         have T3 := Lib.hid (Blk.grown (T2.out.alloc _) hg1 (fun e => by have := (O2.out.lt _ e.symm).1; omega))
         have R3 := Lib.hid hrd
         have F3 := Lib.hid hfr
         clear hown hg1 hat1 hrd hfr t0 t1 z0 z1 zl s0 s1 sl
         obtain ⟨t0, t1⟩ := T3.out.c2
         obtain ⟨z0, z1, zl⟩ := small5 T3.out
         obtain ⟨s0, s1⟩ := S3.out.c2
         have sl := S3.out.lt
         have y1 := S3.out.frozen 1))
    obtain ⟨hT, hO⟩ := open_end (c2 := c2) HB.out H3.out v0 HN.out S3.out T3.out W3.out R3.out F3.out
    exact bodyPost_ret (v := .tuple #[.agg #[.float .f64 r, .slice A2 (D.length + 1) c2], .int .i64 0]) (via_blk (g := w.heap.size + 1) (T := 58) (cs := #[.float .f64 r, .slice A2 (D.length + 1) c2]) hT (fun W' hB => by obtain ⟨c0, c1⟩ := hB.c2; simp [results, Tryz.results43, go_sem, c0, c1])) rfl hO
end Go.Proofs.YtjhhpcjnhjbpdaaGreat
