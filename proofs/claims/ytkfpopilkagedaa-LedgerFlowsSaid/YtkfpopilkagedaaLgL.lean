/- The book: List. -/
import Derived.Test.YtkfpopilkagedaaLgP
import Derived.IntWalk
import Derived.LoopTactic
set_option linter.unusedSimpArgs false
set_option linter.unusedVariables false
namespace Go.Proofs.Ytkfpopilkagedaa
open Go.RowKit Mo
theorem info_en : (Try.prog.info? 31).map (fun i => (i.zero, i.size, i.bytes)) = some (some (.agg #[.int .i64 0, .int .i64 0]), 2, 16) := by kernel_rfl
theorem one_en (p : Int × Int) : ∀ u ∈ eC p, u.oneCell' = true := by
  intro u hx
  unfold eC at hx
  simp at hx
  rcases hx with rfl | rfl <;> rfl
theorem one_ens (L : List (Int × Int)) : ∀ u ∈ L.flatMap eC, u.oneCell' = true := by
  intro u hu
  obtain ⟨x, _, hx⟩ := List.mem_flatMap.1 hu
  exact one_en x u hx
theorem reads_cells {w : World} {e : TypeId} {cs : Array Value} {b size : Nat} (hb : w.heap.size = b) (hs : cs.size = size) : Reads (w.alloc (.cells cs e)) (b + 1) size (some ⟨b, 0, none⟩) 1 cs.toList := by
  subst hb
  refine ⟨by simp [hs], fun _ => ⟨_, rfl, by simp, fun j u hu => ?_⟩⟩
  rw [Addr.add_lit, World.cell?_alloc_new]
  simpa using hu
/-- two rows that lie in no one block -/
def Apart (s t : Value) : Prop := ∀ g, s.ownBlock = some g → t.ownBlock = some g → False
theorem Apart.symm {s t : Value} (h : Apart s t) : Apart t s := fun g a b => h g b a
theorem Apart.ne {s t : Value} (h : Apart s t) : s.ownBlock = none ∨ s.ownBlock ≠ t.ownBlock := by
  cases e : s.ownBlock with
  | none => exact .inl rfl
  | some g => exact .inr (fun e' => h g e e'.symm)
/-- a row appended to, another one kept -/
theorem own_push {B : Nat} {w1 W w2 : World} {e : TypeId} {size n : Nat} {s3 s4 v1 : Value} {zs : List Value} (h4 : W.ownsRow B e size s4 n zs) (hl : ∀ g, s3.ownBlock = some g → B ≤ g) (ap : Apart s3 s4) (hb : Below B w1 W) (hB : B ≤ W.heap.size) (hg : W.grownBy w2 s3.ownBlock) (hat : v1.ownBlock = s3.ownBlock ∨ v1.ownBlock = some W.heap.size) :
    w2.ownsRow B e size s4 n zs ∧ Apart v1 s4 ∧ Below B w1 w2 := by
  refine ⟨h4.kept hg ap.symm.ne, ?_, hb.grown hg hB hl⟩
  intro g h1 h2
  rcases hat with h | h
  · exact ap g (h ▸ h1) h2
  · have := (h4.lt g h2).2
    rw [h] at h1
    cases h1
    omega
/-- where List's round stands -/
structure LsR (B : Nat) (w1 wr : World) (f : Int → Option (Int × Int)) (k : Nat) (s3 s4 : Value) : Prop where
  h : wr.ownsRow B 31 2 s3 k ((entsH f ((keysOf f).take k)).flatMap eC)
  p : wr.ownsRow B 31 2 s4 (entsP f ((keysOf f).take k)).length ((entsP f ((keysOf f).take k)).flatMap eC)
  ap : Apart s3 s4
  b : Below B w1 wr
theorem LsR.start (w1 : World) (f : Int → Option (Int × Int)) : LsR w1.heap.size w1 w1 f 0 (.slice none 0 0) (.slice none 0 0) :=
  ⟨⟨by simp [entsH], .inl ⟨rfl, rfl⟩⟩, ⟨by simp [entsP], .inl ⟨rfl, rfl⟩⟩, fun _ h => by simp [Value.ownBlock] at h, Below.refl _ _⟩
theorem entsH_take {f : Int → Option (Int × Int)} {k : Nat} {a : Int} (ha : (keysOf f)[k]? = some a) : (entsH f ((keysOf f).take k)).flatMap eC ++ eC (a, hasAt f a) = (entsH f ((keysOf f).take (k + 1))).flatMap eC := by
  obtain ⟨hl, hv⟩ := List.getElem?_eq_some_iff.1 ha
  rw [List.take_succ_eq_append_getElem hl, hv, entsH_snoc, List.flatMap_append]
  simp
theorem entsP_take1 {f : Int → Option (Int × Int)} {k : Nat} {a : Int} (ha : (keysOf f)[k]? = some a) (hp : paidAt f a ≠ 0) : (entsP f ((keysOf f).take k)).flatMap eC ++ eC (4096 + a, paidAt f a) = (entsP f ((keysOf f).take (k + 1))).flatMap eC ∧ (entsP f ((keysOf f).take k)).length + 1 = (entsP f ((keysOf f).take (k + 1))).length := by
  obtain ⟨hl, hv⟩ := List.getElem?_eq_some_iff.1 ha
  rw [List.take_succ_eq_append_getElem hl, hv, entsP_snoc1 f _ _ hp, List.flatMap_append]
  simp
theorem entsP_take0 {f : Int → Option (Int × Int)} {k : Nat} {a : Int} (ha : (keysOf f)[k]? = some a) (hp : paidAt f a = 0) : entsP f ((keysOf f).take (k + 1)) = entsP f ((keysOf f).take k) := by
  obtain ⟨hl, hv⟩ := List.getElem?_eq_some_iff.1 ha
  rw [List.take_succ_eq_append_getElem hl, hv, entsP_snoc0 f _ _ hp]
/-- a book's list -/
def Lst (w : World) (f : Int → Option (Int × Int)) (e : Ending) (w' : World) : Prop := ∃ A c, e = .returned (.slice A (ents f).length c) ∧ Reads w' w'.heap.size 2 A (ents f).length ((ents f).flatMap eC) ∧ (∀ a, A = some a → w.heap.size ≤ a.block) ∧ Below w.heap.size w w'
theorem own_mono {w : World} {base base' : Nat} {e : TypeId} {size n : Nat} {v : Value} {xs : List Value} (h : w.ownsRow base e size v n xs) (hb : base' ≤ base) : w.ownsRow base' e size v n xs :=
  ⟨h.1, h.2.imp id (fun ⟨g, cap, cur, a, b, rest⟩ => ⟨g, cap, cur, a, Nat.le_trans hb b, rest⟩)⟩
/-- a book's list, as a row of the call's own -/
def LstO (w : World) (f : Int → Option (Int × Int)) (e : Ending) (w' : World) : Prop := ∃ A c, e = .returned (.slice A (ents f).length c) ∧ w'.ownsRow w.heap.size 31 2 (.slice A (ents f).length c) (ents f).length ((ents f).flatMap eC) ∧ Below w.heap.size w w'
set_option maxRecDepth 100000 in
set_option maxHeartbeats 4000000 in
theorem list_own (b r m n : Nat) (f : Int → Option (Int × Int)) (w : World) (h : Bk w b r m n f) (hn : n ≤ 1000000) (hs : Sup f) : Calls Try.prog 10 #[.pointer (some ⟨b, 0, none⟩)] w (LstO w f) := by
  obtain ⟨q0, q1⟩ := h.b.c2
  have bl := h.b.lt
  have HB := Lib.hid h
  have HS := Lib.hid hs
  clear h hs
  obtain ⟨i0, hi0, hz0, hz1, hz2⟩ := info_parts info_en
  go_enter Try.func10, Try.ntmps10
  go_wp2_with (first | (go_at_call 21; with_reducible refine (mkeys_any m _).mono ?_; rintro e w1 ⟨rfl, rfl⟩) | (go_at_call 20; with_reducible refine (msorted_any m n f w HB.out.m hn HS.out).mono ?_; rintro e w1 ⟨A, c, rfl, hr, hb⟩))
  have B1 := Lib.hid (HB.out.keeps (Keeps.of_below (S := fun _ => False) hb) id id)
  have L1 := Lib.hid hr
  have W1 := Lib.hid hb
  have KL := keysOf_len f
  obtain ⟨N, hN⟩ : ∃ N, (keysOf f).length = N := ⟨_, rfl⟩
  have HN := Lib.hid hN
  rw [hN] at L1 KL ⊢
  clear hr hb hN q0 q1 bl
  go_loopw [3, 4, 15] (fun s3 s4 s15 wr => ∃ k : Nat, k ≤ N ∧ s15 = .int .i64 k ∧ LsR w1.heap.size w1 wr f k s3 s4) (fun _ _ s _ => N - (intOf s).toNat)
  case atStart => exact ⟨0, Nat.zero_le _, rfl, LsR.start w1 f⟩
  case round =>
    obtain ⟨k, hk, rfl, R⟩ := hrel
    have B2 := Lib.hid (B1.out.keeps (Keeps.of_below (S := fun _ => False) R.b) id id)
    obtain ⟨q0, q1⟩ := B2.out.b.c2
    have bl := B2.out.b.lt
    have hsz := R.b.size
    by_cases hlt : k < N
    · have hkN : k < (keysOf f).length := by rw [HN.out]; exact hlt
      have hd : decide ((k : Int) < (N : Int)) = true := by simp; omega
      obtain ⟨ad, u, rfl, hadb, hu, hcell⟩ := L1.out.at_ hlt
      have ha : (keysOf f)[k]? = some (keysOf f)[k] := List.getElem?_eq_getElem hkN
      have hsu := HS.out (keysOf f)[k] ((keysOf_mem HS.out _).1 (List.getElem_mem hkN))
      obtain rfl : u = .int .i64 (keysOf f)[k] := by simp [hkN] at hu; rw [← hu]
      replace hcell := (R.b.cell (p := ad.add k) (by rw [block_of_add]; exact hadb)).trans hcell
      clear hu
      generalize (keysOf f)[k] = a at *
      obtain ⟨a0, a1⟩ := hsu
      have hl := B2.out.m.look1 (k := a) (by simp [Lit.wf, IntKind.min, IntKind.max, IntKind.signed, IntKind.bits]; omega)
      rw [show accV ((f a).getD (0, 0)) = .agg #[.int .i64 (hasAt f a), .int .i64 (paidAt f a)] from rfl] at hl
      have hwr : IntKind.i64.wrap (4096 + a) = 4096 + a := IntWalk.i64_in _ (by omega)
      have R0 := Lib.hid R
      have ha1 := Lib.hid ha
      have hP : paidAt f a = 0 ∨ paidAt f a ≠ 0 := by omega
      obtain ⟨x, hx⟩ : ∃ x, hasAt f a = x := ⟨_, rfl⟩
      obtain ⟨y, hy⟩ : ∃ y, paidAt f a = y := ⟨_, rfl⟩
      rw [hx, hy] at hl
      rw [hy] at hP
      have HX := Lib.hid hx; have HY := Lib.hid hy
      clear ha hx hy R
      have OL : Hid (∀ g, u3.ownBlock = some g → w1.heap.size ≤ g ∧ g < wr.heap.size) := Lib.hid (fun g hg => R0.out.h.lt g hg)
      have NB : Hid (∀ g, u3.ownBlock = some g → some wr.heap.size ≠ some g) := Lib.hid (fun g hg e => by have := (OL.out g hg).2; cases e; omega)
      rcases hP with hP | hP
      · have hb0 : (y == 0) = true := by simpa using hP
        have HP := Lib.hid hP
        clear hP
        go_wp2_with (at_builtin
                     refine wpList_append_any _ rfl (.tmp 25) (.tmp 30) 28 rfl w1.heap.size 31 i0 _ 2 16 Try.underlying28 hi0 hz0 hz1 hz2 rfl (by omega) u3 k _ (by rfl) ((R0.out.h.alloc _).alloc _) (wr.heap.size + 1 + 1) (some ⟨wr.heap.size + 1, 0, none⟩) 1 1 (eC (a, x)) (by rfl) (reads_cells (by simp) rfl) (one_en _) (by simp only [maxLen]; omega) (by omega) (by simp; omega) ?_
                     intro v1 w2 hown1 hg1 hat1
                     have HO := Lib.hid hown1
                     have HP4 := Lib.hid (own_push ((R0.out.p.alloc _).alloc _) (fun g hg => (OL.out g hg).1) R0.out.ap (below_alloc_ (below_alloc_ R0.out.b _) _) (by simp; omega) hg1 hat1)
                     have X2 := Lib.hid (Blk.grown (g := wr.heap.size) (t := 61) (cs := #[.int .i64 x, .int .i64 y]) ((Blk.new wr _ _).alloc _) hg1 (fun e => by exact NB.out _ e.symm rfl))
                     obtain ⟨x0, x1⟩ := X2.out.c2
                     have xl := X2.out.lt
                     clear hown1 hg1 hat1)
        go_roundw
        case rel =>
          refine ⟨k + 1, by omega, by go_num, ⟨?_, ?_, HP4.out.2.1, HP4.out.2.2⟩⟩
          · rw [← entsH_take ha1.out, HX.out]; exact HO.out
          · rw [entsP_take0 ha1.out (HY.out.trans HP.out)]; exact HP4.out.1
        case measure => simp [intOf]; omega
      · have hb0 : (y == 0) = false := by simpa using hP
        have HP := Lib.hid hP
        clear hP
        go_wp2_with (first
          | (at_builtin
             refine wpList_append_any _ rfl (.tmp 25) (.tmp 30) 28 rfl w1.heap.size 31 i0 _ 2 16 Try.underlying28 hi0 hz0 hz1 hz2 rfl (by omega) u3 k _ (by rfl) ((R0.out.h.alloc _).alloc _) (wr.heap.size + 1 + 1) (some ⟨wr.heap.size + 1, 0, none⟩) 1 1 (eC (a, x)) (by rfl) (reads_cells (by simp) rfl) (one_en _) (by simp only [maxLen]; omega) (by omega) (by simp; omega) ?_
             intro v1 w2 hown1 hg1 hat1
             have HO := Lib.hid hown1
             have HP4 := Lib.hid (own_push ((R0.out.p.alloc _).alloc _) (fun g hg => (OL.out g hg).1) R0.out.ap (below_alloc_ (below_alloc_ R0.out.b _) _) (by simp; omega) hg1 hat1)
             have X2 := Lib.hid (Blk.grown (g := wr.heap.size) (t := 61) (cs := #[.int .i64 x, .int .i64 y]) ((Blk.new wr _ _).alloc _) hg1 (fun e => by exact NB.out _ e.symm rfl))
             obtain ⟨x0, x1⟩ := X2.out.c2
             have xl := X2.out.lt
             clear hown1 hg1 hat1)
          | (at_builtin
             refine wpList_append_any _ rfl (.tmp 35) (.tmp 41) 28 rfl w1.heap.size 31 i0 _ 2 16 Try.underlying28 hi0 hz0 hz1 hz2 rfl (by omega) u4 (entsP f ((keysOf f).take k)).length _ (by rfl) (HP4.out.1.alloc _) (w2.heap.size + 1) (some ⟨w2.heap.size, 0, none⟩) 1 1 (eC (4096 + a, y)) (by rfl) (reads_cells rfl rfl) (one_en _) (by simp only [maxLen]; have := entsP_len f ((keysOf f).take k); have := List.length_take_le k (keysOf f); omega) (by have := entsP_len f ((keysOf f).take k); have := List.length_take_le k (keysOf f); omega) (by simp; have := HP4.out.2.2.size; omega) ?_
             intro v2 w3 hown2 hg2 hat2
             have HO2 := Lib.hid hown2
             have HP5 := Lib.hid (own_push (HO.out.alloc _) (fun g hg => (HP4.out.1.lt g hg).1) HP4.out.2.1.symm (below_alloc_ HP4.out.2.2 _) (by simp; have := HP4.out.2.2.size; omega) hg2 hat2)
             clear hown2 hg2 hat2))
        go_roundw
        case rel =>
          refine ⟨k + 1, by omega, by go_num, ⟨?_, ?_, HP5.out.2.1.symm, HP5.out.2.2⟩⟩
          · rw [← entsH_take ha1.out, HX.out]; exact HP5.out.1
          · have e := entsP_take1 ha1.out (by rw [HY.out]; exact HP.out)
            rw [HY.out] at e
            rw [← e.1, ← e.2]; exact HO2.out
        case measure => simp [intOf]; omega
    · have hd : decide ((k : Int) < (N : Int)) = false := by simp; omega
      have hkN : k = N := by omega
      have RH := R.h; have RP := R.p
      rw [hkN, ← HN.out, List.take_length] at RH
      rw [hkN, ← HN.out, List.take_length] at RP
      obtain ⟨A4, c4, h4, hr4, -⟩ := own_shape RP
      rw [HN.out] at RH
      have R0 := Lib.hid R; have H0 := Lib.hid RH; have R4 := Lib.hid hr4
      have P4 := entsP_len f (keysOf f)
      rw [HN.out] at P4
      obtain ⟨M, hM⟩ : ∃ M, (entsP f (keysOf f)).length = M := ⟨_, rfl⟩
      have HM := Lib.hid hM
      rw [hM] at R4 h4 P4
      clear R RH RP hr4 hM hkN q0 q1 bl
      subst h4
      go_wp2_with (at_builtin
                   refine wpList_append_any _ rfl (.tmp 44) (.tmp 45) 28 rfl w1.heap.size 31 i0 _ 2 16 Try.underlying28 hi0 hz0 hz1 hz2 rfl (by omega) u3 N _ (by rfl) H0.out wr.heap.size A4 M c4 ((entsP f (keysOf f)).flatMap eC) (by rfl) R4.out (one_ens _) (by simp only [maxLen]; omega) (by omega) (by omega) ?_
                   intro v1 w2 hown1 hg1 hat1
                   obtain ⟨A', c', rfl, hrd, hblk⟩ := own_shape hown1
                   have RD := Lib.hid hrd; have BK := Lib.hid hblk; have HO := Lib.hid hown1
                   have HB2 := Lib.hid ((R0.out.b).grown hg1 (by omega) (fun g hg => (H0.out.lt g hg).1))
                   clear hown1 hrd hblk hg1 hat1)
      go_ret
      have hlen : (ents f).length = N + M := by unfold ents; rw [List.length_append, entsH_len, HN.out, HM.out]
      refine ⟨A', c', by rw [hlen]; rfl, ?_, ?_⟩
      · rw [hlen]; unfold ents; rw [List.flatMap_append]; exact own_mono HO.out W1.out.size
      · exact W1.out.trans (HB2.out.mono W1.out.size)
theorem list_any (b r m n : Nat) (f : Int → Option (Int × Int)) (w : World) (h : Bk w b r m n f) (hn : n ≤ 1000000) (hs : Sup f) : Calls Try.prog 10 #[.pointer (some ⟨b, 0, none⟩)] w (Lst w f) := by
  refine (list_own b r m n f w h hn hs).mono ?_
  rintro e w' ⟨A, c, rfl, ho, hb⟩
  obtain ⟨A', c', e', hr, ha⟩ := own_shape ho
  cases e'
  exact ⟨A, c, rfl, hr, ha, hb⟩
end Go.Proofs.Ytkfpopilkagedaa
