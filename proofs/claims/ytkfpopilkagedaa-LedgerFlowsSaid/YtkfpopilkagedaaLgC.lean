/- The book: Copy. -/
import Derived.Test.YtkfpopilkagedaaLgL
set_option linter.unusedSimpArgs false
set_option linter.unusedVariables false
namespace Go.Proofs.Ytkfpopilkagedaa
open Go.RowKit Mo
open Go.Maps
theorem accR_all {v : Value} {y : DataW Unit × List MemPlace} (h : accR v = some y) : ∃ p : Int × Int, v = .agg #[.int .i64 p.1, .int .i64 p.2] ∧ y = (accD p, []) := by
  unfold accR at h
  split at h
  · rename_i cs
    split at h
    · rename_i a b e
      refine ⟨(a, b), ?_, ?_⟩
      · rw [show cs = #[.int .i64 a, .int .i64 b] from Array.ext' e]
      · cases h; rfl
    · cases h
  · cases h
section
variable (w : World) {ops : Array Oper} {rest : List Oper} {o : Oper} {a : Act} {Q : Exit → Act → World → Prop}
theorem wpList_next_acc (hg : o.guard = none) (it : Operand) (hop : o.op = Op.next it false)
    (b r n : Nat) (D : DataW Unit) (left : Lit → Bool) (cnt : Nat) (hit : a.eval it = .pointer (some ⟨r, 0, none⟩)) (h : w.ranges Try.prog 3 accR b r n D left cnt)
    (hDone : cnt = 0 → (∀ kl, left kl = false) → wpList Try.prog ops Q rest (a.put o.dst (.tuple #[.bool false])) w)
    (hMore : ∀ (x c d : Int) (w' : World) (cnt' : Nat), (Lit.int .i64 x).wf = true → left (.int .i64 x) = true → (∀ zd, D.atKey (.int .i64 x) zd = accD (c, d)) → w'.ranges Try.prog 3 accR b r n D (fun z => left z && !z.sameKey (.int .i64 x)) cnt' → cnt' < cnt →
      w.grownBy w' (some r) → w'.heap.size = w.heap.size → (Instr.entry (.pointer (some ⟨r, 0, none⟩))).run Try.prog w' = .ok (.tuple #[.int .i64 x, .agg #[.int .i64 c, .int .i64 d]]) w' → wpList Try.prog ops Q rest (a.put o.dst (.tuple #[.bool true, .int .i64 x, .agg #[.int .i64 c, .int .i64 d]])) w') :
    wpList Try.prog ops Q (o :: rest) a w :=
  wpList_next_ranges w hg it hop 3 int_law accR (Value.int .i64) (fun p : Int × Int => Value.agg #[.int .i64 p.1, .int .i64 p.2]) (fun key kl hkey => by obtain ⟨x, rfl, _⟩ := Maps.keyOf_int_inv Try.underlying3 hkey; exact ⟨x, rfl⟩) (fun v y hv => by obtain ⟨p, rfl, _⟩ := accR_all hv; exact ⟨p, rfl⟩)
    b r n D left cnt hit h hDone (fun x c kl y w' cnt' hkey hlk hv hat hrg hlt hgr hsz hen => by
      obtain ⟨x', ex, rfl, hwx⟩ := Maps.keyOf_int_inv Try.underlying3 hkey
      cases ex
      obtain ⟨p, ep, rfl⟩ := accR_all hv
      obtain ⟨c1, c2⟩ := c
      obtain ⟨p1, p2⟩ := p
      simp only [Value.agg.injEq] at ep
      injection ep with ep
      injection ep with e1 ep
      injection ep with e2 _
      injection e1 with _ e1
      injection e2 with _ e2
      subst e1; subst e2
      exact hMore x c1 c2 w' cnt' hwx hlk hat hrg hlt hgr hsz hen)
end
/-- a copy -/
def CpIs (w : World) (r n : Nat) (f : Int → Option (Int × Int)) (e : Ending) (w' : World) : Prop := ∃ b' m', e = .returned (.pointer (some ⟨b', 0, none⟩)) ∧ w.heap.size ≤ b' ∧ w.heap.size ≤ m' ∧ Bk w' b' r m' n f ∧ Below w.heap.size w w'
theorem run_mmn (W : World) (n : Int) : (Instr.makeMap 59 (some (.int .i64 n))).run Try.prog W = .ok (.map (some W.heap.size)) (W.alloc (.map #[] 0)) := by kernel_rfl
set_option maxRecDepth 100000 in
set_option maxHeartbeats 4000000 in
theorem copy_any (b r m n : Nat) (f : Int → Option (Int × Int)) (w : World) (h : Bk w b r m n f) (hn : n ≤ 1000000) : Calls Try.prog 16 #[.pointer (some ⟨b, 0, none⟩)] w (CpIs w r n f) := by
  obtain ⟨q0, q1⟩ := h.b.c2
  have bl := h.b.lt
  have HB := Lib.hid h
  obtain ⟨D, hown, hD⟩ := h.m
  have hml := hown.lt
  have hsz := hown.size_le
  have HD := Lib.hid hD
  have HO := Lib.hid hown
  have hmm := run_mmn
  have e1 : (w.alloc (.map #[] 0)).heap.size = w.heap.size + 1 := by simp
  clear h hD hown
  go_enter Try.func16, Try.ntmps16
  go_wp2_with (first
    | (at_len
       refine wpList_len_own _ rfl _ 59 rfl 3 61 Try.underlying59 _ m n D rfl HO.out ?_)
    | (at_range
       refine wpList_range_own _ rfl _ 59 rfl 3 61 int_law Try.underlying59 _ m n D rfl (HO.out.alloc _) ?_
       intro w0 hrg0 hg0 hs0))
  go_frame
  rw [e1] at hrg0 hs0 ⊢
  have nm : ∀ W : World, w.heap.size ≤ W.heap.size → m ≠ W.heap.size := fun W hW => by omega
  go_loopw [4] (fun _ wr => ∃ (left : Lit → Bool) (cnt : Nat) (Dout : DataW Unit), wr.ranges Try.prog 3 accR m (w.heap.size + 1) n D left cnt ∧ cnt ≤ size D ∧
      wr.ownsMap Try.prog 3 accR w.heap.size (size D - cnt) Dout ∧ Agree Dout D left ∧ Hid (Below w.heap.size w wr))
    (fun _ wr => wr.rangeLeft m (w.heap.size + 1))
  case atStart =>
    exact ⟨_, _, .map [], hrg0, Nat.le_refl _, ((World.ownsMap_made w _ _ _).kept hg0 (by simp)).mono (Nat.zero_le _), agree_start D, Lib.hid (((Below.refl _ _).alloc (Nat.le_refl _) _).grown hg0 (by simp) (fun j hj => by cases hj))⟩
  case round =>
    obtain ⟨left, cnt, Dout, hrg, hcs, hout, hA, hnx⟩ := hrel
    have HA := Lib.hid hA; have HOU := Lib.hid hout; have HRG := Lib.hid hrg
    clear hA hout hrg
    have BB := Lib.hid (HB.out.b.keeps (Keeps.of_below (S := fun _ => False) hnx.out) id)
    obtain ⟨p0, p1⟩ := BB.out.c2
    have pl := BB.out.lt
    clear q0 q1
    go_wp2_with (at_next
                 refine wpList_next_acc _ rfl _ rfl m (w.heap.size + 1) n D left cnt rfl HRG.out ?_ ?_)
    · intro hc0 hl0
      subst hc0
      have e := agree_end HA.out hl0 (HOU.out.canon int_law) (HO.out.canon int_law)
      subst e
      have H1 := Lib.hid HOU.out
      clear hl0
      go_wp2
      go_ret
      refine ⟨wr.heap.size, w.heap.size, rfl, hnx.out.size, Nat.le_refl _, ⟨Blk.new wr _ _, ⟨Dout, (HOU.out.mono (by omega)).alloc _, HD.out⟩⟩, hnx.out.alloc hnx.out.size _⟩
    · intro x c d w1 cnt1 hwx hlx hat hrg1 hlt hg1 hs1 hen
      have H1 := Lib.hid ((HOU.out.kept hg1 (by simp)).alloc (.cells #[.int .i64 c, .int .i64 d] 61))
      have HR1 := Lib.hid (hrg1.alloc (.cells #[.int .i64 c, .int .i64 d] 61))
      have HN1 := Lib.hid ((hnx.out.grown hg1 hnx.out.size (fun j hj => by cases hj; exact Nat.le_succ _)).alloc (by have := hnx.out.size; omega) (.cells #[.int .i64 c, .int .i64 d] 61))
      have HAT := Lib.hid hat
      clear hat hrg1 hlx
      have HG1 := Lib.hid hg1
      clear hg1
      go_wp2_with (at_mapUpdate
                   refine wpList_mapUpdate_own _ rfl _ _ _ 59 rfl 3 61 int_law Try.underlying59 _ w.heap.size _ _ rfl H1.out (by simp only [maxLen]; omega) _ _ _ rfl rfl (key_int hwx) _ [] (accR_mk (c, d)) ?_
                   intro w2 hout2 hg2
                   go_frame)
      have hrg2 := HR1.out.kept hg2 (fun e => by have := Option.some.inj e; omega) (fun e => by have := Option.some.inj e; omega)
      go_roundw
      case rel =>
        exact ⟨_, cnt1, _, hrg2, by omega, hout2.mono (by omega), agree_step HA.out HOU.out.isMap trivial HAT.out, Lib.hid (HN1.out.grown hg2 (by have := hnx.out.size; simp; omega) (fun j hj => by cases hj; exact Nat.le_refl _))⟩
      case measure => rw [hrg2.left_eq, HRG.out.left_eq]; exact hlt
end Go.Proofs.Ytkfpopilkagedaa
