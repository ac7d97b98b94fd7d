/- The book: Move whole; a call. -/
import Derived.Test.YtkfpopilkagedaaLgP
set_option linter.unusedSimpArgs false
set_option linter.unusedVariables false
namespace Go.Proofs.Ytkfpopilkagedaa
open Go.RowKit Mo
theorem Bk.mono {w : World} {b r m n n' : Nat} {f : Int → Option (Int × Int)} (h : Bk w b r m n f) (hn : n ≤ n') : Bk w b r m n' f := ⟨h.b, h.m.mono hn⟩
theorem move_any (b r m k : Nat) (f : Int → Option (Int × Int)) (a c n fee V E q : Int) (f' : Int → Option (Int × Int)) (w : World) (h : Bk w b r m k f) (hF : FOk f q) (hq : q ≤ 8000) (wa : (Lit.int .i64 a).wf = true) (wc : (Lit.int .i64 c).wf = true) (hr : rateOk r = true) (hb : r < 18446744073709551616) (hfee : prodV n r false = fee) (hk : k + 2 < maxLen) (hO : MvIs f fee a c n V E f') :
    Calls Try.prog 14 #[.pointer (some ⟨b, 0, none⟩), .int .i64 a, .int .i64 c, .int .i64 n] w fun e w' => e = .returned (.tuple #[.int .i64 V, .int .i64 E]) ∧ Bk w' b r m (k + 2) f' ∧ Keeps (· = m) w w' := by
  have hb0 : ∀ w', Below w.heap.size w w' → Bk w' b r m (k + 2) f ∧ Keeps (· = m) w w' := fun w' hw => ⟨(h.keeps (Keeps.of_below (S := fun _ => False) hw) id id).mono (by omega), Keeps.of_below hw⟩
  rcases hO with ⟨h1, rfl, rfl, rfl⟩ | ⟨h1, h2, h3, rfl, rfl, rfl⟩ | ⟨h1, h2, h3, h4, rfl, rfl, rfl, rfl⟩ | ⟨ho, hx, rfl, rfl, rfl⟩ | ⟨x, ho, hx, hs, rfl, rfl, rfl⟩ | ⟨x, ho, hx, hs, hy, rfl, rfl, rfl⟩ | ⟨x, y, ho, hx, hs, hy, hz, rfl, rfl, rfl⟩ | ⟨x, y, ho, hx, hs, hy, hz, rfl, rfl, rfl⟩
  · refine (move_acc b r a c n w h1).mono ?_
    rintro e w' ⟨rfl, rfl⟩
    exact ⟨rfl, h.mono (by omega), Keeps.refl _ _⟩
  · refine (move_amt b r a c n w h1 h2 h3).mono ?_
    rintro e w' ⟨rfl, rfl⟩
    exact ⟨rfl, h.mono (by omega), Keeps.refl _ _⟩
  · refine (move_self b r a n w h1 h3 h4).mono ?_
    rintro e w' ⟨rfl, rfl⟩
    exact ⟨rfl, h.mono (by omega), Keeps.refl _ _⟩
  · refine (move_from b r m k f a c n w h ho wa hx).mono ?_
    rintro e w' ⟨rfl, hw⟩
    exact ⟨rfl, hb0 _ hw⟩
  · refine (move_short b r m k f a c n fee x.1 x.2 w h ho wa hx hr hb hfee hs).mono ?_
    rintro e w' ⟨rfl, hw⟩
    exact ⟨rfl, hb0 _ hw⟩
  · refine (move_to b r m k f a c n fee x.1 x.2 w h ho wa wc hx hr hb hfee hs hy).mono ?_
    rintro e w' ⟨rfl, hw⟩
    exact ⟨rfl, hb0 _ hw⟩
  · refine (move_full b r m k f a c n fee x.1 x.2 y.1 y.2 w h ho wa wc hx hr hb hfee hs hy (hF c y hy).2.1 hz).mono ?_
    rintro e w' ⟨rfl, hw⟩
    exact ⟨rfl, hb0 _ hw⟩
  · obtain ⟨_, g2, g3, g4⟩ := hF a x hx
    exact move_done b r m k f a c n _ x.1 x.2 y.1 y.2 w h ho wa wc hx hr hb hfee hs hy g2 (hF c y hy).2.1 hz g3 (by omega) hk
/-- what a call answers, and what the accounts are behind it -/
def DoIs (f : Int → Option (Int × Int)) (r : Nat) (kd a c n V E : Int) (f' : Int → Option (Int × Int)) : Prop := (kd = 0 ∧ V = 0 ∧ OpIs f c n E f') ∨ (kd ≠ 0 ∧ MvIs f (prodV n r false) a c n V E f')
theorem do_of (f : Int → Option (Int × Int)) (r : Nat) (kd a c n : Int) : ∃ V E f', DoIs f r kd a c n V E f' := by
  by_cases h : kd = 0
  · obtain ⟨E, f', h'⟩ := op_of f c n
    exact ⟨0, E, f', .inl ⟨h, rfl, h'⟩⟩
  · obtain ⟨V, E, f', h'⟩ := mv_of f (prodV n r false) a c n
    exact ⟨V, E, f', .inr ⟨h, h'⟩⟩
theorem fee_bd {n : Int} {r : Nat} (hr : rateOk r = true) (hn : isA n = true) : 0 ≤ prodV n r false ∧ prodV n r false ≤ n := by
  obtain ⟨n0, n1⟩ := isA_iff.1 hn
  have hv := fee_val n r n0 n1 hr
  exact ⟨by rw [hv.2.1]; omega, hv.2.2⟩
/-- what a move asks of its fee holds of an amount -/
theorem MvIs.fee_ok {f f' : Int → Option (Int × Int)} {r : Nat} {a c n V E : Int} {q : Int} (hr : rateOk r = true) (h : FOk f q) (hq : 0 ≤ q) (hO : MvIs f (prodV n r false) a c n V E f') : FOk f' (q + 1) := by
  by_cases hn : isA n = true
  · have := fee_bd hr hn
    have := isA_iff.1 hn
    exact h.moved hq (by omega) (by omega) hO
  · have hm := h.mono (q' := q + 1) (by omega)
    rcases hO with ⟨_, _, _, rfl⟩ | ⟨_, _, _, _, _, rfl⟩ | ⟨_, _, _, _, _, _, _, rfl⟩ | ⟨_, _, _, _, rfl⟩ | ⟨_, _, _, _, _, _, rfl⟩ | ⟨_, _, _, _, _, _, _, rfl⟩ | ⟨_, _, _, _, _, _, _, _, _, rfl⟩ | ⟨x, y, ho, _⟩
    · exact hm
    · exact hm
    · exact hm
    · exact hm
    · exact hm
    · exact hm
    · exact hm
    · exact absurd ho.2.2.2.1 hn
theorem DoIs.ok {f f' : Int → Option (Int × Int)} {r : Nat} {kd a c n V E : Int} {q : Int} (hr : rateOk r = true) (h : FOk f q) (hq : 0 ≤ q) (hO : DoIs f r kd a c n V E f') : FOk f' (q + 1) := by
  rcases hO with ⟨_, _, h'⟩ | ⟨_, h'⟩
  · exact (h.opened hq h').mono (by omega)
  · exact h'.fee_ok hr h hq
theorem DoIs.tot {f f' : Int → Option (Int × Int)} {r : Nat} {kd a c n V E : Int} (hO : DoIs f r kd a c n V E f') : tot f' = tot f + if E = 0 ∧ kd = 0 then n else 0 := by
  rcases hO with ⟨h0, _, h'⟩ | ⟨h0, h'⟩
  · rw [tot_opened h']
    by_cases h : E = 0 <;> simp [h, h0]
  · rw [tot_moved h', if_neg (fun h => h0 h.2), Int.add_zero]
/-- an amount that was opened is one -/
theorem DoIs.amt {f f' : Int → Option (Int × Int)} {r : Nat} {kd a c n V : Int} (hO : DoIs f r kd a c n V 0 f') (hk : kd = 0) : 0 ≤ n ∧ n ≤ 1000000000000000 := by
  rcases hO with ⟨_, _, ⟨_, h, _⟩ | ⟨_, _, h, _⟩ | ⟨_, _, _, h, _⟩ | ⟨_, _, h, _, _⟩⟩ | ⟨h, _⟩
  · exact absurd h (by decide)
  · exact absurd h (by decide)
  · exact absurd h (by decide)
  · exact isA_iff.1 h
  · exact absurd hk h
set_option maxRecDepth 100000 in
set_option maxHeartbeats 2000000 in
theorem does_any (b r m k : Nat) (f : Int → Option (Int × Int)) (kd a c n V E q : Int) (f' : Int → Option (Int × Int)) (w : World) (h : Bk w b r m k f) (hF : FOk f q) (hq : q ≤ 8000) (wa : (Lit.int .i64 a).wf = true) (wc : (Lit.int .i64 c).wf = true) (wn : (Lit.int .i64 n).wf = true) (hr : rateOk r = true) (hb : r < 18446744073709551616) (hk : k + 2 < maxLen) (hO : DoIs f r kd a c n V E f') :
    Calls Try.prog 19 #[.pointer (some ⟨b, 0, none⟩), .agg #[.int .i64 kd, .int .i64 a, .int .i64 c, .int .i64 n]] w fun e w' => e = .returned (.tuple #[.int .i64 V, .int .i64 E]) ∧ Bk w' b r m (k + 2) f' ∧ Keeps (· = m) w w' := by
  have HB := Lib.hid h; have HF := Lib.hid hF; have HR := Lib.hid hr
  have B1 := Lib.hid (h.keeps (Keeps.of_below (S := fun _ => False) ((Below.refl w.heap.size w).alloc (Nat.le_refl _) (.cells #[.int .i64 kd, .int .i64 a, .int .i64 c, .int .i64 n] 44))) id id)
  have K1 := Lib.hid ((Keeps.refl (· = m) w).alloc (.cells #[.int .i64 kd, .int .i64 a, .int .i64 c, .int .i64 n] 44))
  clear h hF hr
  rcases hO with ⟨h0, hV, h'⟩ | ⟨h0, h'⟩
  · have HO := Lib.hid h'; have HV := Lib.hid hV
    have b0 : (kd == 0) = true := by simpa using h0
    clear h' h0 hV
    go_enter Try.func19, Try.ntmps19
    go_wp2_with (go_at_call 13; with_reducible refine (open_any b r m k f c n E f' _ wc wn (by omega) B1.out HO.out).mono ?_; rintro e w1 ⟨rfl, hb1, hk1⟩)
    go_ret2
    exact ⟨by rw [HV.out]; rfl, hb1.mono (by omega), K1.out.trans hk1⟩
  · have HO := Lib.hid h'
    have b0 : (kd == 0) = false := by simpa using h0
    clear h' h0
    go_enter Try.func19, Try.ntmps19
    go_wp2_with (go_at_call 14; with_reducible refine (move_any b r m k f a c n _ V E q f' _ B1.out HF.out hq wa wc HR.out hb rfl hk HO.out).mono ?_; rintro e w1 ⟨rfl, hb1, hk1⟩)
    go_ret2
    exact ⟨rfl, hb1, K1.out.trans hk1⟩
end Go.Proofs.Ytkfpopilkagedaa
