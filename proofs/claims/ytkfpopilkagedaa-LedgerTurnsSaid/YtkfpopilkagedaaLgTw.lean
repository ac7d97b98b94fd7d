/- LedgerTurns: the walk. -/
import Derived.Test.YtkfpopilkagedaaLgTu
set_option linter.unusedSimpArgs false
set_option linter.unusedVariables false
namespace Go.Proofs.Ytkfpopilkagedaa
open Go.RowKit Mo
theorem MapF.neB {w : World} {m n g : Nat} {f : Int → Option (Int × Int)} {T : TypeId} {cs : Array Value} (h : MapF w m n f) (hb : Blk w g T cs) : g ≠ m := by
  rintro rfl
  obtain ⟨D, ⟨es, clock, hm, _⟩, _⟩ := h
  unfold Blk at hb
  rw [hb] at hm
  cases hm
/-- two books and two structs -/
structure T4 (w0 W : World) (r b m k : Nat) (f : Int → Option (Int × Int)) (b' m' k' : Nat) (g : Int → Option (Int × Int)) (bp bq : Nat) (p q : Array Value) : Prop where
  B : Bk W b r m k f
  C : Bk W b' r m' k' g
  P : Blk W bp 44 p
  Q : Blk W bq 44 q
  H : Below w0.heap.size w0 W
  n1 : b' ≠ m
  n2 : m' ≠ m
  n3 : b ≠ m'
  n4 : w0.heap.size ≤ m
  n5 : w0.heap.size ≤ m'
section
variable {w0 W W' : World} {r b m k k2 b' m' k' bp bq : Nat} {f f2 g : Int → Option (Int × Int)} {p q : Array Value}
theorem T4.pass (h : T4 w0 W r b m k f b' m' k' g bp bq p q) (hb : Below W.heap.size W W') : T4 w0 W' r b m k f b' m' k' g bp bq p q :=
  ⟨h.B.pass hb, h.C.pass hb, Blk.below h.P hb h.P.lt, Blk.below h.Q hb h.Q.lt, below_then h.H hb, h.n1, h.n2, h.n3, h.n4, h.n5⟩
theorem T4.stepB (h : T4 w0 W r b m k f b' m' k' g bp bq p q) (hB : Bk W' b r m k2 f2) (hk : Keeps (· = m) W W') : T4 w0 W' r b m k2 f2 b' m' k' g bp bq p q :=
  ⟨hB, h.C.keeps hk h.n1 h.n2, h.P.keeps hk (h.B.m.neB h.P), h.Q.keeps hk (h.B.m.neB h.Q), below_kp h.H hk h.n4, h.n1, h.n2, h.n3, h.n4, h.n5⟩
theorem T4.stepC (h : T4 w0 W r b m k f b' m' k' g bp bq p q) (hC : Bk W' b' r m' k2 f2) (hk : Keeps (· = m') W W') : T4 w0 W' r b m k f b' m' k2 f2 bp bq p q :=
  ⟨h.B.keeps hk h.n3 (fun e => h.n2 e.symm), hC, h.P.keeps hk (h.C.m.neB h.P), h.Q.keeps hk (h.C.m.neB h.Q), below_kp h.H hk h.n5, h.n1, h.n2, h.n3, h.n4, h.n5⟩
end
set_option maxRecDepth 100000 in
set_option maxHeartbeats 4000000 in
theorem turns_bad (w : World) (r : Nat) (hb64 : r < 18446744073709551616) (hrt : rateOk r = false) (A : Option Addr) (n c : Nat) (pk pf pt pn qk qf qt qn : Int) :
    Calls Try.prog 6 #[.float .f64 r, .slice A n c, .agg #[.int .i64 pk, .int .i64 pf, .int .i64 pt, .int .i64 pn, .int .i64 qk, .int .i64 qf, .int .i64 qt, .int .i64 qn]] w fun e w' => e = .returned (.bool true) ∧ Below w.heap.size w w' := by
  have HR := Lib.hid hrt
  have T1 := Lib.hid (Blk.new w 50 #[.int .i64 pk, .int .i64 pf, .int .i64 pt, .int .i64 pn, .int .i64 qk, .int .i64 qf, .int .i64 qt, .int .i64 qn])
  have W0 : Hid (Below w.heap.size w (w.alloc (.cells #[.int .i64 pk, .int .i64 pf, .int .i64 pt, .int .i64 pn, .int .i64 qk, .int .i64 qf, .int .i64 qt, .int .i64 qn] 50))) := Lib.hid (by repeat (first | exact Below.refl _ _ | refine below_alloc_ ?_ _ | refine Below.drew ?_))
  clear hrt
  go_enter Try.func6, Try.ntmps6
  go_wp2_with ((go_at_call 8; (with_reducible refine (made_bad r _ _ _ _ hb64 HR.out).mono ?_); rintro e w1 ⟨rfl, rfl⟩))
  have t0 := T1.out.cell 0; have t1 := T1.out.cell 1; have t2 := T1.out.cell 2; have t3 := T1.out.cell 3; have t4 := T1.out.cell 4; have t5 := T1.out.cell 5; have t6 := T1.out.cell 6; have t7 := T1.out.cell 7
  simp only [List.getElem?_toArray, List.getElem?_cons_zero, List.getElem?_cons_succ] at t0 t1 t2 t3 t4 t5 t6 t7
  go_upto_region 2 with fail
  go_cut [9, 10] (fun s9 s10 wx => ∃ bp bq : Nat, s9 = .pointer (some ⟨bp, 0, none⟩) ∧ s10 = .pointer (some ⟨bq, 0, none⟩) ∧ Hid (Blk wx bp 44 #[.int .i64 pk, .int .i64 pf, .int .i64 pt, .int .i64 pn]) ∧ Hid (Blk wx bq 44 #[.int .i64 qk, .int .i64 qf, .int .i64 qt, .int .i64 qn]) ∧ Hid (Below (w.alloc (.cells #[.int .i64 pk, .int .i64 pf, .int .i64 pt, .int .i64 pn, .int .i64 qk, .int .i64 qf, .int .i64 qt, .int .i64 qn] 50)).heap.size (w.alloc (.cells #[.int .i64 pk, .int .i64 pf, .int .i64 pt, .int .i64 pn, .int .i64 qk, .int .i64 qf, .int .i64 qt, .int .i64 qn] 50)) wx))
  case first =>
    go_region_with (fail)
    all_goals
      go_wp2_with fail
      go_meet
      exact ⟨_, _, rfl, rfl, Lib.hid (by repeat (first | (refine Blk.new' ?_; simp; done) | (refine Blk.new' ?_; rfl) | refine Blk.alloc ?_ _ | refine Blk.drewN ?_ _ | refine Blk.drew ?_)), Lib.hid (by repeat (first | (refine Blk.new' ?_; simp; done) | (refine Blk.new' ?_; rfl) | refine Blk.alloc ?_ _ | refine Blk.drewN ?_ _ | refine Blk.drew ?_)), Lib.hid (by repeat (first | exact Hid.out (by assumption) | exact Below.refl _ _ | refine below_alloc_ ?_ _ | refine below_drewN_ ?_ _ | refine Below.drew ?_ | refine below_set_ ?_ (by first | exact Nat.le_refl _ | (simp; done) | (simp; omega)) _))⟩
  case rest =>
    obtain ⟨bp, bq, rfl, rfl, P, Q, HW⟩ := hcut
    have W1 := Lib.hid (below_then W0.out HW.out)
    clear t0 t1 t2 t3 t4 t5 t6 t7
    go_wp2_with ((go_at_call 9; (with_reducible refine (awake14_any _).mono ?_); rintro e w2 ⟨rfl, hb⟩; have HB1 := Lib.hid (below_then W1.out hb); clear W1; have W1 := HB1; clear HB1; clear hb))
    go_ret
    exact ⟨rfl, W1.out⟩
set_option maxRecDepth 100000 in
set_option maxHeartbeats 8000000 in
theorem turns_ok (w : World) (r : Nat) (hb64 : r < 18446744073709551616) (hrt : rateOk r = true) (A : Option Addr) (c : Nat) (xs : List VOp14) (ha : Reads w w.heap.size 4 A xs.length (xs.flatMap VOp14.cells)) (hx : ∀ u ∈ xs, VOp14.ok w u) (hml : xs.length ≤ 9223372036854775807) (pk pf pt pn qk qf qt qn : Int)
    (v1 : (Lit.int .i64 pf).wf = true) (v2 : (Lit.int .i64 pt).wf = true) (v3 : (Lit.int .i64 pn).wf = true) (u1 : (Lit.int .i64 qf).wf = true) (u2 : (Lit.int .i64 qt).wf = true) (u3 : (Lit.int .i64 qn).wf = true) :
    Calls Try.prog 6 #[.float .f64 r, .slice A xs.length c, .agg #[.int .i64 pk, .int .i64 pf, .int .i64 pt, .int .i64 pn, .int .i64 qk, .int .i64 qf, .int .i64 qt, .int .i64 qn]] w fun e w' => e = .returned (.bool true) ∧ Below w.heap.size w w' := by
  have HR := Lib.hid hrt
  have T0 := Lib.hid (Blk.new w 50 #[.int .i64 pk, .int .i64 pf, .int .i64 pt, .int .i64 pn, .int .i64 qk, .int .i64 qf, .int .i64 qt, .int .i64 qn])
  have W0 : Hid (Below w.heap.size w (w.alloc (.cells #[.int .i64 pk, .int .i64 pf, .int .i64 pt, .int .i64 pn, .int .i64 qk, .int .i64 qf, .int .i64 qt, .int .i64 qn] 50))) := Lib.hid (by repeat (first | exact Below.refl _ _ | refine below_alloc_ ?_ _ | refine Below.drew ?_))
  have HA := Lib.hid (Reads.al ha (.cells #[.int .i64 pk, .int .i64 pf, .int .i64 pt, .int .i64 pn, .int .i64 qk, .int .i64 qf, .int .i64 qt, .int .i64 qn] 50)); have HX := Lib.hid (show ∀ u ∈ xs, VOp14.ok (w.alloc (.cells #[.int .i64 pk, .int .i64 pf, .int .i64 pt, .int .i64 pn, .int .i64 qk, .int .i64 qf, .int .i64 qt, .int .i64 qn] 50)) u from fun u hu => hx u hu)
  clear hrt ha hx
  go_enter Try.func6, Try.ntmps6
  go_wp2_with ((go_at_call 8; (with_reducible refine (made_ok r A c xs _ HA.out HX.out hml hb64 HR.out).mono ?_); rintro e w1 ⟨b, m, f, N, rfl, hb, hm, hf, ht, n0, n1, hbk, hbw⟩; have HF := Lib.hid hf; have B1 := Lib.hid hbk; have W1 := Lib.hid (below_then W0.out hbw); have T1 := Lib.hid (Blk.below T0.out hbw T0.out.lt); clear hf ht hbk hbw n0 n1))
  have tl := T1.out.lt
  have t0 := T1.out.cell 0; have t1 := T1.out.cell 1; have t2 := T1.out.cell 2; have t3 := T1.out.cell 3; have t4 := T1.out.cell 4; have t5 := T1.out.cell 5; have t6 := T1.out.cell 6; have t7 := T1.out.cell 7
  simp only [List.getElem?_toArray, List.getElem?_cons_zero, List.getElem?_cons_succ] at t0 t1 t2 t3 t4 t5 t6 t7
  go_upto_region 2 with fail
  go_cut [9, 10] (fun s9 s10 wx => ∃ bp bq : Nat, s9 = .pointer (some ⟨bp, 0, none⟩) ∧ s10 = .pointer (some ⟨bq, 0, none⟩) ∧ Hid (Blk wx bp 44 #[.int .i64 pk, .int .i64 pf, .int .i64 pt, .int .i64 pn]) ∧ Hid (Blk wx bq 44 #[.int .i64 qk, .int .i64 qf, .int .i64 qt, .int .i64 qn]) ∧ Hid (Below w1.heap.size w1 wx))
  case first =>
    go_region_with (fail)
    all_goals
      go_wp2_with fail
      go_meet
      exact ⟨_, _, rfl, rfl, Lib.hid (by repeat (first | (refine Blk.new' ?_; simp; done) | (refine Blk.new' ?_; rfl) | refine Blk.alloc ?_ _ | refine Blk.drewN ?_ _ | refine Blk.drew ?_)), Lib.hid (by repeat (first | (refine Blk.new' ?_; simp; done) | (refine Blk.new' ?_; rfl) | refine Blk.alloc ?_ _ | refine Blk.drewN ?_ _ | refine Blk.drew ?_)), Lib.hid (by repeat (first | exact Below.refl _ _ | refine below_alloc_ ?_ _ | refine Below.drew ?_))⟩
  case rest =>
    obtain ⟨bp, bq, rfl, rfl, P2, Q2, HW⟩ := hcut
    have W2 := Lib.hid (below_then W1.out HW.out); have B2 := Lib.hid (B1.out.pass HW.out)
    have hwm : w.heap.size ≤ m := by have := W0.out.size; omega
    clear t0 t1 t2 t3 t4 t5 t6 t7 tl HW hb hm T0 T1
    go_wp2_with fail
    refine (awake14_any _).mono ?_
    rintro e w3 ⟨rfl, hb3⟩
    have B3 := Lib.hid (B2.out.pass hb3); have W3 := Lib.hid (below_then W2.out hb3); have P3 := Lib.hid (Blk.below P2.out hb3 P2.out.lt); have Q3 := Lib.hid (Blk.below Q2.out hb3 Q2.out.lt)
    clear hb3
    obtain ⟨p0, p1, p2, p3⟩ := P3.out.c4
    obtain ⟨q0, q1, q2, q3⟩ := Q3.out.c4
    have pl := P3.out.lt; have ql := Q3.out.lt
    rcases (show pf = qf ∨ (pf ≠ qf ∧ pf = qt) ∨ (pf ≠ qf ∧ pf ≠ qt ∧ pt = qf) ∨ (pf ≠ qf ∧ pf ≠ qt ∧ pt ≠ qf ∧ pt = qt) ∨ (pf ≠ qf ∧ pf ≠ qt ∧ pt ≠ qf ∧ pt ≠ qt) by omega) with h | ⟨h, h2⟩ | ⟨h, h2, h3⟩ | ⟨h, h2, h3, h4⟩ | ⟨h, h2, h3, h4⟩
    · have e1 : (pf == qf) = true := by simpa using h
      clear h
      go_wp2_with fail
      go_ret
      exact ⟨rfl, W3.out⟩
    · have e1 : (pf == qf) = false := by simpa using h
      have e2 : (pf == qt) = true := by simpa using h2
      clear h h2
      go_wp2_with fail
      go_ret
      exact ⟨rfl, W3.out⟩
    · have e1 : (pf == qf) = false := by simpa using h
      have e2 : (pf == qt) = false := by simpa using h2
      have e3 : (pt == qf) = true := by simpa using h3
      clear h h2 h3
      go_wp2_with fail
      go_ret
      exact ⟨rfl, W3.out⟩
    · have e1 : (pf == qf) = false := by simpa using h
      have e2 : (pf == qt) = false := by simpa using h2
      have e3 : (pt == qf) = false := by simpa using h3
      have e4 : (pt == qt) = true := by simpa using h4
      clear h h2 h3 h4
      go_wp2_with fail
      go_ret
      exact ⟨rfl, W3.out⟩
    · have e1 : (pf == qf) = false := by simpa using h
      have e2 : (pf == qt) = false := by simpa using h2
      have e3 : (pt == qf) = false := by simpa using h3
      have e4 : (pt == qt) = false := by simpa using h4
      obtain ⟨V1, E1, f1, hO1⟩ := do_of f r pk pf pt pn
      obtain ⟨V2, E2, f2, hO2⟩ := do_of f1 r qk qf qt qn
      obtain ⟨g1, hO3, hO4⟩ := hO1.swap hO2 h h2 h3 h4
      have D1 := Lib.hid hO1; have D2 := Lib.hid hO2; have D3 := Lib.hid hO3; have D4 := Lib.hid hO4
      have F1 := Lib.hid (hO1.ok HR.out HF.out (by decide))
      have F2 := Lib.hid (hO2.ok HR.out F1.out (by decide))
      have G1 := Lib.hid (hO3.ok HR.out HF.out (by decide))
      clear h h2 h3 h4 hO1 hO2 hO3 hO4
      have bl := B3.out.b.lt; have ml := B3.out.m.lt
      go_wp2_with fail
      refine (copy_any b r m 80 f _ B3.out (by omega)).mono ?_
      rintro e w4 ⟨b', m', rfl, hb', hm', hc4, hb4⟩
      have T := Lib.hid (show T4 w w4 r b m 80 f b' m' 80 f bp bq #[.int .i64 pk, .int .i64 pf, .int .i64 pt, .int .i64 pn] #[.int .i64 qk, .int .i64 qf, .int .i64 qt, .int .i64 qn] from
        ⟨B3.out.pass hb4, hc4, Blk.below P3.out hb4 P3.out.lt, Blk.below Q3.out hb4 Q3.out.lt, below_then W3.out hb4, by omega, by omega, by omega, hwm, by have := W3.out.size; omega⟩)
      clear hc4 hb4 hb' hm' bl ml p0 p1 p2 p3 q0 q1 q2 q3 pl ql
      obtain ⟨p0, p1, p2, p3⟩ := T.out.P.c4
      have pl := T.out.P.lt
      go_wp2_with fail
      refine (does_any b r m 80 f pk pf pt pn V1 E1 40 f1 _ T.out.B HF.out (by omega) v1 v2 v3 HR.out hb64 (by decide) D1.out).mono ?_
      rintro e w5 ⟨rfl, hb5, hk5⟩
      have T5 := Lib.hid (T.out.stepB hb5 hk5)
      clear hb5 hk5 p0 p1 p2 p3 pl
      obtain ⟨q0, q1, q2, q3⟩ := T5.out.Q.c4
      have ql := T5.out.Q.lt
      go_wp2_with fail
      refine (does_any b r m (80 + 2) f1 qk qf qt qn V2 E2 41 f2 _ T5.out.B F1.out (by omega) u1 u2 u3 HR.out hb64 (by decide) D2.out).mono ?_
      rintro e w6 ⟨rfl, hb6, hk6⟩
      have T6 := Lib.hid (T5.out.stepB hb6 hk6)
      clear hb6 hk6 q0 q1 q2 q3 ql
      obtain ⟨q0, q1, q2, q3⟩ := T6.out.Q.c4
      have ql := T6.out.Q.lt
      go_wp2_with fail
      refine (does_any b' r m' 80 f qk qf qt qn V2 E2 40 g1 _ T6.out.C HF.out (by omega) u1 u2 u3 HR.out hb64 (by decide) D3.out).mono ?_
      rintro e w7 ⟨rfl, hb7, hk7⟩
      have T7 := Lib.hid (T6.out.stepC hb7 hk7)
      clear hb7 hk7 q0 q1 q2 q3 ql
      obtain ⟨p0, p1, p2, p3⟩ := T7.out.P.c4
      have pl := T7.out.P.lt
      go_wp2_with fail
      refine (does_any b' r m' (80 + 2) g1 pk pf pt pn V1 E1 41 f2 _ T7.out.C G1.out (by omega) v1 v2 v3 HR.out hb64 (by decide) D4.out).mono ?_
      rintro e w8 ⟨rfl, hb8, hk8⟩
      have T8 := Lib.hid (T7.out.stepC hb8 hk8)
      clear hb8 hk8 p0 p1 p2 p3 pl
      have s1 : (V1 == V1) = true := by simp
      have s2 : (V2 == V2) = true := by simp
      have s3 : (E1 == E1) = true := by simp
      have s4 : (E2 == E2) = true := by simp
      go_wp2_with (first
        | (go_at_call 10; (with_reducible refine (list_any b r m (80 + 2 + 2) f2 _ T8.out.B (by omega) F2.out.sup).mono ?_); rintro e w9 ⟨A9, c9, rfl, hr9, _, hb9⟩; have R9 := Lib.hid hr9; have T9 := Lib.hid (T8.out.pass hb9); clear hr9 hb9)
        | (go_at_call 10; (with_reducible refine (list_any b' r m' (80 + 2 + 2) f2 _ T9.out.C (by omega) F2.out.sup).mono ?_); rintro e w10 ⟨A10, c10, rfl, hr10, _, hb10⟩; have R10 := Lib.hid hr10; have R9' := Lib.hid (R9.out.pass hb10); have T10 := Lib.hid (T9.out.pass hb10); clear hr10 hb10)
        | (go_at_call 15; (with_reducible refine (lists_same _ R9'.out R10.out (by have := ents_len f2; omega)).mono ?_); rintro e w11 ⟨rfl, hb11⟩; have T11 := Lib.hid (T10.out.pass hb11); clear hb11))
      go_ret
      exact ⟨rfl, T11.out.H⟩
theorem ledgerTurns_walk (w : World) (r : Nat) (hwr : (Lit.float .f64 r).wf = true) (A : Option Addr) (c : Nat) (xs : List VOp14) (hr : SlOk w 4 A c (xs.flatMap VOp14.cells)) (_hc : xs.length ≤ c) (hm : c ≤ maxLen) (hx : ∀ u_ ∈ xs, VOp14.ok w u_) (pk pf pt pn qk qf qt qn : Int)
    (_v0 : (Lit.int .i64 pk).wf = true) (v1 : (Lit.int .i64 pf).wf = true) (v2 : (Lit.int .i64 pt).wf = true) (v3 : (Lit.int .i64 pn).wf = true) (_u0 : (Lit.int .i64 qk).wf = true) (u1 : (Lit.int .i64 qf).wf = true) (u2 : (Lit.int .i64 qt).wf = true) (u3 : (Lit.int .i64 qn).wf = true) :
    Calls Try.prog 6 #[.float .f64 r, .slice A xs.length c, .agg #[.int .i64 pk, .int .i64 pf, .int .i64 pt, .int .i64 pn, .int .i64 qk, .int .i64 qf, .int .i64 qt, .int .i64 qn]] w fun e w' => e = .returned (.bool true) ∧ Below w.heap.size w w' := by
  have ha := hr.reads (n := xs.length) (flatMap_len _ _ 4 (fun _ => rfl)) (by decide)
  have hml : xs.length ≤ 9223372036854775807 := by unfold maxLen at hm; omega
  have hb64 : r < 18446744073709551616 := by simpa [Lit.wf] using hwr
  cases hrt : rateOk r
  · exact turns_bad w r hb64 hrt A xs.length c pk pf pt pn qk qf qt qn
  · exact turns_ok w r hb64 hrt A c xs ha hx hml pk pf pt pn qk qf qt qn v1 v2 v3 u1 u2 u3
end Go.Proofs.Ytkfpopilkagedaa
