/- LedgerOwn: the walk. -/
import Derived.Test.YtkfpopilkagedaaLgMo
import Derived.Deep.DeepCutAuto
set_option linter.unusedSimpArgs false
set_option linter.unusedVariables false
namespace Go.Proofs.Ytkfpopilkagedaa
open Go.RowKit Mo
/-- what a row of calls makes of accounts -/
def Runs (r : Nat) (f : Int → Option (Int × Int)) (l : List VOp14) (F : Nat → Int → Option (Int × Int)) : Prop := F 0 = f ∧ ∀ k (h : k < l.length), ∃ V E, DoIs (F k) r l[k].kd l[k].fr l[k].too l[k].am V E (F (k + 1))
theorem runs_of (r : Nat) (l : List VOp14) : ∀ f, ∃ F, Runs r f l F := by
  induction l with
  | nil => exact fun f => ⟨fun _ => f, rfl, fun k h => absurd h (Nat.not_lt_zero _)⟩
  | cons x l ih =>
    intro f
    obtain ⟨V, E, f1, h1⟩ := do_of f r x.kd x.fr x.too x.am
    obtain ⟨F, h0, hF⟩ := ih f1
    refine ⟨fun k => match k with | 0 => f | k + 1 => F k, rfl, fun k h => ?_⟩
    cases k with
    | zero => exact ⟨V, E, by show DoIs f r _ _ _ _ V E (F 0); rw [h0]; exact h1⟩
    | succ k => exact hF k (by simpa using h)
theorem Runs.ok {r : Nat} {f : Int → Option (Int × Int)} {l : List VOp14} {F : Nat → Int → Option (Int × Int)} (h : Runs r f l F) (hr : rateOk r = true) {q : Int} (hq : 0 ≤ q) (hf : FOk f q) : ∀ k, k ≤ l.length → FOk (F k) (q + k) := by
  intro k
  induction k with
  | zero => intro _; rw [h.1]; exact hf.mono (by omega)
  | succ k ih =>
    intro hk
    obtain ⟨V, E, hO⟩ := h.2 k (by omega)
    exact (hO.ok hr (ih (by omega)) (by omega)).mono (by omega)
set_option maxRecDepth 100000 in
set_option maxHeartbeats 4000000 in
theorem own_bad (w : World) (r : Nat) (hb64 : r < 18446744073709551616) (hrt : rateOk r = false) (A B : Option Addr) (n c m d : Nat) :
    Calls Try.prog 7 #[.float .f64 r, .slice A n c, .slice B m d] w fun e w' => e = .returned (.bool true) ∧ Below w.heap.size w w' := by
  have HR := Lib.hid hrt
  have HB : Hid (Below w.heap.size w w) := Lib.hid (Below.refl _ _)
  clear hrt
  go_enter Try.func7, Try.ntmps7
  go_wp2_with (first
    | (go_at_call 8; (with_reducible refine (made_bad r _ _ _ _ hb64 HR.out).mono ?_); rintro e w1 ⟨rfl, rfl⟩)
    | (go_at_call 9; (with_reducible refine (awake14_any _).mono ?_); rintro e w2 ⟨rfl, hb⟩; have HB1 := Lib.hid (below_then HB.out hb); clear HB; have HB := HB1; clear HB1; clear hb))
  go_ret
  exact ⟨rfl, HB.out⟩
set_option maxRecDepth 100000 in
set_option maxHeartbeats 8000000 in
theorem own_ok (w : World) (r : Nat) (hb64 : r < 18446744073709551616) (hrt : rateOk r = true) (A B : Option Addr) (c d : Nat) (xs ys : List VOp14) (ha : Reads w w.heap.size 4 A xs.length (xs.flatMap VOp14.cells)) (hx : ∀ u ∈ xs, VOp14.ok w u) (hml : xs.length ≤ 9223372036854775807) (hb : Reads w w.heap.size 4 B ys.length (ys.flatMap VOp14.cells)) (hy : ∀ u ∈ ys, VOp14.ok w u) (hmy : ys.length ≤ 9223372036854775807) :
    Calls Try.prog 7 #[.float .f64 r, .slice A xs.length c, .slice B ys.length d] w fun e w' => e = .returned (.bool true) ∧ Below w.heap.size w w' := by
  have HR := Lib.hid hrt
  have HA := Lib.hid ha; have HX := Lib.hid hx; have HM := Lib.hid hb; have HY := Lib.hid hy
  clear hrt ha hx hb hy
  go_enter Try.func7, Try.ntmps7
  go_wp2_with (first
      | (go_at_call 8; (with_reducible refine (made_ok r A c xs _ HA.out HX.out hml hb64 HR.out).mono ?_); rintro e w1 ⟨b, m, f, N, rfl, hb, hm, hf, ht, n0, n1, hbk, hbw⟩; have HF := Lib.hid hf; have B1 := Lib.hid hbk; have W1 := Lib.hid hbw; clear hf ht hbk hbw n0 n1)
      | (go_at_call 9; (with_reducible refine (awake14_any _).mono ?_); rintro e w2 ⟨rfl, hb2⟩; have B2 := Lib.hid (B1.out.pass hb2); have W2 := Lib.hid (below_then W1.out hb2); clear hb2))
  have bl := B2.out.b.lt; have ml := B2.out.m.lt
  refine (copy_any b r m 80 f _ B2.out (by omega)).mono ?_
  rintro e w3 ⟨b', m', rfl, hb', hm', hc3, hb3⟩
  have n1 : b' ≠ m := by omega
  have n2 : m' ≠ m := by omega
  have n3 : b ≠ m' := by omega
  have hwm' : w.heap.size ≤ m' := by have := W2.out.size; omega
  have B3 := Lib.hid (B2.out.pass hb3); have C3 := Lib.hid hc3; have W3 := Lib.hid (below_then W2.out hb3)
  have ml3 := B3.out.m.lt; have ml3' := C3.out.m.lt
  clear hc3 hb3 hb' hm' bl ml
  go_wp2_with fail
  refine (list_any b r m 80 f _ B3.out (by omega) HF.out.sup).mono ?_
  rintro e w4 ⟨A4, c4, rfl, hr4, ha4, hb4⟩
  have B4 := Lib.hid (B3.out.pass hb4); have C4 := Lib.hid (C3.out.pass hb4); have W4 := Lib.hid (below_then W3.out hb4); have R4 := Lib.hid hr4
  have N4 := Lib.hid (show ∀ a, A4 = some a → a.block ≠ m ∧ a.block ≠ m' from fun a e => by have := ha4 a e; omega)
  clear hr4 ha4 hb4 ml3 ml3'
  obtain ⟨F, hF⟩ := runs_of r ys f
  have FK := Lib.hid (hF.ok HR.out (q := 40) (by decide) HF.out)
  have HRU := Lib.hid hF
  have F0 := Lib.hid hF.1
  clear hF
  obtain ⟨M, hM⟩ : ∃ M, (ys.length ≤ 40 ∧ M = ys.length) ∨ (40 < ys.length ∧ M = 40) := by
    by_cases h : ys.length ≤ 40
    · exact ⟨_, .inl ⟨h, rfl⟩⟩
    · exact ⟨40, .inr ⟨by omega, rfl⟩⟩
  have hM1 : M ≤ ys.length := by omega
  have hM2 : M ≤ 40 := by omega
  go_wp2_with fail
  go_loopw [11] (fun s wr => ∃ k : Nat, k ≤ M ∧ s = .int .i64 k ∧ Hid (Bk wr b' r m' (80 + 2 * k) (F k)) ∧ Hid (Keeps (· = m') w4 wr)) (fun s _ => ys.length - (intOf s).toNat)
  case atStart => exact ⟨0, Nat.zero_le _, rfl, Lib.hid (by rw [F0.out]; exact C4.out), Lib.hid (Keeps.refl _ _)⟩
  case round =>
    obtain ⟨k, hk, rfl, HC, HK⟩ := hrel
    have WR := Lib.hid (below_kp W4.out HK.out hwm')
    by_cases hlt : k < M
    · have hly : k < ys.length := by omega
      have hd : decide ((k : Int) < (ys.length : Int)) = true := by simp; omega
      have hd4 : decide ((k : Int) < 40) = true := by simp; omega
      obtain ⟨ad, hA, hadb, hcell⟩ := (HM.out.below WR.out).2 (by omega)
      subst hA
      obtain ⟨q0, q1, q2, q3⟩ := ops_at hcell k hly
      obtain ⟨V, E, hO⟩ := HRU.out.2 k hly
      have HO := Lib.hid hO
      have FKk := Lib.hid (FK.out k (by omega))
      obtain ⟨v0, v1, v2, v3⟩ := HY.out ys[k] (List.getElem_mem hly)
      clear hcell hO
      generalize ys[k] = u at *
      obtain ⟨kd, fr, too, am⟩ := u
      simp only at q0 q1 q2 q3 v0 v1 v2 v3 HO
      obtain ⟨fk1, hfk1⟩ : ∃ g, F (k + 1) = g := ⟨_, rfl⟩
      obtain ⟨fk, hfk⟩ : ∃ g, F k = g := ⟨_, rfl⟩
      rw [hfk1] at HO
      rw [hfk] at HO FKk HC
      have HFK1 := Lib.hid hfk1
      clear hfk1 hfk
      go_wp2_with ((go_at_call 19; (with_reducible refine (does_any b' r m' (80 + 2 * k) fk kd fr too am V E (40 + k) fk1 _ HC.out FKk.out (by omega) v1 v2 v3 HR.out hb64 (by simp only [maxLen]; omega) HO.out).mono ?_); rintro e w5 ⟨rfl, hb5, hk5⟩; have HC5 := Lib.hid hb5; have HK5 := Lib.hid (HK.out.trans hk5); clear hb5 hk5))
      go_roundw
      case rel => exact ⟨k + 1, by omega, by go_num, Lib.hid (by rw [HFK1.out]; exact HC5.out.mono (by omega)), HK5⟩
      case measure => simp [intOf]; omega
    · have hkM : M = k := by omega
      rcases hM with ⟨h1, h2⟩ | ⟨h1, h2⟩
      · have hd : decide ((k : Int) < (ys.length : Int)) = false := by simp; omega
        have hd' : decide (k < ys.length) = false := by simp; omega
        have BX := Lib.hid (B4.out.keeps HK.out n3 n2.symm)
        have RX := Lib.hid (R4.out.kp HK.out (fun a ha => (N4.out a ha).2))
        have KX := Lib.hid (FK.out k (by omega))
        have bx := BX.out.b.lt; have mx := BX.out.m.lt; have bx' := HC.out.b.lt; have mx' := HC.out.m.lt
        clear B4 R4 C4 HK hlt
        go_wp2_with fail
        refine (list_own b' r m' (80 + 2 * k) (F k) _ HC.out (by omega) KX.out.sup).mono ?_
        rintro e w7 ⟨A7, c7, rfl, ho7, hb7⟩
        have O7 := Lib.hid ho7
        have D7 := Lib.hid hb7
        have NN := Lib.hid (show ∀ g, (Value.slice A7 (ents (F k)).length c7).ownBlock = some g → wr.heap.size ≤ g from fun g hg => (ho7.lt g hg).1)
        have hnl := ents_len (F k)
        obtain ⟨n, hn⟩ : ∃ n, (ents (F k)).length = n := ⟨_, rfl⟩
        rw [hn] at O7 NN hnl ⊢
        clear ho7 hb7 hn
        go_wp2_with fail
        go_loopw [13] (fun s wq => ∃ i : Nat, i ≤ n ∧ s = .int .i64 i ∧ Hid (∃ zs, wq.ownsRow wr.heap.size 31 2 (.slice A7 n c7) n zs) ∧ Hid (Below wr.heap.size wr wq)) (fun s _ => n - (intOf s).toNat)
        case atStart => exact ⟨0, Nat.zero_le _, rfl, Lib.hid ⟨_, O7.out⟩, D7⟩
        case round =>
          obtain ⟨i, hi, rfl, HO, HQ⟩ := hrel
          obtain ⟨wz, rfl⟩ : ∃ wz, wz = wr := ⟨_, rfl⟩
          by_cases hin : i < n
          · have hdi : decide ((i : Int) < (n : Int)) = true := by simp; omega
            obtain ⟨zs, hz⟩ := HO.out
            obtain ⟨g, cap, hv, hg1, hg2⟩ := hz.form (by omega)
            injection hv with hv1 _ hv2
            subst hv1; subst hv2
            have hl := hz.1
            have z0 : wz.cell? ⟨g, i * 2, none⟩ = some (zs[i * 2]'(by omega)) := by rw [hz.cellAt (i * 2) (by omega)]; exact List.getElem?_eq_getElem _
            have z1 : wz.cell? ⟨g, i * 2 + 1, none⟩ = some (zs[i * 2 + 1]'(by omega)) := by rw [hz.cellAt (i * 2 + 1) (by omega)]; exact List.getElem?_eq_getElem _
            have y0 := hz.frozenAt (i * 2); have y1 := hz.frozenAt (i * 2 + 1)
            generalize zs[i * 2]'(by omega) = a0 at *
            generalize zs[i * 2 + 1]'(by omega) = a1 at *
            have HZ := Lib.hid hz
            clear hz hl
            go_wp2_with fail
            go_roundw
            case rel => exact ⟨i + 1, by omega, by go_num, Lib.hid ⟨_, ((HZ.out.stored (i * 2) _).1.stored (i * 2 + 1) _).1⟩, Lib.hid ((HQ.out.setCell hg1 _).setCell hg1 _)⟩
            case measure => simp [intOf]; omega
          · have hdi : decide ((i : Int) < (n : Int)) = false := by simp; omega
            have BZ := Lib.hid (BX.out.pass HQ.out); have CZ := Lib.hid (HC.out.pass HQ.out); have RZ := Lib.hid (RX.out.pass HQ.out); have WZ := Lib.hid (below_then WR.out HQ.out)
            clear BX HC RX WR HQ HO NN O7 D7
            go_wp2_with fail
            refine (list_any b r m 80 f _ BZ.out (by omega) HF.out.sup).mono ?_
            rintro e w9 ⟨A9, c9, rfl, hr9, _, hb9⟩
            have R9 := Lib.hid hr9; have RY := Lib.hid (RZ.out.pass hb9); have BY := Lib.hid (BZ.out.pass hb9); have CY := Lib.hid (CZ.out.pass hb9); have WY := Lib.hid (below_then WZ.out hb9)
            clear hr9 hb9 BZ CZ RZ WZ
            go_wp2_with fail
            refine (lists_same _ R9.out RY.out (by have := ents_len f; omega)).mono ?_
            rintro e w10 ⟨rfl, hb10⟩
            have B10 := Lib.hid (BY.out.pass hb10); have C10 := Lib.hid (CY.out.pass hb10); have W10 := Lib.hid (below_then WY.out hb10)
            clear hb10 BY CY WY R9 RY
            go_wp2_with fail
            go_loopw [14] (fun s wq => ∃ j : Nat, j ≤ M ∧ s = .int .i64 j ∧ Hid (Bk wq b r m (80 + 2 * j) (F j)) ∧ Hid (Keeps (· = m) w10 wq)) (fun s _ => ys.length - (intOf s).toNat)
            case atStart => exact ⟨0, Nat.zero_le _, rfl, Lib.hid (by rw [F0.out]; exact B10.out), Lib.hid (Keeps.refl _ _)⟩
            case round =>
              obtain ⟨j, hj, rfl, HB, HK⟩ := hrel
              obtain ⟨wy, rfl⟩ : ∃ wy, wy = wr := ⟨_, rfl⟩
              have WR := Lib.hid (below_kp W10.out HK.out hm)
              by_cases hlt : j < M
              · have hly : j < ys.length := by omega
                have hdj : decide ((j : Int) < (ys.length : Int)) = true := by simp; omega
                have hdj4 : decide ((j : Int) < 40) = true := by simp; omega
                obtain ⟨ad, hA, hadb, hcell⟩ := (HM.out.below WR.out).2 (by omega)
                subst hA
                obtain ⟨q0, q1, q2, q3⟩ := ops_at hcell j hly
                obtain ⟨V, E, hO⟩ := HRU.out.2 j hly
                have HO := Lib.hid hO
                have FKk := Lib.hid (FK.out j (by omega))
                obtain ⟨v0, v1, v2, v3⟩ := HY.out ys[j] (List.getElem_mem hly)
                clear hcell hO
                generalize ys[j] = u at *
                obtain ⟨kd, fr, too, am⟩ := u
                simp only at q0 q1 q2 q3 v0 v1 v2 v3 HO
                obtain ⟨fk1, hfk1⟩ : ∃ g, F (j + 1) = g := ⟨_, rfl⟩
                obtain ⟨fk, hfk⟩ : ∃ g, F j = g := ⟨_, rfl⟩
                rw [hfk1] at HO
                rw [hfk] at HO FKk HB
                have HFK1 := Lib.hid hfk1
                clear hfk1 hfk
                go_wp2_with ((go_at_call 19; (with_reducible refine (does_any b r m (80 + 2 * j) fk kd fr too am V E (40 + j) fk1 _ HB.out FKk.out (by omega) v1 v2 v3 HR.out hb64 (by simp only [maxLen]; omega) HO.out).mono ?_); rintro e w5 ⟨rfl, hb5, hk5⟩; have HC5 := Lib.hid hb5; have HK5 := Lib.hid (HK.out.trans hk5); clear hb5 hk5))
                go_roundw
                case rel => exact ⟨j + 1, by omega, by go_num, Lib.hid (by rw [HFK1.out]; exact HC5.out.mono (by omega)), HK5⟩
                case measure => simp [intOf]; omega
              · obtain rfl : j = k := by omega
                have CQ := Lib.hid (C10.out.keeps HK.out n1 n2)
                clear C10 B10
                go_wp2_with fail
                refine (list_any b r m (80 + 2 * j) (F j) _ HB.out (by omega) KX.out.sup).mono ?_
                rintro e w12 ⟨A12, c12, rfl, hr12, _, hb12⟩
                have R12 := Lib.hid hr12; have C12 := Lib.hid (CQ.out.pass hb12); have W12 := Lib.hid (below_then WR.out hb12)
                clear hr12 hb12
                go_wp2_with fail
                refine (list_any b' r m' (80 + 2 * j) (F j) _ C12.out (by omega) KX.out.sup).mono ?_
                rintro e w13 ⟨A13, c13, rfl, hr13, _, hb13⟩
                have R13 := Lib.hid hr13; have R12' := Lib.hid (R12.out.pass hb13); have W13 := Lib.hid (below_then W12.out hb13)
                clear hr13 hb13
                go_wp2_with fail
                refine (lists_same _ R12'.out R13.out (by have := ents_len (F j); omega)).mono ?_
                rintro e w14 ⟨rfl, hb14⟩
                have W14 := Lib.hid (below_then W13.out hb14)
                clear hb14
                go_wp2_with fail
                go_ret
                exact ⟨rfl, W14.out⟩
      · have hd : decide ((k : Int) < (ys.length : Int)) = true := by simp; omega
        have hd' : decide (k < ys.length) = true := by simp; omega
        have hd4 : decide ((k : Int) < 40) = false := by simp; omega
        have BX := Lib.hid (B4.out.keeps HK.out n3 n2.symm)
        have RX := Lib.hid (R4.out.kp HK.out (fun a ha => (N4.out a ha).2))
        have KX := Lib.hid (FK.out k (by omega))
        have bx := BX.out.b.lt; have mx := BX.out.m.lt; have bx' := HC.out.b.lt; have mx' := HC.out.m.lt
        clear B4 R4 C4 HK hlt
        go_wp2_with fail
        refine (list_own b' r m' (80 + 2 * k) (F k) _ HC.out (by omega) KX.out.sup).mono ?_
        rintro e w7 ⟨A7, c7, rfl, ho7, hb7⟩
        have O7 := Lib.hid ho7
        have D7 := Lib.hid hb7
        have NN := Lib.hid (show ∀ g, (Value.slice A7 (ents (F k)).length c7).ownBlock = some g → wr.heap.size ≤ g from fun g hg => (ho7.lt g hg).1)
        have hnl := ents_len (F k)
        obtain ⟨n, hn⟩ : ∃ n, (ents (F k)).length = n := ⟨_, rfl⟩
        rw [hn] at O7 NN hnl ⊢
        clear ho7 hb7 hn
        go_wp2_with fail
        go_loopw [13] (fun s wq => ∃ i : Nat, i ≤ n ∧ s = .int .i64 i ∧ Hid (∃ zs, wq.ownsRow wr.heap.size 31 2 (.slice A7 n c7) n zs) ∧ Hid (Below wr.heap.size wr wq)) (fun s _ => n - (intOf s).toNat)
        case atStart => exact ⟨0, Nat.zero_le _, rfl, Lib.hid ⟨_, O7.out⟩, D7⟩
        case round =>
          obtain ⟨i, hi, rfl, HO, HQ⟩ := hrel
          obtain ⟨wz, rfl⟩ : ∃ wz, wz = wr := ⟨_, rfl⟩
          by_cases hin : i < n
          · have hdi : decide ((i : Int) < (n : Int)) = true := by simp; omega
            obtain ⟨zs, hz⟩ := HO.out
            obtain ⟨g, cap, hv, hg1, hg2⟩ := hz.form (by omega)
            injection hv with hv1 _ hv2
            subst hv1; subst hv2
            have hl := hz.1
            have z0 : wz.cell? ⟨g, i * 2, none⟩ = some (zs[i * 2]'(by omega)) := by rw [hz.cellAt (i * 2) (by omega)]; exact List.getElem?_eq_getElem _
            have z1 : wz.cell? ⟨g, i * 2 + 1, none⟩ = some (zs[i * 2 + 1]'(by omega)) := by rw [hz.cellAt (i * 2 + 1) (by omega)]; exact List.getElem?_eq_getElem _
            have y0 := hz.frozenAt (i * 2); have y1 := hz.frozenAt (i * 2 + 1)
            generalize zs[i * 2]'(by omega) = a0 at *
            generalize zs[i * 2 + 1]'(by omega) = a1 at *
            have HZ := Lib.hid hz
            clear hz hl
            go_wp2_with fail
            go_roundw
            case rel => exact ⟨i + 1, by omega, by go_num, Lib.hid ⟨_, ((HZ.out.stored (i * 2) _).1.stored (i * 2 + 1) _).1⟩, Lib.hid ((HQ.out.setCell hg1 _).setCell hg1 _)⟩
            case measure => simp [intOf]; omega
          · have hdi : decide ((i : Int) < (n : Int)) = false := by simp; omega
            have BZ := Lib.hid (BX.out.pass HQ.out); have CZ := Lib.hid (HC.out.pass HQ.out); have RZ := Lib.hid (RX.out.pass HQ.out); have WZ := Lib.hid (below_then WR.out HQ.out)
            clear BX HC RX WR HQ HO NN O7 D7
            go_wp2_with fail
            refine (list_any b r m 80 f _ BZ.out (by omega) HF.out.sup).mono ?_
            rintro e w9 ⟨A9, c9, rfl, hr9, _, hb9⟩
            have R9 := Lib.hid hr9; have RY := Lib.hid (RZ.out.pass hb9); have BY := Lib.hid (BZ.out.pass hb9); have CY := Lib.hid (CZ.out.pass hb9); have WY := Lib.hid (below_then WZ.out hb9)
            clear hr9 hb9 BZ CZ RZ WZ
            go_wp2_with fail
            refine (lists_same _ R9.out RY.out (by have := ents_len f; omega)).mono ?_
            rintro e w10 ⟨rfl, hb10⟩
            have B10 := Lib.hid (BY.out.pass hb10); have C10 := Lib.hid (CY.out.pass hb10); have W10 := Lib.hid (below_then WY.out hb10)
            clear hb10 BY CY WY R9 RY
            go_wp2_with fail
            go_loopw [14] (fun s wq => ∃ j : Nat, j ≤ M ∧ s = .int .i64 j ∧ Hid (Bk wq b r m (80 + 2 * j) (F j)) ∧ Hid (Keeps (· = m) w10 wq)) (fun s _ => ys.length - (intOf s).toNat)
            case atStart => exact ⟨0, Nat.zero_le _, rfl, Lib.hid (by rw [F0.out]; exact B10.out), Lib.hid (Keeps.refl _ _)⟩
            case round =>
              obtain ⟨j, hj, rfl, HB, HK⟩ := hrel
              obtain ⟨wy, rfl⟩ : ∃ wy, wy = wr := ⟨_, rfl⟩
              have WR := Lib.hid (below_kp W10.out HK.out hm)
              by_cases hlt : j < M
              · have hly : j < ys.length := by omega
                have hdj : decide ((j : Int) < (ys.length : Int)) = true := by simp; omega
                have hdj4 : decide ((j : Int) < 40) = true := by simp; omega
                obtain ⟨ad, hA, hadb, hcell⟩ := (HM.out.below WR.out).2 (by omega)
                subst hA
                obtain ⟨q0, q1, q2, q3⟩ := ops_at hcell j hly
                obtain ⟨V, E, hO⟩ := HRU.out.2 j hly
                have HO := Lib.hid hO
                have FKk := Lib.hid (FK.out j (by omega))
                obtain ⟨v0, v1, v2, v3⟩ := HY.out ys[j] (List.getElem_mem hly)
                clear hcell hO
                generalize ys[j] = u at *
                obtain ⟨kd, fr, too, am⟩ := u
                simp only at q0 q1 q2 q3 v0 v1 v2 v3 HO
                obtain ⟨fk1, hfk1⟩ : ∃ g, F (j + 1) = g := ⟨_, rfl⟩
                obtain ⟨fk, hfk⟩ : ∃ g, F j = g := ⟨_, rfl⟩
                rw [hfk1] at HO
                rw [hfk] at HO FKk HB
                have HFK1 := Lib.hid hfk1
                clear hfk1 hfk
                go_wp2_with ((go_at_call 19; (with_reducible refine (does_any b r m (80 + 2 * j) fk kd fr too am V E (40 + j) fk1 _ HB.out FKk.out (by omega) v1 v2 v3 HR.out hb64 (by simp only [maxLen]; omega) HO.out).mono ?_); rintro e w5 ⟨rfl, hb5, hk5⟩; have HC5 := Lib.hid hb5; have HK5 := Lib.hid (HK.out.trans hk5); clear hb5 hk5))
                go_roundw
                case rel => exact ⟨j + 1, by omega, by go_num, Lib.hid (by rw [HFK1.out]; exact HC5.out.mono (by omega)), HK5⟩
                case measure => simp [intOf]; omega
              · obtain rfl : j = k := by omega
                have CQ := Lib.hid (C10.out.keeps HK.out n1 n2)
                clear C10 B10
                go_wp2_with fail
                refine (list_any b r m (80 + 2 * j) (F j) _ HB.out (by omega) KX.out.sup).mono ?_
                rintro e w12 ⟨A12, c12, rfl, hr12, _, hb12⟩
                have R12 := Lib.hid hr12; have C12 := Lib.hid (CQ.out.pass hb12); have W12 := Lib.hid (below_then WR.out hb12)
                clear hr12 hb12
                go_wp2_with fail
                refine (list_any b' r m' (80 + 2 * j) (F j) _ C12.out (by omega) KX.out.sup).mono ?_
                rintro e w13 ⟨A13, c13, rfl, hr13, _, hb13⟩
                have R13 := Lib.hid hr13; have R12' := Lib.hid (R12.out.pass hb13); have W13 := Lib.hid (below_then W12.out hb13)
                clear hr13 hb13
                go_wp2_with fail
                refine (lists_same _ R12'.out R13.out (by have := ents_len (F j); omega)).mono ?_
                rintro e w14 ⟨rfl, hb14⟩
                have W14 := Lib.hid (below_then W13.out hb14)
                clear hb14
                go_wp2_with fail
                go_ret
                exact ⟨rfl, W14.out⟩
theorem ledgerOwn_walk (w : World) (r : Nat) (hwr : (Lit.float .f64 r).wf = true) (A : Option Addr) (c : Nat) (xs : List VOp14) (hr : SlOk w 4 A c (xs.flatMap VOp14.cells)) (_hc : xs.length ≤ c) (hm : c ≤ maxLen) (hx : ∀ u_ ∈ xs, VOp14.ok w u_) (B : Option Addr) (d : Nat) (ys : List VOp14) (hr2 : SlOk w 4 B d (ys.flatMap VOp14.cells)) (_hd : ys.length ≤ d) (hm2 : d ≤ maxLen) (hy : ∀ u_ ∈ ys, VOp14.ok w u_) :
    Calls Try.prog 7 #[.float .f64 r, .slice A xs.length c, .slice B ys.length d] w fun e w' => e = .returned (.bool true) ∧ Below w.heap.size w w' := by
  have ha := hr.reads (n := xs.length) (flatMap_len _ _ 4 (fun _ => rfl)) (by decide)
  have hb := hr2.reads (n := ys.length) (flatMap_len _ _ 4 (fun _ => rfl)) (by decide)
  have hml : xs.length ≤ 9223372036854775807 := by unfold maxLen at hm; omega
  have hmy : ys.length ≤ 9223372036854775807 := by unfold maxLen at hm2; omega
  have hb64 : r < 18446744073709551616 := by simpa [Lit.wf] using hwr
  cases hrt : rateOk r
  · exact own_bad w r hb64 hrt A B xs.length c ys.length d
  · exact own_ok w r hb64 hrt A B c d xs ys ha hx hml hb hy hmy
end Go.Proofs.Ytkfpopilkagedaa
