/- Leases: the contracts of the document's holder. -/
import Derived.Test.YtajojpfenlafbaaLsT
import Derived.Test.YtajojpfenlafbaaLsP
set_option linter.unusedSimpArgs false
set_option linter.unusedVariables false
namespace Go.Proofs.Ytajojpfenlafbaa
open Go.RowKit Mo
attribute [local go_sem ↓] Go.wp_at_zero Go.wp_at_succ
theorem countP_take (p : Int → Bool) (v : List Int) (k : Nat) (h : k < v.length) : (v.take (k + 1)).countP p = (v.take k).countP p + if p (v.getD k 0) = true then 1 else 0 := by
  rw [List.take_succ_eq_append_getElem h, List.countP_append, List.getD_eq_getElem?_getD, List.getElem?_eq_getElem h]
  simp [List.countP_cons]
theorem count_le (hs : List Int) (n : Nat) (u x : Int) (h2 : 2 * hs.countP (fun y => decide (u < y)) ≤ n) (hx : n < 2 * hs.countP (fun y => decide (x ≤ y))) : x ≤ u := by
  rcases Int.lt_or_le u x with h | h
  · exfalso
    have : hs.countP (fun y => decide (x ≤ y)) ≤ hs.countP (fun y => decide (u < y)) := List.countP_mono_left (fun y _ hy => by simp at hy ⊢; omega)
    omega
  · exact h
theorem is_t {lo hi : Int} (w : World) (h : isS lo hi = true) : Calls Try.prog 26 #[.agg #[.int .i64 lo, .int .i64 hi]] w fun e w' => e = .returned (.bool true) ∧ w' = w.alloc (.cells #[.int .i64 lo, .int .i64 hi] 33) := by
  have := is_any lo hi w
  rw [h] at this
  exact this
theorem is_f {lo hi : Int} (w : World) (h : isS lo hi = false) : Calls Try.prog 26 #[.agg #[.int .i64 lo, .int .i64 hi]] w fun e w' => e = .returned (.bool false) ∧ w' = w.alloc (.cells #[.int .i64 lo, .int .i64 hi] 33) := by
  have := is_any lo hi w
  rw [h] at this
  exact this
set_option maxRecDepth 100000 in
set_option maxHeartbeats 2000000 in
theorem runtil_any (n c : Nat) (A : Option Addr) (hs : List Int) (u : Int) (w : World) (hl : hs.length = n) (h1 : 1 ≤ n) (h5 : n ≤ 5) (hr : Reads w w.heap.size 1 A n (hs.map (Value.int .i64))) (h0 : ∀ i, i < n → 0 ≤ hs.getD i 0)
    (c1 : n < 2 * hs.countP (fun y => decide (u ≤ y))) (c2 : 2 * hs.countP (fun y => decide (u < y)) ≤ n) (c3 : u ∈ hs) :
    Calls Try.prog 15 #[.slice A n c] w fun e w' => e = .returned (.int .i64 u) ∧ Below w.heap.size w w' := by
  have HR := Lib.hid hr; have HL := Lib.hid hl; have H0 := Lib.hid h0; have C1 := Lib.hid c1; have C2 := Lib.hid c2; have C3 := Lib.hid c3
  have u0 : 0 ≤ u := by
    obtain ⟨i, hi, he⟩ := List.mem_iff_getElem.1 c3
    have := h0 i (by omega)
    rw [List.getD_eq_getElem?_getD, List.getElem?_eq_getElem hi] at this
    simp only [Option.getD_some] at this
    omega
  clear hr hl h0 c1 c2 c3
  go_enter Try.func15, Try.ntmps15
  go_wp2_with fail
  go_loopw [3, 4] (fun so si wr => ∃ (k : Nat) (out : Int), k ≤ n ∧ si = .int .i64 k ∧ so = .int .i64 out ∧ 0 ≤ out ∧ out ≤ u ∧ Hid (∀ i, i < k → hs.getD i 0 = u → u ≤ out) ∧ Hid (Below w.heap.size w wr)) (fun _ si _ => n - (intOf si).toNat)
  case atStart => exact ⟨0, 0, Nat.zero_le _, rfl, rfl, by omega, u0, Lib.hid (fun i h => by omega), Lib.hid (Below.refl _ _)⟩
  case round =>
    obtain ⟨k, out, hk, rfl, rfl, o0, o1, HO, HB⟩ := hrel
    rename World => wo
    have RD := Lib.hid (show Reads wo wo.heap.size 1 A n (hs.map (Value.int .i64)) from Reads.kp (S := fun _ => False) HR.out (.of_below HB.out) (fun _ _ h => h))
    by_cases hlt : k < n
    · have hkl : k < hs.length := by rw [HL.out]; exact hlt
      obtain ⟨ad, v, rfl, hadb, hx, hcell⟩ := RD.out.at_ (k := k) hlt
      obtain rfl : Value.int .i64 hs[k] = v := by simpa [hkl] using hx
      clear hx
      have hgx : hs.getD k 0 = hs[k] := by rw [List.getD_eq_getElem?_getD, List.getElem?_eq_getElem hkl]; rfl
      have HGX := Lib.hid hgx
      obtain ⟨x, hx⟩ : ∃ x, hs[k] = x := ⟨_, rfl⟩
      have HXX := Lib.hid hx
      rw [hx] at hcell
      clear hgx hx
      have k0 : (0 : Int) ≤ (k : Int) := by omega
      have k1 : (k : Int) < (n : Int) := by omega
      go_wp2_with fail
      go_loopw [5, 6] (fun sn sq wr => ∃ (q : Nat), q ≤ n ∧ sq = .int .i64 q ∧ sn = .int .i64 ((hs.take q).countP (fun y => decide (x ≤ y))) ∧ Hid (∃ m, wr = wo.drewN m)) (fun _ sq _ => n - (intOf sq).toNat)
      case atStart => exact ⟨0, Nat.zero_le _, rfl, rfl, Lib.hid ⟨0, rfl⟩⟩
      case round =>
        obtain ⟨q, hq, rfl, rfl, HW⟩ := hrel
        obtain ⟨mm, hmm⟩ := HW.out
        subst hmm
        by_cases hqt : q < n
        · have hql : q < hs.length := by rw [HL.out]; exact hqt
          obtain ⟨ad', v, he, hadb', hx', hcell'⟩ := RD.out.at_ (k := q) hqt
          injection he with he
          subst he
          obtain rfl : Value.int .i64 hs[q] = v := by simpa [hql] using hx'
          clear hx'
          have s1 := Lib.hid (countP_take (fun y => decide (x ≤ y)) hs q hql)
          have hgy : hs.getD q 0 = hs[q] := by rw [List.getD_eq_getElem?_getD, List.getElem?_eq_getElem hql]; rfl
          rw [hgy] at s1
          clear hgy
          have b1 := List.countP_le_length (p := fun y => decide (x ≤ y)) (l := hs.take q)
          rw [List.length_take] at b1
          generalize (hs.take q).countP (fun y => decide (x ≤ y)) = p at *
          generalize hs[q] = y at *
          have p5 : p ≤ 5 := by omega
          have q0 : (0 : Int) ≤ (q : Int) := by omega
          have q1 : (q : Int) < (n : Int) := by omega
          clear b1
          rcases (show x ≤ y ∨ y < x by omega) with hy | hy
          · have d1 : decide (x ≤ y) = true := by simp; omega
            go_wp2_with fail
            go_quiet (fail)
            go_wp2_with fail
            go_roundw
            case rel => exact ⟨q + 1, by omega, by go_num, by rw [s1.out]; simp [d1], Lib.hid ⟨mm + nq, rfl⟩⟩
            case measure => simp [intOf]; omega
          · have d1 : decide (x ≤ y) = false := by simp; omega
            go_wp2_with fail
            go_quiet (fail)
            go_wp2_with fail
            go_roundw
            case rel => exact ⟨q + 1, by omega, by go_num, by rw [s1.out]; simp [d1], Lib.hid ⟨mm + nq, rfl⟩⟩
            case measure => simp [intOf]; omega
        · obtain rfl : q = n := by omega
          have et : hs.take q = hs := by rw [← HL.out, List.take_length]
          rw [et]
          clear et
          have b1 := List.countP_le_length (p := fun y => decide (x ≤ y)) (l := hs)
          rw [HL.out] at b1
          have hle := Lib.hid (count_le hs q u x C2.out)
          have hcu := C1.out
          have hxu : x = u → q < 2 * hs.countP (fun y => decide (x ≤ y)) := fun e => by rw [e]; exact hcu
          clear hcu
          generalize hs.countP (fun y => decide (x ≤ y)) = p at *
          have p5 : p ≤ 5 := by omega
          have d0 : decide (q < q) = false := by simp
          clear b1
          have HXU := Lib.hid hxu
          clear hxu
          by_cases hc : q < 2 * p
          · have hxle := hle.out hc
            have d1 : decide ((q : Int) < 2 * (p : Int)) = true := decide_eq_true (by omega)
            by_cases hxo : out < x
            · have d2 : decide (out < x) = true := by simp; omega
              go_wp2_with fail
              go_roundw
              case rel => exact ⟨k + 1, x, by omega, by go_num, rfl, by omega, hxle, Lib.hid (fun i hi he => by rcases (show i < k ∨ i = k by omega) with h | rfl; exact Int.le_trans (HO.out i h he) (Int.le_of_lt hxo); rw [HGX.out, HXX.out] at he; omega), Lib.hid (below_drewN_ HB.out _)⟩
              case measure => simp [intOf]; omega
            · have d2 : decide (out < x) = false := by simp; omega
              go_wp2_with fail
              go_roundw
              case rel => exact ⟨k + 1, out, by omega, by go_num, rfl, o0, o1, Lib.hid (fun i hi he => by rcases (show i < k ∨ i = k by omega) with h | rfl; exact HO.out i h he; rw [HGX.out, HXX.out] at he; omega), Lib.hid (below_drewN_ HB.out _)⟩
              case measure => simp [intOf]; omega
          · have d1 : decide ((q : Int) < 2 * (p : Int)) = false := decide_eq_false (by omega)
            go_wp2_with fail
            go_roundw
            case rel => exact ⟨k + 1, out, by omega, by go_num, rfl, o0, o1, Lib.hid (fun i hi he => by rcases (show i < k ∨ i = k by omega) with h | rfl; exact HO.out i h he; rw [HGX.out, HXX.out] at he; exact absurd (HXU.out he) hc), Lib.hid (below_drewN_ HB.out _)⟩
            case measure => simp [intOf]; omega
    · obtain rfl : k = n := by omega
      have hou : out = u := by
        obtain ⟨i, hi, he⟩ := List.mem_iff_getElem.1 C3.out
        have := HO.out i (by rw [← HL.out]; exact hi) (by rw [List.getD_eq_getElem?_getD, List.getElem?_eq_getElem hi]; exact he)
        omega
      subst hou
      have d0 : decide (k < k) = false := by simp
      go_wp2_with fail
      go_ret
      exact ⟨rfl, HB.out⟩
set_option maxHeartbeats 1000000 in
theorem rholds_any (n c : Nat) (A : Option Addr) (hs : List Int) (u lo hi : Int) (w : World) (hl : hs.length = n) (h1 : 1 ≤ n) (h5 : n ≤ 5) (hr : Reads w w.heap.size 1 A n (hs.map (Value.int .i64))) (h0 : ∀ i, i < n → 0 ≤ hs.getD i 0)
    (c1 : n < 2 * hs.countP (fun y => decide (u ≤ y))) (c2 : 2 * hs.countP (fun y => decide (u < y)) ≤ n) (c3 : u ∈ hs) :
    Calls Try.prog 17 #[.slice A n c, .agg #[.int .i64 lo, .int .i64 hi]] w fun e w' => e = .returned (.bool (isS lo hi && decide (hi < u))) ∧ Below w.heap.size w w' := by
  cases h : isS lo hi
  · have HS := Lib.hid h
    clear h hr h0 c1 c2 c3 hl
    rw [Bool.false_and]
    go_enter Try.func17, Try.ntmps17
    go_wp2_with fail
    first | (go_region_with (go_at_call 26; refine (is_f _ HS.out).mono ?_; rintro e w1 ⟨rfl, rfl⟩)) | fail
    all_goals
      go_wp2_with fail
      go_ret
      exact ⟨rfl, by repeat (first | exact Hid.out (by assumption) | exact Below.refl _ _ | refine below_alloc_ ?_ _ | refine below_drewN_ ?_ _ | refine Below.drew ?_ | refine below_set_ ?_ (by first | exact Nat.le_refl _ | (simp; done) | (simp; omega)) _)⟩
  · have HS := Lib.hid h
    have HR := Lib.hid hr; have HL := Lib.hid hl; have H0 := Lib.hid h0; have C1 := Lib.hid c1; have C2 := Lib.hid c2; have C3 := Lib.hid c3
    have BX := Lib.hid (Blk.new w 33 #[.int .i64 lo, .int .i64 hi])
    rw [Bool.true_and]
    clear h hr h0 c1 c2 c3 hl
    go_enter Try.func17, Try.ntmps17
    go_wp2_with fail
    go_region_held3 (fun w' => w'.cell? ⟨w.heap.size, 0, none⟩ = some (.int .i64 lo) ∧ w'.cell? ⟨w.heap.size, 1, none⟩ = some (.int .i64 hi)) (first | exact ⟨b0, b1⟩ | go_keep) (first
      | (go_at_call 26; refine (is_t _ HS.out).mono ?_; rintro e w1 ⟨rfl, rfl⟩)
      | (go_at_call 15; refine (runtil_any n c A hs u _ HL.out h1 h5 (by repeat (first | with_reducible exact HR.out | with_reducible refine Reads.al ?_ _ | with_reducible refine Reads.dr ?_)) H0.out C1.out C2.out C3.out).mono ?_; rintro e w1 ⟨rfl, hb⟩; have B1 := Lib.hid (Blk.below (g := w.heap.size) (t := 33) (cs := #[.int .i64 lo, .int .i64 hi]) (by repeat (first | with_reducible exact BX.out | with_reducible refine Blk.alloc ?_ _ | with_reducible refine Blk.drew ?_)) hb (by simp <;> omega)); have W1 : Hid (Below w.heap.size w w1) := Lib.hid (below_then (w := w) (by repeat (first | exact Below.refl _ _ | refine below_alloc_ ?_ _ | refine Below.drew ?_)) hb); clear hb; obtain ⟨b0, b1⟩ := B1.out.c2))
    all_goals
      go_wp2_with fail
      go_ret
      exact ⟨rfl, by first | exact W1.out | exact Below.drew W1.out⟩
set_option maxHeartbeats 2000000 in
theorem rstamp_any (n c m d k : Nat) (A B D : Option Addr) (c2' c3' : Nat) (hs mm ys : List Int) (u last lo hi N E l : Int) (w : World) (hl : hs.length = n) (h1 : 1 ≤ n) (h5 : n ≤ 5) (hr : Reads w w.heap.size 1 A n (hs.map (Value.int .i64))) (h0 : ∀ i, i < n → 0 ≤ hs.getD i 0)
    (c1 : n < 2 * hs.countP (fun y => decide (u ≤ y))) (c2 : 2 * hs.countP (fun y => decide (u < y)) ≤ n) (c3 : u ∈ hs) (hu : u ≤ 1125899906842624)
    (hm : mm.length = m) (hr2 : Reads w w.heap.size 1 B m (mm.map (Value.int .i64))) (hmb : m ≤ 1000) (hk : ys.length = k) (hr3 : Reads w w.heap.size 1 D k (ys.map (Value.int .i64))) (hkb : k ≤ 1000) (hlast : tops 0 mm = last) (h : StIs last lo hi ys u N E l) :
    Calls Try.prog 12 #[.slice A n c, .agg #[.int .i64 lo, .int .i64 hi], .slice B m c2', .slice D k c3'] w (RNx w B (mlOf mm N E) N E) ∧ tops 0 (mlOf mm N E) = l := by
  have hend : tops 0 (mlOf mm N E) = l := by
    rcases h with ⟨_, _, rfl, rfl⟩ | ⟨_, _, _, rfl, rfl⟩ | ⟨_, _, _, _, rfl, rfl⟩ | ⟨_, _, h8, rfl, rfl, rfl⟩
    · exact hlast
    · exact hlast
    · exact hlast
    · have h3 := tops_ge (max last hi) ys
      unfold mlOf
      rw [if_pos rfl]
      unfold tops at hlast ⊢
      rw [List.foldl_append, hlast]
      show max last (tops (max last hi) ys + 1) = tops (max last hi) ys + 1
      omega
  refine ⟨?_, hend⟩
  clear hend
  have HR := Lib.hid hr; have HL := Lib.hid hl; have H0 := Lib.hid h0; have C1 := Lib.hid c1; have C2 := Lib.hid c2; have C3 := Lib.hid c3
  have HM := Lib.hid hm; have HR2 := Lib.hid hr2; have HK := Lib.hid hk; have HR3 := Lib.hid hr3; have HLS := Lib.hid hlast
  have BX := Lib.hid (Blk.new w 33 #[.int .i64 lo, .int .i64 hi])
  clear hr hl h0 c1 c2 c3 hm hr2 hk hr3 hlast
  unfold StIs at h
  generalize hs' : isS lo hi = s at h
  have HS := Lib.hid hs'
  rcases h with ⟨rfl, rfl, rfl, rfl⟩ | ⟨rfl, h3, rfl, rfl, rfl⟩ | h
  · clear hs'
    go_enter Try.func12, Try.ntmps12
    go_wp2_with (go_at_call 26; refine (is_f _ HS.out).mono ?_; rintro e w1 ⟨rfl, rfl⟩)
    go_ret3
    exact ⟨B, c2', by rw [show mlOf mm 0 240 = mm from rfl, HM.out]; rfl, by rw [show mlOf mm 0 240 = mm from rfl, HM.out]; exact Reads.al (Reads.al HR2.out _) _, by repeat (first | exact Hid.out (by assumption) | exact Below.refl _ _ | refine below_alloc_ ?_ _ | refine below_drewN_ ?_ _ | refine Below.drew ?_ | refine below_set_ ?_ (by first | exact Nat.le_refl _ | (simp; done) | (simp; omega)) _), fun a h => .inl h⟩
  · clear hs'
    have hd := Lib.hid (show (isS lo hi && decide (hi < u)) = false by rw [HS.out, decide_eq_false (by omega)]; rfl)
    go_enter Try.func12, Try.ntmps12
    go_wp2_with (first | (go_at_call 26; refine (is_t _ HS.out).mono ?_; rintro e w1 ⟨rfl, rfl⟩) | (go_at_call 17; refine (rholds_any n c A hs u lo hi _ HL.out h1 h5 (by repeat (first | with_reducible exact HR.out | with_reducible refine Reads.al ?_ _)) H0.out C1.out C2.out C3.out).mono ?_; rintro e w1 ⟨rfl, hb⟩; rw [hd.out]))
    go_ret3
    exact ⟨B, c2', by rw [show mlOf mm 0 243 = mm from rfl, HM.out]; rfl, by rw [show mlOf mm 0 243 = mm from rfl, HM.out]; exact Reads.kp (S := fun _ => False) (Reads.al (Reads.al HR2.out _) _) (.of_below hb) (fun _ _ h => h), below_then (w := w) (by repeat (first | exact Below.refl _ _ | refine below_alloc_ ?_ _ | refine Below.drew ?_)) hb, fun a h => .inl h⟩
  · have h3 : hi < u := by rcases h with h | h <;> exact h.2.1
    obtain rfl : s = true := by rcases h with h | h <;> exact h.1
    obtain ⟨g1, g2, g3⟩ := isS_iff.1 hs'
    clear hs'
    have hd := Lib.hid (show (isS lo hi && decide (hi < u)) = true by rw [HS.out, decide_eq_true h3]; rfl)
    obtain ⟨n0, er0, l0, hnx⟩ := next_cases last lo hi ys
    have hcmp : (er0 ≠ 0 ∧ N = 0 ∧ E = 244) ∨ (er0 = 0 ∧ u ≤ n0 ∧ N = 0 ∧ E = 244) ∨ (er0 = 0 ∧ n0 < u ∧ N = n0 ∧ E = 0) := by
      rcases hnx with ⟨h8, _⟩ | ⟨_, h8, rfl, rfl, rfl⟩ | ⟨_, h8, rfl, rfl, rfl⟩
      · exact absurd ⟨g1, g2, g3⟩ h8
      · rcases h with ⟨_, _, _, a, b, _⟩ | ⟨_, _, a, _⟩
        · exact .inl ⟨by decide, a, b⟩
        · omega
      · rcases h with ⟨_, _, a, b, c, _⟩ | ⟨_, _, a, b, c, _⟩
        · exact .inr (.inl ⟨rfl, by omega, b, c⟩)
        · exact .inr (.inr ⟨rfl, by omega, b, c⟩)
    have HNX := Lib.hid hnx
    clear h hnx
    go_enter Try.func12, Try.ntmps12
    go_wp2_with (first | (go_at_call 26; refine (is_t _ HS.out).mono ?_; rintro e w1 ⟨rfl, rfl⟩) | (go_at_call 17; refine (rholds_any n c A hs u lo hi _ HL.out h1 h5 (by repeat (first | with_reducible exact HR.out | with_reducible refine Reads.al ?_ _)) H0.out C1.out C2.out C3.out).mono ?_; rintro e w1 ⟨rfl, hb⟩; rw [hd.out]; have BX1 := Lib.hid (Blk.below (BX.out.alloc _) hb (by simp <;> omega)); have K1 : Hid (Below w.heap.size w w1) := Lib.hid (below_then (w := w) (by repeat (first | exact Below.refl _ _ | refine below_alloc_ ?_ _ | refine Below.drew ?_)) hb); clear hb; obtain ⟨b0, b1⟩ := BX1.out.c2; have bl := BX1.out.lt))
    refine (rnext_any B c2' lo hi D c3' _ HM.out (Reads.kp (S := fun _ => False) HR2.out (.of_below K1.out) (fun _ _ h => h)) hmb HK.out (Reads.kp (S := fun _ => False) HR3.out (.of_below K1.out) (fun _ _ h => h)) hkb HLS.out HNX.out).1.mono ?_
    rintro e w2 ⟨B', cap', rfl, hr2', hb2, ha2⟩
    have K2 : Hid (Below w.heap.size w w2) := Lib.hid (below_then K1.out hb2)
    have RR := Lib.hid hr2'
    have HA := Lib.hid ha2
    have K12 := Lib.hid K1.out.size
    clear hb2 hr2' ha2 b0 b1 bl
    rcases hcmp with ⟨he, rfl, rfl⟩ | ⟨rfl, hnu, rfl, rfl⟩ | ⟨rfl, hnu, rfl, rfl⟩
    · have b0 : (er0 != 0) = true := by simpa using he
      clear he
      go_wp2_with fail
      go_ret3
      exact ⟨B, c2', by rw [show mlOf mm 0 244 = mm from rfl, HM.out]; rfl, by rw [show mlOf mm 0 244 = mm from rfl, HM.out]; exact Reads.kp (S := fun _ => False) HR2.out (.of_below K2.out) (fun _ _ h => h), K2.out, fun a h => .inl h⟩
    · have b0 : decide (u ≤ n0) = true := by simp; omega
      go_wp2_with (go_at_call 15; refine (runtil_any n c A hs u _ HL.out h1 h5 (Reads.kp (S := fun _ => False) HR.out (.of_below K2.out) (fun _ _ h => h)) H0.out C1.out C2.out C3.out).mono ?_; rintro e w3 ⟨rfl, hb⟩)
      go_ret3
      exact ⟨B, c2', by rw [show mlOf mm 0 244 = mm from rfl, HM.out]; rfl, by rw [show mlOf mm 0 244 = mm from rfl, HM.out]; exact Reads.kp (S := fun _ => False) HR2.out (.of_below (below_then K2.out hb)) (fun _ _ h => h), below_then K2.out hb, fun a h => .inl h⟩
    · have b0 : decide (u ≤ N) = false := by simp; omega
      go_wp2_with (go_at_call 15; refine (runtil_any n c A hs u _ HL.out h1 h5 (Reads.kp (S := fun _ => False) HR.out (.of_below K2.out) (fun _ _ h => h)) H0.out C1.out C2.out C3.out).mono ?_; rintro e w3 ⟨rfl, hb⟩)
      go_ret3
      exact ⟨B', cap', rfl, Reads.kp (S := fun _ => False) RR.out (.of_below hb) (fun _ _ h => h), below_then K2.out hb, fun a h => by rcases HA.out a h with h | h; exact .inl h; exact .inr (Nat.le_trans K12.out h)⟩
end Go.Proofs.Ytajojpfenlafbaa
