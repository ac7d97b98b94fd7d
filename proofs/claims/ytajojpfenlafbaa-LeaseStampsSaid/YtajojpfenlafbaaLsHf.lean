/- LeaseHalf: the walk. -/
import Derived.Test.YtajojpfenlafbaaLsW
import Derived.Test.YtajojpfenlafbaaLsP
import Derived.Test.YtajojpfenlafbaaStampI
import Derived.Laws.BitsAllLaws
import Derived.Laws.Bits128
set_option linter.unusedSimpArgs false
set_option linter.unusedVariables false
namespace Go.Proofs.Ytajojpfenlafbaa
open Go.RowKit Mo
theorem i64_and50 (n : Int) : bits .and .i64 n 1125899906842623 = n % 1125899906842624 := by
  have h : (BitVec.ofInt 64 1125899906842623).toNat = 2 ^ 50 - 1 := by decide
  have key : (BitVec.ofInt 64 n &&& BitVec.ofInt 64 1125899906842623).toNat = (n % ((2 ^ 64 : Nat) : Int)).toNat % 2 ^ 50 := by
    rw [BitVec.toNat_and, BitVec.toNat_ofInt, h, Nat.and_two_pow_sub_one_eq_mod]
  show IntKind.i64.wrap ((BitVec.ofInt 64 n &&& BitVec.ofInt 64 1125899906842623).toNat : Nat) = n % 1125899906842624
  rw [key, IntKind.wrap_i64]
  omega
theorem and50 (n : Int) : ∃ m, bits .and .i64 n 1125899906842623 = m ∧ 0 ≤ m ∧ m ≤ 1125899906842623 := ⟨_, i64_and50 n, by omega, by omega⟩
/-- what the two lists are behind k rounds -/
structure Half (k : Nat) (vs hs : List Int) : Prop where
  lv : vs.length = 5
  lh : hs.length = 5
  eq : ∀ i, i < k → vs.getD i 0 = hs.getD i 0
  lo : ∀ i, i < k → 0 ≤ hs.getD i 0 ∧ hs.getD i 0 ≤ 1125899906842623
  z : ∀ i, k ≤ i → hs.getD i 0 = 0
theorem getD_set (v : List Int) (k i : Nat) (x : Int) (h : k < v.length) : (v.set k x).getD i 0 = if i = k then x else v.getD i 0 := by
  rw [List.getD_eq_getElem?_getD, List.getD_eq_getElem?_getD, List.getElem?_set]
  by_cases e : k = i
  · subst e; rw [if_pos rfl, if_pos rfl, if_pos h]; rfl
  · rw [if_neg e, if_neg (fun h => e h.symm)]
theorem half_step {k : Nat} {vs hs : List Int} (H : Half k vs hs) (hk : k < 5) (m : Int) (h0 : 0 ≤ m) (h1 : m ≤ 1125899906842623) : Half (k + 1) (vs.set k m) (hs.set k (max (hs.getD k 0) m)) := by
  have e : max (hs.getD k 0) m = m := by rw [H.z k (Nat.le_refl _)]; omega
  rw [e]
  have l1 := H.lv; have l2 := H.lh
  refine ⟨by simpa using H.lv, by simpa using H.lh, ?_, ?_, ?_⟩
  · intro i hi
    rw [getD_set _ _ _ _ (by omega), getD_set _ _ _ _ (by omega)]
    split
    · rfl
    · exact H.eq i (by omega)
  · intro i hi
    rw [getD_set _ _ _ _ (by omega)]
    split
    · exact ⟨h0, h1⟩
    · exact H.lo i (by omega)
  · intro i hi
    rw [getD_set _ _ _ _ (by omega), if_neg (by omega)]
    exact H.z i (by omega)
theorem countP_take (p : Int → Bool) (v : List Int) (k : Nat) (h : k < v.length) : (v.take (k + 1)).countP p = (v.take k).countP p + if p (v.getD k 0) = true then 1 else 0 := by
  rw [List.take_succ_eq_append_getElem h, List.countP_append, List.getD_eq_getElem?_getD, List.getElem?_eq_getElem h]
  simp [List.countP_cons]
set_option maxRecDepth 100000 in
set_option maxHeartbeats 4000000 in
theorem leaseHalf_walk (w : World) (a b c d f : Int) (_ : (Lit.int .i64 a).wf = true) (_ : (Lit.int .i64 b).wf = true) (_ : (Lit.int .i64 c).wf = true) (_ : (Lit.int .i64 d).wf = true) (_ : (Lit.int .i64 f).wf = true) (sz : Int) (wz : (Lit.int .u8 sz).wf = true) :
    Calls Try.prog 4 #[.agg #[.int .i64 a, .int .i64 b, .int .i64 c, .int .i64 d, .int .i64 f], .int .u8 sz] w fun e w' => e = .returned (.bool true) ∧ Below w.heap.size w w' := by
  obtain ⟨z0, z1⟩ : 0 ≤ sz ∧ sz ≤ 255 := by simpa [Lit.wf, IntKind.min, IntKind.max, IntKind.signed, IntKind.bits] using wz
  obtain ⟨n, hn⟩ : ∃ n : Nat, 1 + sz % 5 = n := ⟨(1 + sz % 5).toNat, by omega⟩
  have hn1 : 1 ≤ n := by omega
  have hn5 : n ≤ 5 := by omega
  clear wz
  go_enter Try.func4, Try.ntmps4
  go_wp2_with (go_at_call 8; refine (newHolder_ok n _ hn1 hn5).mono ?_; rintro e w1 ⟨rfl, rfl⟩)
  refine (awake23_any _).mono ?_
  rintro e w5 ⟨rfl, hb⟩
  clear hn
  have B5 : Hid (Blk w5 w.heap.size 47 (arr [a, b, c, d, f])) := Lib.hid (Blk.below ((Blk.new w 47 (arr [a, b, c, d, f])).alloc (.cells (hcells n [0, 0, 0, 0, 0]) 72)) hb (by simp <;> omega))
  have G5 : Hid (Blk w5 (w.heap.size + 1) 72 (hcells n [0, 0, 0, 0, 0])) := Lib.hid (Blk.below (Blk.new' (w := w.alloc (.cells (arr [a, b, c, d, f]) 47)) (n := w.heap.size + 1) (by simp)) hb (by simp))
  have H5 : Hid (Below w.heap.size w w5) := Lib.hid (below_then (w := w) (by repeat (first | exact Below.refl _ _ | refine below_alloc_ ?_ _ | refine Below.drew ?_)) hb)
  clear hb
  go_wp2_with fail
  go_loopw [8] (fun si wr => ∃ (k : Nat) (vs hs : List Int), k ≤ n ∧ si = .int .i64 k ∧ Hid (Half k vs hs) ∧ Hid (Blk wr w.heap.size 47 (arr vs)) ∧ Hid (Blk wr (w.heap.size + 1) 72 (hcells n hs)) ∧ Hid (Below w.heap.size w wr)) (fun si _ => n - (intOf si).toNat)
  case atStart => exact ⟨0, _, _, Nat.zero_le _, rfl, Lib.hid ⟨rfl, rfl, fun i h => by omega, fun i h => by omega, fun i _ => by rcases i with _ | _ | _ | _ | _ | i <;> rfl⟩, B5, G5, H5⟩
  case round =>
    clear B5 G5 H5
    obtain ⟨k, vs, hs, hk, rfl, HF, B, G, HB⟩ := hrel
    obtain ⟨wo, rfl⟩ : ∃ wo, wo = wr := ⟨_, rfl⟩
    have bl := B.out.lt; have gl := G.out.lt
    by_cases hlt : k < n
    · have hk5 : k < 5 := by omega
      have hlv := HF.out.lv; have hlh := HF.out.lh
      have c0 := arr_at B.out k (by omega)
      have f0 := B.out.frozen k
      obtain ⟨m, em, m0, m1⟩ := and50 (vs.getD k 0)
      have ST := Lib.hid (half_step HF.out hk5 m m0 m1)
      have i0 : (0 : Int) ≤ (k : Int) := by omega
      have i1 : (k : Int) < 5 := by omega
      generalize vs.getD k 0 = x at *
      have hkc := hk5
      go_wp2_with fail
      have B6 := Lib.hid (B.out.set_ k (.int .i64 m))
      rw [arr_set] at B6
      refine (heard_ok (w.heap.size + 1) n k hs m _ hlh hlt hn5 m0 (by omega) (Blk.far G.out (Nat.succ_ne_self _) _)).mono ?_
      rintro e w6 ⟨rfl, hg6, hk6⟩
      have B7 := Lib.hid (B6.out.keeps hk6 (by exact Nat.ne_of_lt (Nat.lt_succ_self _)))
      have G7 := Lib.hid hg6
      have H7 : Hid (Below w.heap.size w w6) := Lib.hid (below_kp (below_set_ HB.out (Nat.le_refl _) _) hk6 (Nat.le_succ _))
      clear hg6 hk6 em
      go_wp2_with fail
      go_roundw
      case rel => exact ⟨k + 1, _, _, by omega, by go_num, ST, B7, G7, H7⟩
      case measure => simp [intOf]; omega
    · obtain rfl : k = n := by omega
      have hd : decide ((k : Int) < (k : Int)) = false := by simp
      have hd2 : decide (k < k) = false := by simp
      have hcnt := unt_counts k hs hn1 (by have := HF.out.lh; omega)
      obtain ⟨U, hU⟩ : ∃ U, unt k hs = U := ⟨_, rfl⟩
      rw [hU] at hcnt
      have HU := Lib.hid hU
      have hlh := HF.out.lh; have hlv := HF.out.lv
      obtain ⟨u0, u1⟩ : 0 ≤ U ∧ U ≤ 1125899906842623 := by
        obtain ⟨i, hi, he⟩ := List.mem_iff_getElem.1 hcnt.2.2
        rw [List.length_take] at hi
        rw [List.getElem_take] at he
        have := HF.out.lo i (by omega)
        rw [List.getD_eq_getElem?_getD, List.getElem?_eq_getElem (by omega)] at this
        simp only [Option.getD_some] at this
        rw [he] at this
        exact this
      have HC := Lib.hid hcnt
      clear hcnt hU
      go_wp2_with fail
      refine (until_any (w.heap.size + 1) k hs _ hlh hn1 hn5 G.out).mono ?_
      rintro e w6 ⟨rfl, hb⟩
      rw [HU.out]
      have B7 := Lib.hid (Blk.below B.out hb bl)
      have G7 := Lib.hid (Blk.below G.out hb gl)
      have H7 : Hid (Below w.heap.size w w6) := Lib.hid (below_then HB.out hb)
      clear hb
      go_wp2_with fail
      go_loop [10, 11, 12] (fun sa st si => ∃ j : Nat, j ≤ k ∧ si = .int .i64 j ∧ sa = .int .i64 ((hs.take j).countP (fun x => decide (U < x))) ∧ st = .int .i64 ((hs.take j).countP (fun x => decide (U ≤ x)))) (fun _ _ si => k - (intOf si).toNat)
      case atStart => exact ⟨0, Nat.zero_le _, rfl, rfl, rfl⟩
      case round =>
        obtain ⟨j, hj, rfl, rfl, rfl⟩ := hrel
        by_cases hjk : j < k
        · have c0 := arr_at B7.out j (by omega)
          have e0 := HF.out.eq j hjk
          rw [e0] at c0
          clear e0
          have s1 := Lib.hid (countP_take (fun x => decide (U < x)) hs j (by omega))
          have s2 := Lib.hid (countP_take (fun x => decide (U ≤ x)) hs j (by omega))
          have b1 := List.countP_le_length (p := fun x => decide (U < x)) (l := hs.take j)
          have b2 := List.countP_le_length (p := fun x => decide (U ≤ x)) (l := hs.take j)
          rw [List.length_take] at b1 b2
          generalize (hs.take j).countP (fun x => decide (U < x)) = p at *
          generalize (hs.take j).countP (fun x => decide (U ≤ x)) = q at *
          generalize hs.getD j 0 = x at *
          have i0 : (0 : Int) ≤ (j : Int) := by omega
          have i1 : (j : Int) < 5 := by omega
          have p5 : p ≤ 5 := by omega
          have q5 : q ≤ 5 := by omega
          clear b1 b2
          rcases (show x < U ∨ x = U ∨ U < x by omega) with hx | hx | hx
          · have d1 : decide (U ≤ x) = false := by simp; omega
            have d2 : decide (U < x) = false := by simp; omega
            go_wp2_with fail
            go_round
            case rel => exact ⟨j + 1, by omega, by go_num, by rw [s1.out]; simp [d2], by rw [s2.out]; simp [d1]⟩
            case measure => simp [intOf]; omega
          · have d1 : decide (U ≤ x) = true := by simp; omega
            have d2 : decide (U < x) = false := by simp; omega
            clear hx
            go_wp2_with fail
            go_round
            case rel => exact ⟨j + 1, by omega, by go_num, by rw [s1.out]; simp [d2], by rw [s2.out]; simp [d1]⟩
            case measure => simp [intOf]; omega
          · have d1 : decide (U ≤ x) = true := by simp; omega
            have d2 : decide (U < x) = true := by simp; omega
            go_wp2_with fail
            go_round
            case rel => exact ⟨j + 1, by omega, by go_num, by rw [s1.out]; simp [d2], by rw [s2.out]; simp [d1]⟩
            case measure => simp [intOf]; omega
        · have hjk2 : j = k := by omega
          subst hjk2
          obtain ⟨a1, a2, a3⟩ := HC.out
          have b1 := List.countP_le_length (p := fun x => decide (U < x)) (l := hs.take j)
          have b2 := List.countP_le_length (p := fun x => decide (U ≤ x)) (l := hs.take j)
          rw [List.length_take] at b1 b2
          have h1 := Lib.hid (show (isS 0 U && decide (U < unt j hs)) = false by rw [HU.out, decide_eq_false (by omega), Bool.and_false])
          have h2 := Lib.hid (show 0 < U → (isS 0 (U - 1) && decide (U - 1 < unt j hs)) = true from fun h => by rw [HU.out, decide_eq_true (by omega), isS_iff.2 (by omega)]; rfl)
          clear a3 HC
          generalize (hs.take j).countP (fun x => decide (U < x)) = p at *
          generalize (hs.take j).countP (fun x => decide (U ≤ x)) = q at *
          have p5 : p ≤ 5 := by omega
          have q5 : q ≤ 5 := by omega
          have d1 : decide ((j : Int) < 2 * (q : Int)) = true := decide_eq_true (by omega)
          have d2 : decide (2 * (p : Int) ≤ (j : Int)) = true := decide_eq_true (by omega)
          have d3 : decide (j < j) = false := by simp
          clear b1 b2
          rcases (show U = 0 ∨ 0 < U by omega) with rfl | hU0
          · go_wp2_with fail
            refine (holds_any (w.heap.size + 1) j hs 0 0 _ hlh hn1 hn5 G7.out).mono ?_
            rintro e w7 ⟨rfl, hb⟩
            rw [h1.out]
            go_wp2_with fail
            go_ret
            exact ⟨rfl, below_then H7.out hb⟩
          · have b0 : (U == 0) = false := by simp; omega
            go_wp2_with fail
            refine (holds_any (w.heap.size + 1) j hs 0 U _ hlh hn1 hn5 G7.out).mono ?_
            rintro e w7 ⟨rfl, hb⟩
            rw [h1.out]
            have G8 := Lib.hid (Blk.below G7.out hb G7.out.lt)
            have H8 : Hid (Below w.heap.size w w7) := Lib.hid (below_then H7.out hb)
            clear hb
            go_wp2_with fail
            refine (holds_any (w.heap.size + 1) j hs 0 (U - 1) _ hlh hn1 hn5 G8.out).mono ?_
            rintro e w8 ⟨rfl, hb⟩
            rw [h2.out hU0]
            go_wp2_with fail
            go_ret
            exact ⟨rfl, below_then H8.out hb⟩
end Go.Proofs.Ytajojpfenlafbaa
