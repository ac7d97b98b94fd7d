/- The document's stamps: Next. -/
import Derived.Test.YtkjlhhdenebbiaaStampF
import Derived.LoopTactic
import Derived.IntWalk
import Derived.Deep.RegionLaw
import Derived.Deep.DrawnRows
import Derived.Deep.DeepCutAuto
set_option linter.unusedSimpArgs false
set_option linter.unusedVariables false
namespace Go.Proofs.Ytkjlhhdenebbiaa
open Go.RowKit
attribute [local go_sem ↓] Go.wp_at_zero Go.wp_at_succ
theorem reads_blk1 {w : World} {g : Nat} {T : TypeId} {v : Value} (h : Blk w g T #[v]) : Reads w w.heap.size 1 (some ⟨g, 0, none⟩) 1 [v] := by
  refine ⟨rfl, fun _ => ⟨_, rfl, h.lt, fun j u hu => ?_⟩⟩
  rw [Addr.add_lit, h.cell (0 + j)]
  simpa using hu
/-- a list that the reference gave, with two numbers -/
def RNx (w : World) (A : Option Addr) (L : List Int) (n er : Int) (e' : Ending) (w' : World) : Prop := ∃ A' c', e' = .returned (.tuple #[.slice A' L.length c', .int .i64 n, .int .i64 er]) ∧ Reads w' w'.heap.size 1 A' L.length (L.map (Value.int .i64)) ∧ Below w.heap.size w w' ∧ ∀ a, A' = some a → A = some a ∨ w.heap.size ≤ a.block
set_option maxRecDepth 100000 in
set_option maxHeartbeats 4000000 in
theorem rnext_ok {m n : Nat} {mm ys : List Int} (A : Option Addr) (c : Nat) (lo hi : Int) (B : Option Addr) (d : Nat) (w : World) (hm : mm.length = m) (hr : Reads w w.heap.size 1 A m (mm.map (Value.int .i64))) (hmb : m ≤ 1000)
    (hn : ys.length = n) (hr2 : Reads w w.heap.size 1 B n (ys.map (Value.int .i64))) (hnb : n ≤ 1000) (h1 : 0 ≤ lo) (h2 : lo ≤ hi) (h3 : hi ≤ 1125899906842624) (T : Int) (hT : tops 0 (mm ++ [hi] ++ ys) = T) (ml : List Int) (hml : (if 1125899906842624 ≤ T then mm else mm ++ [T + 1]) = ml) :
    Calls Try.prog 10 #[.slice A m c, .agg #[.int .i64 lo, .int .i64 hi], .slice B n d] w (RNx w A ml (nxT T) (nxE T)) := by
  obtain ⟨i0, hi0, hz0, hz1, hz2⟩ := info_parts info_i64
  have HM := Lib.hid hm; have HR := Lib.hid hr; have HN := Lib.hid hn; have HR2 := Lib.hid hr2; have HT := Lib.hid hT; have HML := Lib.hid hml
  have PB : Hid (Blk (w.alloc (.cells #[.int .i64 lo, .int .i64 hi] 28)) w.heap.size 28 #[.int .i64 lo, .int .i64 hi]) := Lib.hid (Blk.new w _ _)
  have HB : Hid (Below w.heap.size w w) := Lib.hid (Below.refl _ _)
  clear hm hr hn hr2 hT hml
  go_enter Try.func10, Try.ntmps10
  go_wp2_with (first | (go_at_call 19; go_in) | (go_at_call 23; go_in) | (at_builtin; fail))
  go_upto_region 3 with fail
  go_cut [9] (fun s wx => ∃ A' c', s = .slice A' (m + 1 + n) c' ∧ Reads wx wx.heap.size 1 A' (m + 1 + n) ((mm ++ [hi] ++ ys).map (Value.int .i64)) ∧ Below w.heap.size w wx)
  case first =>
    go_wp2_with fail
    go_region_law (first
      | ((refine step_append_any (((((w.alloc (.cells #[.int .i64 lo, .int .i64 hi] 28)).alloc (.cells #[.int .i64 lo, .int .i64 hi] 28)).alloc (.cells #[.int .i64 hi] 2)).alloc (.cells #[] 2)).drew) (by rfl) (.tmp 16) (.tmp 17) 26 (by rfl) (w.heap.size + 1) 2 i0 _ 1 8 Try.underlying26 hi0 hz0 hz1 hz2 rfl (by decide) (.slice (some ⟨w.heap.size + 1 + 1 + 1, 0, none⟩) 0 0) 0 [] (by rfl) (by repeat (first | with_reducible exact own_empty (by simp) (by simp) | with_reducible refine own_al ?_ _ | with_reducible refine own_dr ?_)) _ A m c (mm.map (Value.int .i64)) (by rfl) (by repeat (first | with_reducible exact HR.out | with_reducible refine Reads.al ?_ _ | with_reducible refine Reads.dr ?_)) (one_ints _) (by unfold maxLen; omega) (by omega) (by simp <;> omega) ?_);
               intro v1 w1 ho1 hg1 hat1;
               (simp only [Nat.zero_add, List.nil_append] at ho1);
               have O1 := Lib.hid ho1;
               have N1 : Hid (∀ k, v1.ownBlock = some k → w.heap.size + 1 ≤ k) := Lib.hid (fun k hk => (ho1.lt k hk).1);
               have P1 := Lib.hid (Blk.grown (g := w.heap.size) (t := 28) (cs := #[.int .i64 lo, .int .i64 hi]) (by repeat (first | with_reducible exact PB.out | with_reducible refine Blk.alloc ?_ _ | with_reducible refine Blk.drew ?_)) hg1 (by simp [Value.ownBlock] <;> omega));
               have L1 := Lib.hid hg1.size;
               have T1 := Lib.hid (Blk.grown (w := ((((w.alloc (.cells #[.int .i64 lo, .int .i64 hi] 28)).alloc (.cells #[.int .i64 lo, .int .i64 hi] 28)).alloc (.cells #[.int .i64 hi] 2)).alloc (.cells #[] 2)).drew) (g := w.heap.size + 1 + 1) (t := 2) (cs := #[.int .i64 hi]) (Blk.drew (Blk.alloc (Blk.new' (by simp)) _)) hg1 (by simp [Value.ownBlock] <;> omega));
               have W1 : Hid (Below w.heap.size w w1) := Lib.hid (Below.grown (by repeat (first | exact Hid.out (by assumption) | exact Below.refl _ _ | refine below_alloc_ ?_ _ | refine below_drewN_ ?_ _ | refine Below.drew ?_ | refine below_set_ ?_ (by first | exact Nat.le_refl _ | (simp; done) | (simp; omega)) _)) hg1 (by simp <;> omega) (fun k e => by simp [Value.ownBlock] at e; omega));
               clear ho1 hg1 hat1;
               obtain ⟨p0, p1⟩ := P1.out.c2;
               have pl := P1.out.lt)
      | ((refine step_append_any (((((w.alloc (.cells #[.int .i64 lo, .int .i64 hi] 28)).alloc (.cells #[.int .i64 lo, .int .i64 hi] 28)).alloc (.cells #[] 2)).alloc (.cells #[.int .i64 hi] 2)).drew) (by rfl) (.tmp 16) (.tmp 17) 26 (by rfl) (w.heap.size + 1) 2 i0 _ 1 8 Try.underlying26 hi0 hz0 hz1 hz2 rfl (by decide) (.slice (some ⟨w.heap.size + 1 + 1, 0, none⟩) 0 0) 0 [] (by rfl) (by repeat (first | with_reducible exact own_empty (by simp) (by simp) | with_reducible refine own_al ?_ _ | with_reducible refine own_dr ?_)) _ A m c (mm.map (Value.int .i64)) (by rfl) (by repeat (first | with_reducible exact HR.out | with_reducible refine Reads.al ?_ _ | with_reducible refine Reads.dr ?_)) (one_ints _) (by unfold maxLen; omega) (by omega) (by simp <;> omega) ?_);
               intro v1 w1 ho1 hg1 hat1;
               (simp only [Nat.zero_add, List.nil_append] at ho1);
               have O1 := Lib.hid ho1;
               have N1 : Hid (∀ k, v1.ownBlock = some k → w.heap.size + 1 ≤ k) := Lib.hid (fun k hk => (ho1.lt k hk).1);
               have P1 := Lib.hid (Blk.grown (g := w.heap.size) (t := 28) (cs := #[.int .i64 lo, .int .i64 hi]) (by repeat (first | with_reducible exact PB.out | with_reducible refine Blk.alloc ?_ _ | with_reducible refine Blk.drew ?_)) hg1 (by simp [Value.ownBlock] <;> omega));
               have L1 := Lib.hid hg1.size;
               have T1 := Lib.hid (Blk.grown (w := ((((w.alloc (.cells #[.int .i64 lo, .int .i64 hi] 28)).alloc (.cells #[.int .i64 lo, .int .i64 hi] 28)).alloc (.cells #[] 2)).alloc (.cells #[.int .i64 hi] 2)).drew) (g := w.heap.size + 1 + 1 + 1) (t := 2) (cs := #[.int .i64 hi]) (Blk.drew (Blk.new' (by simp))) hg1 (by simp [Value.ownBlock] <;> omega));
               have W1 : Hid (Below w.heap.size w w1) := Lib.hid (Below.grown (by repeat (first | exact Hid.out (by assumption) | exact Below.refl _ _ | refine below_alloc_ ?_ _ | refine below_drewN_ ?_ _ | refine Below.drew ?_ | refine below_set_ ?_ (by first | exact Nat.le_refl _ | (simp; done) | (simp; omega)) _)) hg1 (by simp <;> omega) (fun k e => by simp [Value.ownBlock] at e; omega));
               clear ho1 hg1 hat1;
               obtain ⟨p0, p1⟩ := P1.out.c2;
               have pl := P1.out.lt)
      | ((refine step_append_any ((((w.alloc (.cells #[.int .i64 lo, .int .i64 hi] 28)).alloc (.cells #[.int .i64 lo, .int .i64 hi] 28)).alloc (.cells #[] 2)).drew) (by rfl) (.tmp 16) (.tmp 17) 26 (by rfl) (w.heap.size + 1) 2 i0 _ 1 8 Try.underlying26 hi0 hz0 hz1 hz2 rfl (by decide) (.slice (some ⟨w.heap.size + 1 + 1, 0, none⟩) 0 0) 0 [] (by rfl) (by repeat (first | with_reducible exact own_empty (by simp) (by simp) | with_reducible refine own_al ?_ _ | with_reducible refine own_dr ?_)) _ A m c (mm.map (Value.int .i64)) (by rfl) (by repeat (first | with_reducible exact HR.out | with_reducible refine Reads.al ?_ _ | with_reducible refine Reads.dr ?_)) (one_ints _) (by unfold maxLen; omega) (by omega) (by simp <;> omega) ?_);
               intro v1 w1 ho1 hg1 hat1;
               (simp only [Nat.zero_add, List.nil_append] at ho1);
               have O1 := Lib.hid ho1;
               have N1 : Hid (∀ k, v1.ownBlock = some k → w.heap.size + 1 ≤ k) := Lib.hid (fun k hk => (ho1.lt k hk).1);
               have P1 := Lib.hid (Blk.grown (g := w.heap.size) (t := 28) (cs := #[.int .i64 lo, .int .i64 hi]) (by repeat (first | with_reducible exact PB.out | with_reducible refine Blk.alloc ?_ _ | with_reducible refine Blk.drew ?_)) hg1 (by simp [Value.ownBlock] <;> omega));
               have L1 := Lib.hid hg1.size;
               have W1 : Hid (Below w.heap.size w w1) := Lib.hid (Below.grown (by repeat (first | exact Hid.out (by assumption) | exact Below.refl _ _ | refine below_alloc_ ?_ _ | refine below_drewN_ ?_ _ | refine Below.drew ?_ | refine below_set_ ?_ (by first | exact Nat.le_refl _ | (simp; done) | (simp; omega)) _)) hg1 (by simp <;> omega) (fun k e => by simp [Value.ownBlock] at e; omega));
               clear ho1 hg1 hat1;
               obtain ⟨p0, p1⟩ := P1.out.c2;
               have pl := P1.out.lt)
      | ((refine step_append_any w1 (by rfl) (.tmp 18) (.tmp 21) 26 (by rfl) (w.heap.size + 1) 2 i0 _ 1 8 Try.underlying26 hi0 hz0 hz1 hz2 rfl (by decide) v1 m (mm.map (Value.int .i64)) (by rfl) (by repeat (first | with_reducible exact O1.out | with_reducible refine own_al ?_ _ | with_reducible refine own_dr ?_)) _ (some ⟨_, 0, none⟩) 1 1 [.int .i64 hi] (by rfl) (reads_blk1 T1.out) (one_ints [hi]) (by unfold maxLen; omega) (by omega) (by have := L1.out; simp at this ⊢; omega) ?_);
               intro v2 w2 ho2 hg2 hat2;
               have O2 := Lib.hid ho2;
               have N2 : Hid (∀ k, v2.ownBlock = some k → w.heap.size + 1 ≤ k) := Lib.hid (fun k hk => (ho2.lt k hk).1);
               have P2 := Lib.hid (Blk.grown (g := w.heap.size) (t := 28) (cs := #[.int .i64 lo, .int .i64 hi]) (P1.out) hg2 (fun h => by have := N1.out _ h.symm; omega));
               have W2 : Hid (Below w.heap.size w w2) := Lib.hid (Below.grown (W1.out) hg2 (W1.out.size) (fun k e => by have := N1.out k e; omega));
               have L2 := Lib.hid hg2.size;
               clear ho2 hg2 hat2;
               obtain ⟨p0, p1⟩ := P2.out.c2;
               have pl := P2.out.lt)
      | ((refine step_append_any (w1.alloc (.cells #[.int .i64 hi] 2)) (by rfl) (.tmp 18) (.tmp 21) 26 (by rfl) (w.heap.size + 1) 2 i0 _ 1 8 Try.underlying26 hi0 hz0 hz1 hz2 rfl (by decide) v1 m (mm.map (Value.int .i64)) (by rfl) (by repeat (first | with_reducible exact O1.out | with_reducible refine own_al ?_ _ | with_reducible refine own_dr ?_)) _ (some ⟨_, 0, none⟩) 1 1 [.int .i64 hi] (by rfl) (reads_one rfl) (one_ints [hi]) (by unfold maxLen; omega) (by omega) (by have := L1.out; simp at this ⊢; omega) ?_);
               intro v2 w2 ho2 hg2 hat2;
               have O2 := Lib.hid ho2;
               have N2 : Hid (∀ k, v2.ownBlock = some k → w.heap.size + 1 ≤ k) := Lib.hid (fun k hk => (ho2.lt k hk).1);
               have P2 := Lib.hid (Blk.grown (g := w.heap.size) (t := 28) (cs := #[.int .i64 lo, .int .i64 hi]) (P1.out.alloc _) hg2 (fun h => by have := N1.out _ h.symm; omega));
               have W2 : Hid (Below w.heap.size w w2) := Lib.hid (Below.grown (below_alloc_ W1.out _) hg2 (Nat.le_trans W1.out.size (by simp)) (fun k e => by have := N1.out k e; omega));
               have L2 := Lib.hid hg2.size;
               clear ho2 hg2 hat2;
               obtain ⟨p0, p1⟩ := P2.out.c2;
               have pl := P2.out.lt)
      | ((refine step_append_any w2 (by rfl) (.tmp 22) (.tmp 23) 26 (by rfl) (w.heap.size + 1) 2 i0 _ 1 8 Try.underlying26 hi0 hz0 hz1 hz2 rfl (by decide) v2 (m + 1) (mm.map (Value.int .i64) ++ [.int .i64 hi]) (by rfl) O2.out _ B n d (ys.map (Value.int .i64)) (by rfl) (Reads.kp (S := fun _ => False) HR2.out (.of_below W2.out) (fun _ _ h => h)) (one_ints ys) (by unfold maxLen; omega) (by omega) (by have := L2.out; have := L1.out; simp at this ⊢; omega) ?_);
               intro v3 w3 ho3 hg3 hat3;
               obtain ⟨A', c', rfl, hrd, hblk⟩ := own_shape ho3;
               have RD := Lib.hid hrd; have BK := Lib.hid hblk;
               have P3 := Lib.hid (Blk.grown (g := w.heap.size) (t := 28) (cs := #[.int .i64 lo, .int .i64 hi]) P2.out hg3 (fun h => by have := N2.out _ h.symm; omega));
               have W3 : Hid (Below w.heap.size w w3) := Lib.hid (Below.grown W2.out hg3 W2.out.size (fun k e => by have := N2.out k e; omega));
               clear ho3 hg3 hat3 hrd hblk)
      | fail)
    all_goals
      go_wp2_with fail
      go_meet
      exact ⟨A', c', rfl, by simpa using RD.out, W3.out⟩
  case rest =>
    obtain ⟨A', c', rfl, hR, hB⟩ := hcut
    obtain ⟨LA, hLA⟩ : ∃ LA, mm ++ [hi] ++ ys = LA := ⟨_, rfl⟩
    have hlen : LA.length = m + 1 + n := by rw [← hLA, List.length_append, List.length_append, HM.out, HN.out]; rfl
    rw [hLA] at hR
    have HT2 := Lib.hid (show tops 0 LA = T by rw [← hLA]; exact HT.out)
    have HL := Lib.hid hlen; have HRR := Lib.hid hR; have HBB := Lib.hid hB
    clear hLA hlen hR hB PB HB
    go_wp2_with fail
    go_loop [10, 11] (fun st si => ∃ k : Nat, k ≤ m + 1 + n ∧ si = .int .i64 k ∧ st = .int .i64 (tops 0 (LA.take k))) (fun _ si => (m + 1 + n) - (intOf si).toNat)
    case atStart => exact ⟨0, Nat.zero_le _, rfl, by simp [tops]⟩
    case round =>
      obtain ⟨k, hk, rfl, rfl⟩ := hrel
      by_cases hlt : k < m + 1 + n
      · have hkl : k < LA.length := by rw [HL.out]; exact hlt
        obtain ⟨ad, u, rfl, hadb, hx, hcell⟩ := HRR.out.at_ (k := k) hlt
        obtain rfl : Value.int .i64 LA[k] = u := by simpa [hkl] using hx
        clear hx
        have E1 := Lib.hid (tops_take 0 LA k hkl)
        generalize LA[k] = z at *
        obtain ⟨F, hF⟩ : ∃ F, tops 0 (LA.take k) = F := ⟨_, rfl⟩
        rw [hF] at E1 ⊢
        clear hF
        rcases (show F < z ∨ z ≤ F by omega) with hf | hf
        all_goals
          go_wp2_with fail
          go_round
          case rel => exact ⟨k + 1, by omega, by go_num, by rw [E1.out]; first | rw [Int.max_eq_right (Int.le_of_lt hf)] | rw [Int.max_eq_left hf]⟩
          case measure => simp [intOf]; omega
      · obtain rfl : k = m + 1 + n := by omega
        rw [← HL.out, List.take_length, HT2.out]
        have HML2 := HML.out
        have hT0 : 0 ≤ T := by rw [← HT2.out]; exact tops_ge 0 LA
        have hd0 : decide (LA.length < m + 1 + n) = false := by rw [HL.out]; simp
        have hl2 := HL.out
        by_cases hT : 1125899906842624 ≤ T
        · rw [if_pos hT] at HML2
          have EM := Lib.hid HML2
          clear HML2 hl2
          go_wp2_with fail
          go_ret3
          refine ⟨A, c, ?_, ?_, HBB.out, fun a h => .inl h⟩
          · rw [← EM.out, HM.out]; unfold nxT nxE; rw [if_pos hT, if_pos hT]; rfl
          · rw [← EM.out, HM.out]; exact Reads.kp (S := fun _ => False) HR.out (.of_below HBB.out) (fun _ _ h => h)
        · rw [if_neg hT] at HML2
          have EM := Lib.hid HML2
          clear HML2 hl2
          have HRc := Lib.hid (show Reads wc wc.heap.size 1 A m (mm.map (Value.int .i64)) from Reads.kp (S := fun _ => False) HR.out (.of_below HBB.out) (fun _ _ h => h))
          have hT9 : T ≤ 1125899906842623 := by omega
          go_wp2_with (first | (at_builtin; refine wpList_append_any _ rfl (.tmp 44) (.tmp 45) 26 rfl wc.heap.size 2 i0 (.int .i64 0) 1 8 Try.underlying26 hi0 hz0 hz1 hz2 rfl (by decide) (.slice (some ⟨wc.heap.size, 0, none⟩) 0 0) 0 [] rfl (own_new #[] 0 rfl (by simp [maxLen]) rfl) wc.heap.size A m c (mm.map (Value.int .i64)) rfl (HRc.out.alloc (Nat.le_refl _) _) (one_ints _) (by unfold maxLen; omega) (by omega) (by simp) ?_; intro v1 w1 ho1 hg1 _; have HO := Lib.hid ho1; have HG := Lib.hid hg1; clear ho1 hg1) | (at_builtin; refine wpList_append_any _ rfl (.tmp 46) (.tmp 49) 26 rfl wc.heap.size 2 i0 (.int .i64 0) 1 8 Try.underlying26 hi0 hz0 hz1 hz2 rfl (by decide) v1 (0 + m) _ rfl (HO.out.alloc _) (w1.heap.size + 1) (some ⟨w1.heap.size, 0, none⟩) 1 1 [.int .i64 (T + 1)] rfl (reads_one rfl) (by simp [Value.oneCell']) (by unfold maxLen; omega) (by omega) (by have := HG.out.size; simp at this ⊢; omega) ?_; intro v2 w2 ho2 hg2 _; have HO2 := Lib.hid ho2; have HG2 := Lib.hid hg2; clear ho2 hg2))
          go_ret3
          obtain ⟨A2, c2, rfl, hR2, hA2⟩ := own_shape HO2.out
          refine ⟨A2, c2, ?_, ?_, ?_, fun a h => .inr (Nat.le_trans HBB.out.size (hA2 a h))⟩
          · rw [← EM.out, List.length_append, HM.out]; unfold nxT nxE; rw [if_neg (show ¬ 1125899906842624 ≤ T by omega), if_neg (show ¬ 1125899906842624 ≤ T by omega), Nat.zero_add]; rfl
          · have := hR2
            rw [Nat.zero_add] at this
            rw [← EM.out, List.length_append, HM.out]
            simpa using this
          · have k1 := Below.grown ((Below.refl wc.heap.size wc).alloc (Nat.le_refl _) _) HG.out (by simp) (fun k e => by simp [Value.ownBlock] at e; omega)
            exact below_then HBB.out (Below.grown (k1.alloc k1.size _) HG2.out (by have := k1.size; simp; omega) (fun k e => (HO.out.lt k e).1))
set_option maxHeartbeats 1000000 in
theorem rnext_bad (A : Option Addr) (m c : Nat) (L : List Int) (lo hi : Int) (B : Option Addr) (n d : Nat) (w : World) (hm : L.length = m) (hr : Reads w w.heap.size 1 A m (L.map (Value.int .i64))) (h : ¬ (0 ≤ lo ∧ lo ≤ hi ∧ hi ≤ 1125899906842624)) :
    Calls Try.prog 10 #[.slice A m c, .agg #[.int .i64 lo, .int .i64 hi], .slice B n d] w (RNx w A L 0 100) := by
  have HM := Lib.hid hm; have HR := Lib.hid hr
  clear hm hr
  go_enter Try.func10, Try.ntmps10
  rcases (show lo < 0 ∨ (0 ≤ lo ∧ 1125899906842624 < lo) ∨ (0 ≤ lo ∧ lo ≤ 1125899906842624 ∧ hi < 0) ∨ (0 ≤ lo ∧ lo ≤ 1125899906842624 ∧ 0 ≤ hi ∧ 1125899906842624 < hi) ∨ (0 ≤ lo ∧ lo ≤ 1125899906842624 ∧ 0 ≤ hi ∧ hi ≤ 1125899906842624 ∧ hi < lo) by omega) with h | ⟨h, h'⟩ | ⟨h, h', h''⟩ | ⟨h, h', h'', h3⟩ | ⟨h, h', h'', h3, h4⟩
  all_goals
    first | (have b0 : decide (0 ≤ lo) = false := by simp; omega) | (have b0 : decide (lo ≤ 1125899906842624) = false := by simp; omega) | (have b0 : decide (0 ≤ hi) = false := by simp; omega) | (have b0 : decide (hi ≤ 1125899906842624) = false := by simp; omega) | (have b0 : decide (lo ≤ hi) = false := by simp; omega)
    go_wp2_with (first | (go_at_call 19; go_in) | (go_at_call 23; go_in) | (at_builtin; fail))
    all_goals
      go_ret3
      refine ⟨A, c, by rw [HM.out]; rfl, ?_, by repeat (first | exact Below.refl _ _ | refine below_alloc_ ?_ _ | refine Below.drew ?_), fun a h => .inl h⟩
      rw [HM.out]
      exact Reads.kp (S := fun _ => False) HR.out (.of_below (by repeat (first | exact Below.refl _ _ | refine below_alloc_ ?_ _ | refine Below.drew ?_))) (fun _ _ h => h)
theorem tops_cat (mm ys : List Int) (hi : Int) : tops 0 (mm ++ [hi] ++ ys) = tops (max (tops 0 mm) hi) ys := by unfold tops; rw [List.foldl_append, List.foldl_append]; rfl
def mlOf (L : List Int) (n er : Int) : List Int := if er = 0 then L ++ [n] else L
theorem rnext_any {last n er l : Int} {m k : Nat} {mm ys : List Int} (A : Option Addr) (c : Nat) (lo hi : Int) (B : Option Addr) (d : Nat) (w : World) (hm : mm.length = m) (hr : Reads w w.heap.size 1 A m (mm.map (Value.int .i64))) (hmb : m ≤ 1000)
    (hn : ys.length = k) (hr2 : Reads w w.heap.size 1 B k (ys.map (Value.int .i64))) (hnb : k ≤ 1000) (hl : tops 0 mm = last) (h : NextIs last lo hi ys n er l) :
    Calls Try.prog 10 #[.slice A m c, .agg #[.int .i64 lo, .int .i64 hi], .slice B k d] w (RNx w A (mlOf mm n er) n er) ∧ tops 0 (mlOf mm n er) = l := by
  rcases h with ⟨h, rfl, rfl, rfl⟩ | ⟨⟨h0, h1, h2⟩, ht, rfl, rfl, rfl⟩ | ⟨⟨h0, h1, h2⟩, ht, rfl, rfl, rfl⟩
  · exact ⟨rnext_bad A m c mm lo hi B k d w hm hr h, hl⟩
  · have hT : tops 0 (mm ++ [hi] ++ ys) = tops (max last hi) ys := by rw [tops_cat, hl]
    have := rnext_ok A c lo hi B d w hm hr hmb hn hr2 hnb h0 h1 h2 _ hT mm (by rw [if_pos ht])
    unfold nxT nxE at this
    rw [if_pos ht, if_pos ht] at this
    exact ⟨this, hl⟩
  · have hT : tops 0 (mm ++ [hi] ++ ys) = tops (max last hi) ys := by rw [tops_cat, hl]
    have hnt : ¬ 1125899906842624 ≤ tops (max last hi) ys := by omega
    have := rnext_ok A c lo hi B d w hm hr hmb hn hr2 hnb h0 h1 h2 _ hT _ (by rw [if_neg hnt])
    unfold nxT nxE at this
    rw [if_neg hnt, if_neg hnt] at this
    refine ⟨this, ?_⟩
    have h3 := tops_ge (max last hi) ys
    unfold mlOf
    rw [if_pos rfl]
    unfold tops at hl ⊢
    rw [List.foldl_append, hl]
    show max last (tops (max last hi) ys + 1) = tops (max last hi) ys + 1
    omega
theorem rkeep_bad (A : Option Addr) (m c : Nat) (t : Int) (w : World) (h : t < 1 ∨ 1125899906842624 < t) :
    Calls Try.prog 11 #[.slice A m c, .int .i64 t] w fun e w' => e = .returned (.tuple #[.slice A m c, .int .i64 100]) ∧ w = w' := by
  rcases (show t < 1 ∨ (1 ≤ t ∧ 1125899906842624 < t) by omega) with h | ⟨h, h'⟩
  all_goals
    first | (have b0 : decide (0 < t) = false := by simp; omega) | (have b0 : decide (t ≤ 1125899906842624) = false := by simp; omega)
    go_enter Try.func11, Try.ntmps11
    go_wp2_with (first | (go_at_call 20; go_in) | (go_at_call 23; go_in) | (at_builtin; fail))
    go_ret2
    exact ⟨rfl, rfl⟩
def mlKeep (L : List Int) (t kr : Int) : List Int := if kr = 0 then L ++ [t] else L
/-- a list that the reference gave, with an answer -/
def RKp (w : World) (A : Option Addr) (L : List Int) (er : Int) (e' : Ending) (w' : World) : Prop := ∃ A' c', e' = .returned (.tuple #[.slice A' L.length c', .int .i64 er]) ∧ Reads w' w'.heap.size 1 A' L.length (L.map (Value.int .i64)) ∧ Below w.heap.size w w' ∧ ∀ a, A' = some a → A = some a ∨ w.heap.size ≤ a.block
theorem rkeep_any {last kr l : Int} {m : Nat} {mm : List Int} (A : Option Addr) (c : Nat) (t : Int) (w : World) (hm : mm.length = m) (hr : Reads w w.heap.size 1 A m (mm.map (Value.int .i64))) (hmb : m ≤ 1000) (hl : tops 0 mm = last) (h : KeepIs last t kr l) :
    Calls Try.prog 11 #[.slice A m c, .int .i64 t] w (RKp w A (mlKeep mm t kr) kr) ∧ tops 0 (mlKeep mm t kr) = l := by
  rcases h with ⟨h1, h2, rfl, h3⟩ | ⟨h1, rfl, rfl⟩
  · refine ⟨(refKeep_ok A c t w hm hr (by omega) h1 h2).mono ?_, ?_⟩
    · rintro e w' ⟨A', c', rfl, hR, hB, ha⟩
      refine ⟨A', c', ?_, ?_, hB, fun a h => .inr (ha a h)⟩
      · unfold mlKeep; rw [if_pos rfl, List.length_append, hm]; rfl
      · unfold mlKeep; rw [if_pos rfl, List.length_append, hm]; exact hR
    · unfold mlKeep tops at *; rw [if_pos rfl, List.foldl_append, hl]; exact h3
  · refine ⟨(rkeep_bad A m c t w h1).mono ?_, hl⟩
    rintro e w' ⟨rfl, rfl⟩
    exact ⟨A, c, by rw [show mlKeep mm t 100 = mm from rfl, hm], by rw [show mlKeep mm t 100 = mm from rfl, hm]; exact hr, Below.refl _ _, fun a h => .inl h⟩
theorem rlast_any {m : Nat} {mm : List Int} (last : Int) (A : Option Addr) (c : Nat) (w : World) (hm : mm.length = m) (hmb : m ≤ 1000) (hr : Reads w w.heap.size 1 A m (mm.map (Value.int .i64))) (hl : tops 0 mm = last) :
    Calls Try.prog 14 #[.slice A m c] w fun e w' => e = .returned (.int .i64 last) ∧ w = w' := by
  have HM := Lib.hid hm; have HR := Lib.hid hr; have HL := Lib.hid hl
  clear hm hr hl
  go_enter Try.func14, Try.ntmps14
  go_wp2
  go_loop [3, 4] (fun st si => ∃ k : Nat, k ≤ m ∧ si = .int .i64 k ∧ st = .int .i64 (tops 0 (mm.take k))) (fun _ si => m - (intOf si).toNat)
  case atStart => exact ⟨0, Nat.zero_le _, rfl, by simp [tops]⟩
  case round =>
    obtain ⟨k, hk, rfl, rfl⟩ := hrel
    by_cases hlt : k < m
    · have hkl : k < mm.length := by rw [HM.out]; exact hlt
      obtain ⟨ad, u, rfl, hadb, hx, hcell⟩ := HR.out.at_ (k := k) hlt
      obtain rfl : Value.int .i64 mm[k] = u := by simpa [hkl] using hx
      clear hx
      have E1 := Lib.hid (tops_take 0 mm k hkl)
      generalize mm[k] = z at *
      obtain ⟨F, hF⟩ : ∃ F, tops 0 (mm.take k) = F := ⟨_, rfl⟩
      rw [hF] at E1 ⊢
      clear hF
      rcases (show F < z ∨ z ≤ F by omega) with hf | hf
      all_goals
        go_wp2_with fail
        go_round
        case rel => exact ⟨k + 1, by omega, by go_num, by rw [E1.out]; first | rw [Int.max_eq_right (Int.le_of_lt hf)] | rw [Int.max_eq_left hf]⟩
        case measure => simp [intOf]; omega
    · obtain rfl : k = m := by omega
      have e : mm.take k = mm := by rw [← HM.out, List.take_length]
      rw [e, HL.out]
      clear e
      go_wp2_with fail
      go_ret
      exact ⟨rfl, rfl⟩
end Go.Proofs.Ytkjlhhdenebbiaa
