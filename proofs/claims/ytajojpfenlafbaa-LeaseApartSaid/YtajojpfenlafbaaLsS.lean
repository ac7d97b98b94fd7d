/- slices.Sort over a few int64: what it leaves, by a function. -/
import Derived.Test.YtajojpfenlafbaaWords
import Derived.Test.YtajojpfenlafbaaWordB
import Derived.Test.YtajojpfenlafbaaShelf
import Derived.RegionTactic
import Derived.BigRegion
import Derived.ChangeAlike
import Derived.LoopTactic
import Derived.IntWalk
import Derived.Deep.QuietTactic
import Derived.BigQuiet
import Derived.Deep.DrawnRows
set_option linter.unusedSimpArgs false
set_option linter.unusedVariables false
namespace Go.Proofs.Ytajojpfenlafbaa
open Go.RowKit
def arr (gs : List Int) : Array Value := (gs.map (Value.int .i64)).toArray
theorem arr_set (gs : List Int) (m : Nat) (n : Int) : (arr gs).setIfInBounds m (.int .i64 n) = arr (gs.set m n) := by
  unfold arr
  simp [List.map_set]
theorem arr_at {w : World} {g : Nat} {T : TypeId} {gs : List Int} (h : Blk w g T (arr gs)) (q : Nat) (hq : q < gs.length) : w.cell? ⟨g, q, none⟩ = some (.int .i64 (gs.getD q 0)) := by
  have := h.cell q
  rw [this]
  unfold arr
  simp [hq]
def swp (us : List Int) (i : Nat) : List Int := (us.set (i + 1) (us.getD i 0)).set i (us.getD (i + 1) 0)
def ins : List Int → Nat → List Int
  | us, 0 => us
  | us, j + 1 => if us.getD (j + 1) 0 < us.getD j 0 then ins (swp us j) j else us
def srt (us : List Int) : Nat → List Int
  | 0 => us
  | i + 1 => ins (srt us i) i
theorem swp_len (us : List Int) (i : Nat) : (swp us i).length = us.length := by unfold swp; simp
theorem ins_len (us : List Int) (i : Nat) : (ins us i).length = us.length := by
  induction i generalizing us with
  | zero => rfl
  | succ i ih => unfold ins; split; rw [ih, swp_len]; rfl
theorem srt_len (us : List Int) (i : Nat) : (srt us i).length = us.length := by
  induction i with
  | zero => rfl
  | succ i ih => unfold srt; rw [ins_len, ih]
theorem less_any (x y : Int) (w : World) : Calls Try.prog 50 #[.int .i64 x, .int .i64 y] w fun e w' => e = .returned (.bool (decide (x < y))) ∧ w = w' := by
  go_enter Try.func50, Try.ntmps50
  go_wp2_with (go_at_call 64; go_in)
  go_ret
  exact ⟨rfl, rfl⟩
theorem less_q (x y : Int) (w : World) : Calls Try.prog 50 #[.int .i64 x, .int .i64 y] w fun e w' => e = .returned (.bool (decide (x < y))) ∧ w' = w :=
  (less_any x y w).mono fun _ _ ⟨h1, h2⟩ => ⟨h1, h2.symm⟩
set_option maxRecDepth 100000 in
set_option maxHeartbeats 1000000 in
theorem insSort_any (b : Nat) (T : TypeId) (us : List Int) (n cap : Nat) (w : World) (h : Blk w b T (arr us)) (hn : n ≤ us.length) (hs : us.length ≤ 1000) (hc : n ≤ cap) :
    Calls Try.prog 44 #[.slice (some ⟨b, 0, none⟩) n cap, .int .i64 0, .int .i64 n] w fun e w' => e = .returned (.tuple #[]) ∧ Blk w' b T (arr (srt us n)) ∧ Keeps (· = b) w w' := by
  have HH := Lib.hid h
  clear h
  go_enter Try.func44, Try.ntmps44
  go_wp2
  go_loopw [6] (fun si wr => ∃ i : Nat, 1 ≤ i ∧ (i ≤ n ∨ i = 1) ∧ si = .int .i64 i ∧ Hid (Blk wr b T (arr (srt us i))) ∧ Hid (Keeps (· = b) w wr)) (fun si _ => n - (intOf si).toNat)
  case atStart => exact ⟨1, by omega, .inr rfl, rfl, HH, Lib.hid (Keeps.refl _ _)⟩
  case round =>
    clear HH
    obtain ⟨i, hi1, hi2, rfl, H, K⟩ := hrel
    rename World => wo
    by_cases hlt : i < n
    · have E := Lib.hid (show srt us (i + 1) = ins (srt us i) i from rfl)
      obtain ⟨v, hv⟩ : ∃ v, srt us i = v := ⟨_, rfl⟩
      have hvl : v.length = us.length := by rw [← hv, srt_len]
      rw [hv] at H E
      clear hv
      go_wp2_with fail
      go_loopw [7] (fun sj wr => ∃ (j : Nat) (cur : List Int), j ≤ i ∧ sj = .int .i64 j ∧ cur.length = us.length ∧ Hid (ins cur j = srt us (i + 1)) ∧ Hid (Blk wr b T (arr cur)) ∧ Hid (Keeps (· = b) w wr)) (fun sj _ => (intOf sj).toNat)
      case atStart => exact ⟨i, v, Nat.le_refl _, rfl, hvl, Lib.hid E.out.symm, H, K⟩
      case round =>
        clear E H K hvl v
        obtain ⟨j, cur, hj, rfl, hcl, E, H, K⟩ := hrel
        rename World => wq
        by_cases hj0 : j = 0
        · have hd : decide ((0 : Int) < (j : Int)) = false := by simp; omega
          have hd2 : decide (0 < j) = false := by simp; omega
          have e1 : cur = srt us (i + 1) := by have := E.out; rwa [hj0] at this
          rw [e1] at H
          clear e1 hj0
          go_wp2_with fail
          go_quiet (fail)
          go_wp2_with fail
          go_roundw
          case rel => exact ⟨i + 1, by omega, by omega, by go_num, Lib.hid (H.out.drewN _), Lib.hid (K.out.drewN _)⟩
          case measure => simp [intOf]; omega
        · obtain ⟨p, rfl⟩ : ∃ p, j = p + 1 := ⟨j - 1, by omega⟩
          clear hj0
          rw [show (((p + 1 : Nat) : Int)) = (p : Int) + 1 from rfl]
          have q1 := arr_at H.out (p + 1) (by omega)
          have q0 := arr_at H.out p (by omega)
          have hd : decide ((0 : Int) < (p : Int) + 1) = true := decide_eq_true (by omega)
          have b0 : (p : Int) + 1 < (n : Int) := by omega
          have b1 : (0 : Int) ≤ (p : Int) := by omega
          have b2 : (p : Int) < (n : Int) := by omega
          have b3 : (0 : Int) ≤ (p : Int) + 1 := by omega
          have e := E.out
          unfold ins at e
          by_cases hls : cur.getD (p + 1) 0 < cur.getD p 0
          · rw [if_pos hls] at e
            have hd2 : decide (cur.getD (p + 1) 0 < cur.getD p 0) = true := decide_eq_true hls
            have hsl := swp_len cur p
            have E2 := Lib.hid e
            have HW : Hid (∀ wx, Blk wx b T (arr cur) → Blk ((wx.setCell ⟨b, p + 1, none⟩ (.int .i64 (cur.getD p 0))).setCell ⟨b, p, none⟩ (.int .i64 (cur.getD (p + 1) 0))) b T (arr (swp cur p))) := Lib.hid (fun wx h => by
              have h1 := h.set_ (p + 1) (.int .i64 (cur.getD p 0))
              rw [arr_set] at h1
              have h2 := h1.set_ p (.int .i64 (cur.getD (p + 1) 0))
              rw [arr_set] at h2
              exact h2)
            have f1 := H.out.frozen (p + 1); have f0 := H.out.frozen p
            generalize swp cur p = nxt at *
            generalize cur.getD (p + 1) 0 = x at *
            generalize cur.getD p 0 = y at *
            clear e
            have t1 : ((p : Int) + 1).toNat = p + 1 := by omega
            have w1 : IntKind.i64.wrap ((p : Int) + 1 - 1) = (p : Int) := by rw [show (p : Int) + 1 - 1 = p by omega]; exact IntWalk.i64_in _ (by omega)
            have w2 : IntKind.i64.wrap (p : Int) = (p : Int) := IntWalk.i64_in _ (by omega)
            go_wp2_with fail
            go_quiet ((go_at_call 50; exact Calls.quiet_of_same (less_q _ _ _)))
            go_wp2_with fail
            go_region
            all_goals
              go_wp2_with fail
              go_roundw
              case rel => exact ⟨p, nxt, by omega, rfl, by omega, E2, Lib.hid (HW.out _ (H.out.drewN _)), Lib.hid (Keeps.set_ (S := (· = b)) (Keeps.set_ (S := (· = b)) (K.out.drewN _) (Or.inl rfl) _) (Or.inl rfl) _)⟩
              case measure => simp [intOf] <;> omega
          · rw [if_neg hls] at e
            rw [e] at H
            have hd2 : decide (cur.getD (p + 1) 0 < cur.getD p 0) = false := decide_eq_false hls
            generalize cur.getD (p + 1) 0 = x at *
            generalize cur.getD p 0 = y at *
            clear e hls
            have t1 : ((p : Int) + 1).toNat = p + 1 := by omega
            have w1 : IntKind.i64.wrap ((p : Int) + 1 - 1) = (p : Int) := by rw [show (p : Int) + 1 - 1 = p by omega]; exact IntWalk.i64_in _ (by omega)
            have w2 : IntKind.i64.wrap (p : Int) = (p : Int) := IntWalk.i64_in _ (by omega)
            go_wp2_with fail
            go_quiet ((go_at_call 50; exact Calls.quiet_of_same (less_q _ _ _)))
            go_wp2_with fail
            go_roundw
            case rel => exact ⟨i + 1, by omega, by omega, by go_num, Lib.hid (H.out.drewN _), Lib.hid (K.out.drewN _)⟩
            case measure => simp [intOf]; omega
    · have hd : decide ((i : Int) < (n : Int)) = false := by simp; omega
      have hd2 : decide (i < n) = false := by simp; omega
      have e1 : srt us i = srt us n := by
        rcases hi2 with h | rfl
        · rw [show i = n by omega]
        · rcases (show n = 0 ∨ n = 1 by omega) with rfl | rfl <;> rfl
      rw [e1] at H
      clear e1
      go_wp2_with fail
      go_end0
      exact ⟨rfl, H.out, K.out⟩
set_option maxRecDepth 100000 in
set_option maxHeartbeats 1000000 in
theorem pdq_any (b : Nat) (T : TypeId) (us : List Int) (n cap : Nat) (lim : Int) (w : World) (h : Blk w b T (arr us)) (hn : n ≤ us.length) (hs : us.length ≤ 12) (hc : n ≤ cap) :
    Calls Try.prog 38 #[.slice (some ⟨b, 0, none⟩) n cap, .int .i64 0, .int .i64 n, .int .i64 lim] w fun e w' => e = .returned (.tuple #[]) ∧ Blk w' b T (arr (srt us n)) ∧ Keeps (· = b) w w' := by
  have hd : decide ((n : Int) ≤ 12) = true := decide_eq_true (by omega)
  have hd2 : (n : Int) ≤ 12 := by omega
  have HC := Lib.hid (insSort_any b T us n cap w h hn (by omega) hc)
  clear h hs
  go_enter Try.func38, Try.ntmps38
  go_wp2_with fail
  go_loopw [1, 2, 3] (fun s1 s2 s3 wr => s1 = .int .i64 0 ∧ s2 = .int .i64 n ∧ s3 = .int .i64 lim ∧ w = wr) (fun _ _ _ _ => 0)
  case atStart => exact ⟨rfl, rfl, rfl, rfl⟩
  case round =>
    obtain ⟨rfl, rfl, rfl, rfl⟩ := hrel
    go_wp2_with (go_at_call 44; refine HC.out.mono ?_; rintro e w1 ⟨rfl, hb1, hk1⟩)
    exact bodyPost_ret (v := .tuple #[]) (by simp [results, Try.results38, go_sem]) rfl ⟨rfl, hb1, hk1⟩
set_option maxHeartbeats 1000000 in
theorem sort_any (b : Nat) (T : TypeId) (us : List Int) (n cap : Nat) (w : World) (h : Blk w b T (arr us)) (hn : n ≤ us.length) (hs : us.length ≤ 12) (hc : n ≤ cap) :
    Calls Try.prog 30 #[.slice (some ⟨b, 0, none⟩) n cap] w fun e w' => e = .returned (.tuple #[]) ∧ Blk w' b T (arr (srt us n)) ∧ Keeps (· = b) w w' := by
  have HC := Lib.hid (fun lim => pdq_any b T us n cap lim w h hn hs hc)
  have h12 : n ≤ 12 := by omega
  clear h hs
  go_enter Try.func30, Try.ntmps30
  go_wp2_with (first | (go_at_call 39; refine (Try.bits_Len _ _ (by omega) (by omega)).mono ?_; rintro e w1 ⟨rfl, rfl⟩) | (go_at_call 38; refine (HC.out _).mono ?_; rintro e w1 ⟨rfl, hb1, hk1⟩))
  go_end0
  exact ⟨rfl, hb1, hk1⟩
end Go.Proofs.Ytajojpfenlafbaa
