/- Runs of a clock: the contracts of brought and begun. -/
import Derived.Test.YtdemonageoagiaaCkC
import Derived.Test.YtdemonageoagiaaCkR
import Derived.Test.YtdemonageoagiaaCkEx
import Derived.Test.YtdemonageoagiaaOpen06
import Derived.Test.YtdemonageoagiaaProdG
import Derived.Test.YtdemonageoagiaaRated
import Derived.IntWalk
import Derived.LoopTactic
import Derived.Deep.QuietTactic
import Derived.BigQuiet
set_option linter.unusedSimpArgs false
set_option linter.unusedVariables false
namespace Go.Proofs.Ytdemonageoagiaa
open Go.RowKit Mo
theorem run_store_float {P : Program} {w : World} {a : Addr} {m : Mode} (k : FloatKind) (b : Nat) : (store a (.float k b) m).run P w = stored P w a (.float k b) m := run_store P w a _ m rfl
attribute [local go_sem] run_store_float
def bro (n m : Int) : Int := if m < n then m else if n < -m then -m else n
theorem bro_bnd {n m : Int} (h : 0 ≤ m) : -m ≤ bro n m ∧ bro n m ≤ m := by unfold bro; split <;> (try split) <;> omega
set_option maxHeartbeats 400000 in
theorem brought_any (n m : Int) (w : World) (h0 : 0 ≤ m) (h1 : m ≤ 9223372036854775807) : Calls Try.prog 28 #[.int .i64 n, .int .i64 m] w fun e w' => e = .returned (.int .i64 (bro n m)) ∧ w = w' := by
  unfold bro
  rcases (show m < n ∨ (n ≤ m ∧ n < -m) ∨ (n ≤ m ∧ -m ≤ n) by omega) with h | ⟨h, h'⟩ | ⟨h, h'⟩
  · rw [if_pos h]
    go_enter Try.func28, Try.ntmps28
    go_wp2
    go_ret
    exact ⟨rfl, rfl⟩
  · rw [if_neg (by omega), if_pos h']
    go_enter Try.func28, Try.ntmps28
    go_wp2
    go_ret
    exact ⟨rfl, rfl⟩
  · rw [if_neg (by omega), if_neg (by omega)]
    have hd : decide (n < -m) = false := by simp; omega
    go_enter Try.func28, Try.ntmps28
    go_wp2
    go_ret
    exact ⟨rfl, rfl⟩
set_option maxRecDepth 100000 in
set_option maxHeartbeats 1000000 in
theorem begun_ok (r : Nat) (t e off : Int) (w : World) (hr9 : r < 18446744073709551616) (hr : rate6 r = true) (e0 : 0 ≤ e) (e1 : e ≤ 65535) (T y : Int) (hT : bits .and .i64 t 1099511627775 = T) (hy : max (T + bro off e) 0 = y) (h0 : 0 ≤ T) (h1 : T ≤ 1099511627775) :
    Calls Try.prog 18 #[.float .f64 r, .int .i64 t, .int .u16 e, .int .i64 off] w fun e' w' => e' = .returned (.tuple #[.agg #[.pointer (some ⟨w.heap.size + 1, 0, none⟩), .float .f64 r, .int .i64 0, .int .i64 T], .bool true]) ∧
      Blk w' (w.heap.size + 1) 77 (Ck.cells ⟨0, y, e, true, r, 0, 0⟩) ∧ Below w.heap.size w w' := by
  have hb := bro_bnd (n := off) e0
  obtain ⟨B, hB⟩ : ∃ B, bro off e = B := ⟨_, rfl⟩
  rw [hB] at hb hy
  obtain ⟨b1, b2⟩ := hb
  have HBR := Lib.hid hB
  have HR := Lib.hid hr
  have hs : ckSetE (ckNew r) 0 y e = 0 := by
    unfold ckSetE
    rw [if_pos (by simp only [Bool.and_eq_true, inT_iff]; omega), if_neg (by simp [ckNew])]
  have hs2 : ckSet (ckNew r) 0 y e = ⟨0, y, e, true, r, 0, 0⟩ := by unfold ckSet; rw [if_pos hs]; rfl
  have S1 := Lib.hid hs; have S2 := Lib.hid hs2
  clear hB hr hs hs2
  have hwe : IntKind.i64.wrap e = e := IntWalk.i64_in _ (by omega)
  have hwt : IntKind.i64.wrap (T + B) = T + B := IntWalk.i64_in _ (by omega)
  rcases (show (T + B < 0 ∧ y = 0) ∨ (0 ≤ T + B ∧ y = T + B) by omega) with ⟨h2, rfl⟩ | ⟨h2, rfl⟩
  all_goals
    clear hy
    go_enter Try.func18, Try.ntmps18
    go_wp2_with (first | (go_at_call 10; refine (cnew_ok r _ hr9 HR.out).mono ?_; rintro e w1 ⟨rfl, rfl⟩) | (go_at_call 28; refine (brought_any off e _ e0 (by omega)).mono ?_; rintro e w1 ⟨rfl, rfl⟩; rw [HBR.out]))
    refine (cset_is (c := ckNew r) (w.heap.size + 1) 0 _ e _ (by repeat (first | (refine Blk.new' ?_; simp; done) | (refine Blk.new' ?_; rfl) | refine Blk.alloc ?_ _ | refine Blk.drewN ?_ _ | refine Blk.drew ?_)) S1.out S2.out).mono ?_
    rintro e' w6 ⟨rfl, hb2, hk2⟩
    have R6 := Lib.hid (Blk.keeps (g := w.heap.size) (t := 49) (cs := #[.pointer none, .float .f64 0, .int .i64 0, .int .i64 0]) (by repeat (first | (refine Blk.new' ?_; simp; done) | (refine Blk.new' ?_; rfl) | refine Blk.alloc ?_ _ | refine Blk.drewN ?_ _ | refine Blk.drew ?_)) hk2 (show ¬ (w.heap.size = w.heap.size + 1) by omega))
    have C6 := Lib.hid hb2
    have HB := Lib.hid (below_kp (w := w) (by repeat (first | exact Hid.out (by assumption) | exact Below.refl _ _ | refine below_alloc_ ?_ _ | refine below_drewN_ ?_ _ | refine Below.drew ?_ | refine below_set_ ?_ (by first | exact Nat.le_refl _ | (simp; done) | (simp; omega)) _)) hk2 (Nat.le_succ _))
    clear hb2 hk2
    obtain ⟨r0, r1, r2, r3⟩ := R6.out.c4
    have rl := R6.out.lt
    have z0 := R6.out.frozen 0; have z1 := R6.out.frozen 1; have z2 := R6.out.frozen 2; have z3 := R6.out.frozen 3
    go_wp2_with fail
    first
      | refine bodyPost_ret (v := .tuple #[.agg #[.pointer (some ⟨w.heap.size + 1, 0, none⟩), .float .f64 r, .int .i64 0, .int .i64 T], .bool true]) (via_blk (g := w.heap.size) (T := 49) (cs := #[.pointer (some ⟨w.heap.size + 1, 0, none⟩), .float .f64 r, .int .i64 0, .int .i64 T]) ?_ (fun W' hB => by obtain ⟨c0, c1, c2, c3⟩ := hB.c4; simp [results, Try.results18, go_sem, c0, c1, c2, c3])) rfl ⟨rfl, ?_, ?_⟩
    · exact blk_upd (blk_upd (blk_upd (blk_upd R6.out rfl) rfl) rfl) rfl
    · exact Blk.far (Blk.far (Blk.far (Blk.far C6.out (Nat.succ_ne_self _) _) (Nat.succ_ne_self _) _) (Nat.succ_ne_self _) _) (Nat.succ_ne_self _) _
    · exact below_set_ (below_set_ (below_set_ (below_set_ HB.out (Nat.le_refl _) _) (Nat.le_refl _) _) (Nat.le_refl _) _) (Nat.le_refl _) _
end Go.Proofs.Ytdemonageoagiaa
