/- SpanJoins: the walk. -/
import Derived.Test.YtnljmjibjjjelaaSpanF
set_option linter.unusedSimpArgs false
set_option linter.unusedVariables false
namespace Go.Proofs.Ytnljmjibjjjelaa
open Go.RowKit Mo
theorem span_info : (Try.prog.info? 23).map (fun i => (i.zero, i.size, i.bytes)) = some (some (.agg #[.int .i64 0, .int .i64 0]), 2, 16) := by kernel_rfl
theorem own_empty2 {w : World} {e : TypeId} {base b : Nat} (hb : w.heap.size = b) (h : base ≤ b) : (w.alloc (.cells #[] e)).ownsRow base e 2 (.slice (some ⟨b, 0, none⟩) 0 0) 0 [] := by
  subst hb
  exact World.ownsRow_made w #[] 0 h (by simp [maxLen]) rfl
theorem span_one (xs : List VSpan) : ∀ u ∈ xs.flatMap VSpan.cells, u.oneCell' = true := by
  intro u hu
  obtain ⟨x, _, hx⟩ := List.mem_flatMap.1 hu
  simp only [VSpan.cells, List.mem_cons, List.not_mem_nil, or_false] at hx
  rcases hx with rfl | rfl <;> rfl
set_option maxHeartbeats 1000000 in
theorem spanJoins_walk (w : World) (A : Option Addr) (c : Nat) (xs : List VSpan) (hr : SlOk w 2 A c (xs.flatMap VSpan.cells)) (hc : xs.length ≤ c) (hm : c ≤ maxLen) (hx : ∀ u_ ∈ xs, VSpan.ok w u_) :
    Calls Try.prog 6 #[.slice A xs.length c] w fun e w' => e = .returned (.bool true) ∧ Below w.heap.size w w' := by
  have hr := hr.reads (n := xs.length) (flatMap_len xs VSpan.cells 2 (fun _ => rfl)) (by decide)
  have HR := Lib.hid hr
  have HXX := Lib.hid hx
  have HB : Hid (Below w.heap.size w w) := Lib.hid (Below.refl _ _)
  clear hr hc hm hx
  rcases (show 2000 < xs.length ∨ xs.length ≤ 2000 by omega) with h | h
  · have hd : decide ((2000 : Int) < xs.length) = true := by simp; omega
    go_enter Try.func6, Try.ntmps6
    go_wp2_with (go_at_call 15; refine (awake05_any _).mono ?_; rintro e w5 ⟨rfl, hb⟩; replace HB := Lib.hid (below_then (w := w) (by repeat (first | exact HB.out | refine below_alloc_ ?_ _ | exact Below.refl _ _)) hb); clear hb)
    go_ret
    exact ⟨rfl, HB.out⟩
  have hd : decide ((2000 : Int) < xs.length) = false := by simp; omega
  have HMM := Lib.hid (show xs.length ≤ 9223372036854775807 by omega)
  obtain ⟨k, hk⟩ : ∃ k, joinOk xs = k := ⟨_, rfl⟩
  have HK := Lib.hid hk
  obtain ⟨L, hL⟩ : ∃ L, joinLo xs = L := ⟨_, rfl⟩
  have HL := Lib.hid hL
  obtain ⟨H, hH⟩ : ∃ H, joinHi xs = H := ⟨_, rfl⟩
  have HH := Lib.hid hH
  clear hk hL hH
  obtain ⟨i0, hi0, hz0, hz1, hz2⟩ := info_parts span_info
  go_enter Try.func6, Try.ntmps6
  go_wp2_with (first
    | (at_builtin
       go_loud (refine wpList_append_any _ rfl (.tmp 12) (.tmp 13) 40 rfl w.heap.size 23 i0 (.agg #[.int .i64 0, .int .i64 0]) 2 16 Try.underlying40 hi0 hz0 hz1 hz2 rfl (by omega) (.slice (some ⟨w.heap.size, 0, none⟩) 0 0) 0 [] (by rfl) (own_empty2 (by rfl) (Nat.le_refl _)) _ A xs.length c (xs.flatMap VSpan.cells) (by rfl) (HR.out.al _) (span_one xs) (by simp only [maxLen]; omega) (by omega) (by simp) ?_)
       go_loud (intro v1 w1 hown hg1 hat1; simp only [Nat.zero_add, List.nil_append] at hown; (replace HB : Hid (Below w.heap.size w w1) := Lib.hid ((below_alloc_ (Below.refl _ _) _).grown hg1 (by simp) (by simp [Value.ownBlock]))); (obtain ⟨A1, c1, rfl, hr1, _⟩ := own_shape hown); (have HR1 := Lib.hid hr1))
       clear hown hr1 hg1 hat1)
    | (go_at_call 25; refine (join_any _ A1 c1 xs HR1.out HMM.out (fun u hu => HXX.out u hu)).mono ?_; rintro e wJ ⟨rfl, hb⟩; rw [HK.out, HL.out, HH.out]; have TC : Hid (Blk (wJ.alloc (.cells #[.int .i64 L, .int .i64 H] 23)) wJ.heap.size 23 #[.int .i64 L, .int .i64 H]) := Lib.hid (Blk.new wJ _ _); replace HB := Lib.hid (below_then (w := w) (by repeat (first | exact HB.out | refine below_alloc_ ?_ _ | exact Below.refl _ _)) hb); clear hb; (have HR2 := Lib.hid (HR.out.kp (S := fun _ => False) (.of_below (below_alloc_ HB.out (.cells #[.int .i64 L, .int .i64 H] 23))) (fun _ _ h => h))))
    | (go_at_call 26; refine (rjoin_any _ A c xs HR2.out HMM.out (fun u hu => HXX.out u hu)).mono ?_; rintro e wR ⟨rfl, hb⟩; rw [HK.out, HL.out, HH.out]; replace TC := Lib.hid (blk_pass TC.out (by repeat (first | exact Below.refl _ _ | refine below_alloc_ ?_ _ | refine Below.drew ?_)) hb); (try clear q1 q2 q3); obtain ⟨⟨q1, q2⟩, q3⟩ := blk_facts TC.out; have TD : Hid (Blk (wR.alloc (.cells #[.int .i64 L, .int .i64 H] 23)) wR.heap.size 23 #[.int .i64 L, .int .i64 H]) := Lib.hid (Blk.new wR _ _); replace HB := Lib.hid (below_then (w := w) (by repeat (first | exact HB.out | refine below_alloc_ ?_ _ | exact Below.refl _ _)) hb); clear hb)
    | (go_at_call 15; refine (awake05_any _).mono ?_; rintro e w5 ⟨rfl, hb⟩; replace TC := Lib.hid (blk_pass TC.out (by repeat (first | exact Below.refl _ _ | refine below_alloc_ ?_ _ | refine Below.drew ?_)) hb); (try clear q1 q2 q3); obtain ⟨⟨q1, q2⟩, q3⟩ := blk_facts TC.out; replace TD := Lib.hid (blk_pass TD.out (by repeat (first | exact Below.refl _ _ | refine below_alloc_ ?_ _ | refine Below.drew ?_)) hb); (try clear q4 q5 q6); obtain ⟨⟨q4, q5⟩, q6⟩ := blk_facts TD.out; replace HB := Lib.hid (below_then (w := w) (by repeat (first | exact HB.out | refine below_alloc_ ?_ _ | exact Below.refl _ _)) hb); clear hb))
  go_ret
  exact ⟨rfl, HB.out⟩
end Go.Proofs.Ytnljmjibjjjelaa
