/- StoryOrders: the walk. -/
import Derived.Test.YtjhhpcjnhjbpdaaSoRo
import Derived.Test.YtjhhpcjnhjbpdaaSoTm
import Derived.IntWalk
set_option linter.unusedSimpArgs false
set_option linter.unusedVariables false
namespace Go.Proofs.Ytjhhpcjnhjbpdaa
open Go.RowKit Mo
theorem int_at {wr : World} {ao : Addr} {R : List Int} (h : ∀ j u, (R.map (Value.int .i64))[j]? = some u → wr.cell? (ao.add j) = some u) {k : Nat} (hk : k < R.length) : wr.cell? (ao.add k) = some (.int .i64 R[k]) :=
  h k _ (by rw [List.getElem?_map, List.getElem?_eq_getElem hk]; rfl)
theorem ints_same (A B : Option Addr) (c d : Nat) (xs : List Int) (n : Nat) (w : World) (hn : xs.length = n) (ha : Reads w w.heap.size 1 A n (xs.map (Value.int .i64))) (hb : Reads w w.heap.size 1 B n (xs.map (Value.int .i64))) (hl : n ≤ 100000) :
    Calls Try.prog 9 #[.slice A n c, .slice B n d] w fun e w' => e = .returned (.bool true) ∧ Below w.heap.size w w' := by
  have HA := Lib.hid ha; have HB := Lib.hid hb; have HN := Lib.hid hn
  clear ha hb hn
  have d0 : ((n : Int) != (n : Int)) = false := by simp
  have d1 : (n != n) = false := by simp
  go_enter Try.func9, Try.ntmps9
  go_wp2_with fail
  go_loopw [5] (fun s wr => ∃ k : Nat, k ≤ n ∧ s = .int .i64 k ∧ Hid (Below w.heap.size w wr)) (fun s _ => n - (intOf s).toNat)
  case atStart => exact ⟨0, Nat.zero_le _, rfl, Lib.hid (Below.refl _ _)⟩
  case round =>
    obtain ⟨k, hk, rfl, HW⟩ := hrel
    by_cases hlt : k < n
    · have hd : decide ((k : Int) < (n : Int)) = true := by simp; omega
      have hd' : decide (k < n) = true := by simp; omega
      obtain ⟨a1, hA, _, h1⟩ := (HA.out.below HW.out).2 (by omega)
      obtain ⟨a2, hB, _, h2⟩ := (HB.out.below HW.out).2 (by omega)
      subst hA; subst hB
      have q1 := int_at h1 (show k < xs.length by rw [HN.out]; exact hlt)
      have q2 := int_at h2 (show k < xs.length by rw [HN.out]; exact hlt)
      clear h1 h2
      generalize xs[k]'(by rw [HN.out]; exact hlt) = x at *
      have e1 : (x != x) = false := by simp
      go_wp2_with fail
      go_quiet (fail)
      go_wp2_with fail
      go_roundw
      case rel => exact ⟨k + 1, by omega, by go_num, Lib.hid (below_dn HW.out _)⟩
      case measure => simp [intOf]; omega
    · have hd : decide ((k : Int) < (n : Int)) = false := by simp; omega
      have hd' : decide (k < n) = false := by simp; omega
      go_wp2_with fail
      go_ret
      exact ⟨rfl, HW.out⟩
set_option maxRecDepth 100000 in
set_option maxHeartbeats 4000000 in
theorem storyOrders_walk (w : World) (B : Option Addr) (d : Nat) (l : List VCall20) (hb : SlOk w 8 B d (l.flatMap VCall20.cells)) (hd : l.length ≤ d) (hm2 : d ≤ maxLen) (hx2 : ∀ u_ ∈ l, VCall20.ok w u_) :
    Calls Try.prog 3 #[.slice B l.length d] w fun e w' => e = .returned (.bool true) ∧ Below w.heap.size w w' := by
  have hr := hb.reads (n := l.length) (flatMap_len _ _ 8 (fun _ => rfl)) (by decide)
  have HR0 := Lib.hid hr
  clear hb hx2 hr
  by_cases hfew : l.length ≤ 100
  · have d1 : decide ((100 : Int) < (l.length : Int)) = false := by simp; omega
    obtain ⟨R, hR⟩ := ordL_exists l
    have HR := Lib.hid hR
    have hRl := hR.len
    obtain ⟨i0, hi0, hz0, hz1, hz2⟩ := info_parts info_cl
    clear hR hd hm2
    go_enter Try.func3, Try.ntmps3
    go_wp2_with (at_builtin
                 refine wpList_append_any _ rfl (.tmp 9) (.tmp 10) 22 rfl w.heap.size 31 i0 _ 8 64 Try.underlying22 hi0 hz0 hz1 hz2 rfl (by omega) (.slice (some ⟨w.heap.size, 0, none⟩) 0 0) 0 [] (by rfl) (own_empty8 (by rfl) (Nat.le_refl _)) _ B l.length d (l.flatMap VCall20.cells) (by rfl) (HR0.out.al _) (one_cl l) (by simp only [maxLen]; omega) (by omega) (by simp) ?_
                 intro v1 w2 hown hg1 hat1
                 simp only [Nat.zero_add, List.nil_append] at hown
                 obtain ⟨A1, c1, rfl, hr1, _⟩ := own_shape hown
                 have R2 := Lib.hid hr1
                 have W2 := Lib.hid ((below_alloc_ (Below.refl _ _) _).grown hg1 (by simp) (by simp [Value.ownBlock]))
                 clear hown hg1 hat1 hr1)
    refine (order_any A1 c1 l _ R2.out (by omega)).mono ?_
    rintro e w3 ⟨O, cap, R', rfl, hro, _, hrd, _, hw3⟩
    obtain rfl : R = R' := HR.out.unique hro
    have R3 := Lib.hid hrd
    have W3 := Lib.hid (below_then W2.out hw3)
    clear hro hrd hw3 hi0 hz0 hz1 hz2
    go_wp2_with fail
    refine (awake20_any _).mono ?_
    rintro e w4 ⟨rfl, hb4⟩
    have W4 := Lib.hid (below_then W3.out hb4)
    have R4 := Lib.hid (R3.out.pass hb4)
    clear hb4
    go_wp2_with fail
    refine (rorder_any B d l R _ ((HR0.out.below W4.out).more W4.out.size) (by omega) HR.out).mono ?_
    rintro e w5 ⟨O5, c5, rfl, hr5, hb5⟩
    have W5 := Lib.hid (below_then W4.out hb5)
    have R5 := Lib.hid (R4.out.pass hb5)
    have Q5 := Lib.hid hr5
    clear hr5 hb5
    go_wp2_with fail
    refine (ints_same O O5 cap c5 R R.length _ rfl R5.out Q5.out (by omega)).mono ?_
    rintro e w6 ⟨rfl, hb6⟩
    have W6 := Lib.hid (below_then W5.out hb6)
    have R6 := Lib.hid (R5.out.pass hb6)
    clear hb6 W2 W3 W4 W5 R2 R3 R4 R5 Q5
    go_wp2_with fail
    go_loopw [4] (fun s wr => ∃ k : Nat, 1 ≤ k ∧ s = .int .i64 k ∧ Hid (Below w6.heap.size w6 wr)) (fun s _ => R.length - (intOf s).toNat)
    case atStart => exact ⟨1, Nat.le_refl _, rfl, Lib.hid (Below.refl _ _)⟩
    case round =>
      obtain ⟨k, hk, rfl, HI⟩ := hrel
      have W := Lib.hid (below_then W6.out HI.out)
      by_cases hlt : k < R.length
      · have hd : decide ((k : Int) < (R.length : Int)) = true := by simp; omega
        have hd' : decide (k < R.length) = true := by simp; omega
        obtain ⟨ao, hO, _, hoc⟩ := (R6.out.below HI.out).2 (by omega)
        obtain ⟨p, hp, hp', hpl, _⟩ := HR.out.at hlt
        obtain ⟨q, hq, hq', hql, _⟩ := HR.out.at (show k - 1 < R.length by omega)
        obtain ⟨ad, hA, hadb, hcell⟩ := HR0.out.2 (by omega)
        subst hO; subst hA
        have o0 := ord_at hoc hlt hp
        have o1 := ord_at hoc (show k - 1 < R.length by omega) hq
        obtain ⟨x0, x1, x2, x3, x7⟩ := call_at W.out hadb hcell p hpl
        obtain ⟨y0, y1, y2, y3, y7⟩ := call_at W.out hadb hcell q hql
        have hlx := List.pairwise_iff_getElem.1 HR.out.pw (k - 1) k (by omega) hlt (by omega)
        rw [hp, hq] at hlx
        unfold lexT at hlx
        rw [tOf_at hpl, tOf_at hql] at hlx
        clear hcell hoc hp hp' hq hq' x0 x1 x2 x3 y0 y1 y2 y3
        generalize l[p].tt = a at *
        generalize l[q].tt = b at *
        have k1 : IntKind.i64.wrap ((k : Int) - 1) = (k : Int) - 1 := IntWalk.i64_in _ (by omega)
        have k2 : (0 : Int) ≤ (k : Int) - 1 := by omega
        have k3 : ((k : Int) - 1).toNat = k - 1 := by omega
        have k4 : (k : Int) - 1 < (R.length : Int) := by omega
        have p0 : (0 : Int) ≤ (p : Int) := by omega
        have p1 : (p : Int) < (l.length : Int) := by omega
        have q0 : (0 : Int) ≤ (q : Int) := by omega
        have q1 : (q : Int) < (l.length : Int) := by omega
        have g1 : decide (a < b) = false := by simp; omega
        rcases (show (b == a) = false ∨ ((b == a) = true ∧ q < p) by
          by_cases h : b = a
          · exact .inr ⟨by simpa using h, by omega⟩
          · exact .inl (by simpa using h)) with g2 | ⟨g2, g3⟩
        · clear hlx
          go_wp2_with fail
          go_quiet (fail)
          go_wp2_with fail
          go_roundw
          case rel => exact ⟨k + 1, by omega, by go_num, Lib.hid (below_dn HI.out _)⟩
          case measure => simp [intOf]; omega
        · have g4 : decide (p ≤ q) = false := by simp; omega
          have g5 : decide ((p : Int) ≤ (q : Int)) = false := by simp; omega
          have g6 : ¬ (p ≤ q) := by omega
          clear hlx
          go_wp2_with fail
          go_quiet (fail)
          go_wp2_with fail
          go_roundw
          case rel => exact ⟨k + 1, by omega, by go_num, Lib.hid (below_dn HI.out _)⟩
          case measure => simp [intOf]; omega
      · have hd : decide ((k : Int) < (R.length : Int)) = false := by simp; omega
        have hd' : decide (k < R.length) = false := by simp; omega
        go_wp2_with fail
        go_ret
        exact ⟨rfl, W.out⟩
  · have d1 : decide ((100 : Int) < (l.length : Int)) = true := by simp; omega
    go_enter Try.func3, Try.ntmps3
    go_wp2_with (go_at_call 7; (with_reducible refine (awake20_any _).mono ?_); rintro e w3 ⟨rfl, hb3⟩; have W3 := Lib.hid hb3; clear hb3)
    go_ret
    exact ⟨rfl, W3.out⟩
end Go.Proofs.Ytjhhpcjnhjbpdaa
