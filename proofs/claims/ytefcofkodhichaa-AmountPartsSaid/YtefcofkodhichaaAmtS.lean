/- Contracts of the amount package's functions: Split; and the document's. -/
import Derived.Test.YtefcofkodhichaaAmtA
set_option linter.unusedSimpArgs false
set_option linter.unusedVariables false
namespace Go.Proofs.Ytefcofkodhichaa
open Go.RowKit Mo
theorem info_i64 : (Try.prog.info? 2).map (fun i => (i.zero, i.size, i.bytes)) = some (some (.int .i64 0), 1, 8) := by kernel_rfl
theorem one_ints (xs : List Int) : ∀ u ∈ xs.map (Value.int .i64), u.oneCell' = true := by
  intro u hu
  obtain ⟨x, _, rfl⟩ := List.mem_map.1 hu
  rfl
/-- a slice of numbers -/
structure Li (w : World) (A : Option Addr) (c : Nat) (l : List Int) : Prop where
  rd : Reads w w.heap.size 1 A l.length (l.map (Value.int .i64))
  le : l.length ≤ c
  mx : c ≤ maxLen
theorem Li.pass {w w' : World} {A : Option Addr} {c : Nat} {l : List Int} (h : Li w A c l) (hb : Below w.heap.size w w') : Li w' A c l :=
  ⟨h.rd.kp (S := fun _ => False) (.of_below hb) (fun _ _ h => h), h.le, h.mx⟩
theorem own_li {w : World} {base : Nat} {e : TypeId} {n : Nat} {v : Value} {l : List Int} (h : w.ownsRow base e 1 v n (l.map (Value.int .i64))) (hn : n = l.length) : ∃ A c, v = .slice A l.length c ∧ Li w A c l := by
  subst hn
  have h' := h
  rcases h.2 with ⟨rfl, hl⟩ | ⟨g, cap, cur, rfl, hb, hh, h1, h2, _⟩
  · have hl0 : l = [] := by
      cases l with
      | nil => rfl
      | cons x l => simp at hl
    subst hl0
    exact ⟨none, 0, rfl, Reads.of_own h', Nat.le_refl _, by simp [maxLen]⟩
  · exact ⟨some ⟨g, 0, none⟩, cap, rfl, Reads.of_own h', h1, h2⟩
/-- part number i -/
def sp (n : Int) (p i : Nat) : Int := n / p + if (i : Int) < n % p then 1 else 0
def splitL (n : Int) (p : Nat) : List Int := (List.range p).map (sp n p)
theorem splitL_len (n : Int) (p : Nat) : (splitL n p).length = p := by simp [splitL]
theorem splitL_eq {n : Int} {p : Nat} {o : List Int} (hl : o.length = p) (h : ∀ j, j < p → o[j]? = some (sp n p j)) : o = splitL n p := by
  apply List.ext_getElem?
  intro j
  by_cases hj : j < p
  · rw [h j hj]; simp [splitL, hj]
  · rw [List.getElem?_eq_none (by omega), List.getElem?_eq_none (by rw [splitL_len]; omega)]
theorem set_step {n : Int} {q k : Nat} {o : List Int} {x : Int} (h : ∀ j, j < k → o[j]? = some (sp n q j)) (hk : k < o.length) (hx : sp n q k = x) : ∀ j, j < k + 1 → (o.set k x)[j]? = some (sp n q j) := by
  intro j hj
  rcases (show j < k ∨ j = k by omega) with g | rfl
  · rw [List.getElem?_set_ne (by omega)]; exact h j g
  · rw [List.getElem?_set_self hk, hx]
theorem app_step {n : Int} {q k : Nat} {o : List Int} {x : Int} (h : ∀ j, j < k → o[j]? = some (sp n q j)) (hk : o.length = k) (hx : sp n q k = x) : ∀ j, j < k + 1 → (o ++ [x])[j]? = some (sp n q j) := by
  intro j hj
  rcases (show j < k ∨ j = k by omega) with g | rfl
  · rw [List.getElem?_append_left (by omega)]; exact h j g
  · rw [List.getElem?_append_right (by omega), hx]; simp [hk]
def SplitRet (w : World) (n p : Int) (e : Ending) (w' : World) : Prop :=
  (isA n = false ∧ e = .returned (.tuple #[.slice none 0 0, .int .i64 40]) ∧ Below w.heap.size w w') ∨
  (isA n = true ∧ (p < 1 ∨ 1000 < p) ∧ e = .returned (.tuple #[.slice none 0 0, .int .i64 42]) ∧ Below w.heap.size w w') ∨
  (isA n = true ∧ 1 ≤ p ∧ p ≤ 1000 ∧ ∃ A c, e = .returned (.tuple #[.slice A (splitL n p.toNat).length c, .int .i64 0]) ∧ Li w' A c (splitL n p.toNat) ∧ Below w.heap.size w w')
set_option maxHeartbeats 2000000 in
theorem split_any (n p : Int) (w : World) (n1 : -9223372036854775808 ≤ n) (n2 : n ≤ 9223372036854775807) (p1 : -9223372036854775808 ≤ p) (p2 : p ≤ 9223372036854775807) :
    Calls Try.prog 20 #[.int .i64 n, .int .i64 p] w (SplitRet w n p) := by
  obtain ⟨g, hg⟩ : ∃ g, isA n = g := ⟨_, rfl⟩
  have HG := Lib.hid hg
  cases g
  · clear hg
    go_enter Try.func20, Try.ntmps20
    go_wp2_with (go_at_call 16; refine (acheck_any _ _).mono ?_; rintro e w1 ⟨rfl, rfl⟩; rw [HG.out, show errA false = 40 from rfl])
    go_ret2
    exact .inl ⟨HG.out, rfl, Below.refl _ _⟩
  obtain ⟨a1, a2⟩ := isA_iff.1 hg
  clear hg
  rcases (show p < 1 ∨ (1 ≤ p ∧ 1000 < p) ∨ (1 ≤ p ∧ p ≤ 1000) by omega) with h | ⟨h, h'⟩ | ⟨h, h'⟩
  · go_enter Try.func20, Try.ntmps20
    go_wp2_with (go_at_call 16; refine (acheck_any _ _).mono ?_; rintro e w1 ⟨rfl, rfl⟩; rw [HG.out, show errA true = 0 from rfl])
    go_ret2
    exact .inr (.inl ⟨HG.out, .inl h, rfl, Below.refl _ _⟩)
  · have d : decide (p < 1) = false := by simp; omega
    go_enter Try.func20, Try.ntmps20
    go_wp2_with (go_at_call 16; refine (acheck_any _ _).mono ?_; rintro e w1 ⟨rfl, rfl⟩; rw [HG.out, show errA true = 0 from rfl])
    go_ret2
    exact .inr (.inl ⟨HG.out, .inr h', rfl, Below.refl _ _⟩)
  · obtain ⟨q, rfl⟩ : ∃ q : Nat, p = q := ⟨p.toNat, by omega⟩
    have d : decide ((q : Int) < 1) = false := by simp; omega
    have d2 : decide ((1000 : Int) < q) = false := by simp; omega
    have d3 : ¬ ((q : Int) < 1) := by omega
    have d4 : ¬ ((1000 : Int) < q) := by omega
    have hq0 : (q : Int) ≠ 0 := by omega
    have hq1 : 1 ≤ q := by omega
    have hq2 : q ≤ 1000 := by omega
    obtain ⟨b, hb⟩ : ∃ b, n / (q : Int) = b := ⟨_, rfl⟩
    obtain ⟨r, hr⟩ : ∃ r, n % (q : Int) = r := ⟨_, rfl⟩
    have hb2 : n.tdiv q = b := by rw [Int.tdiv_eq_ediv_of_nonneg a1]; exact hb
    have hr2 : n.tmod q = r := by rw [Int.tmod_eq_emod_of_nonneg a1]; exact hr
    have hbb : 0 ≤ b ∧ b ≤ 1000000000000000 := by
      rw [← hb]
      exact ⟨Int.ediv_nonneg a1 (by omega), Int.le_trans (Int.ediv_le_self _ a1) a2⟩
    have hrr : 0 ≤ r ∧ r < q := by rw [← hr]; exact ⟨Int.emod_nonneg _ (by omega), Int.emod_lt_of_pos _ (by omega)⟩
    obtain ⟨hb3, hb4⟩ := hbb
    obtain ⟨hr3, hr4⟩ := hrr
    have HSP := Lib.hid (show ∀ i : Nat, sp n q i = b + if (i : Int) < r then 1 else 0 from fun i => by unfold sp; rw [hb, hr])
    obtain ⟨i0, hi, hz0, hz1, hz2⟩ := info_parts info_i64
    clear p1 p2 h h'
    go_enter Try.func20, Try.ntmps20
    go_wp2_with (first
      | (go_at_call 16; refine (acheck_any _ _).mono ?_; rintro e w1 ⟨rfl, rfl⟩; rw [HG.out, show errA true = 0 from rfl])
      | (at_make; refine wpList_make_full _ rfl (.tmp 22) (.tmp 22) 27 rfl w.heap.size 2 i0 (.int .i64 0) 1 Try.underlying27 hi hz0 hz1 _ _ _ _ q (by rfl) (by rfl) (by simp) (by simp) (by rw [hz2]; omega) (by unfold maxLen; omega) (Nat.le_refl _) ?_; intro w1 ho1 hg1; have HO1 := Lib.hid ho1; have HG1 := Lib.hid hg1; clear ho1 hg1))
    go_quiet (fail)
    go_wp2_with fail
    have hown : Hid (w1.ownsRow w.heap.size 2 1 (.slice (some ⟨w.heap.size, 0, none⟩) q q) q ((List.replicate q (0 : Int)).map (Value.int .i64))) := by
      have := HO1.out
      rw [Nat.mul_one, show (Value.int IntKind.i64 0).cells = #[Value.int IntKind.i64 0] from rfl, toList_madeCells_one] at this
      exact Lib.hid (by simpa using this)
    have HB1 : Hid (Below w.heap.size w w1) := Lib.hid ((Below.refl _ _).grown HG1.out (Nat.le_refl _) (by simp))
    clear HO1 HG1 hb hr hb2 hr2
    go_loopw [32] (fun ii wr => ∃ (k : Nat) (o : List Int), k ≤ q ∧ ii = .int .i64 k ∧ o.length = q ∧ Hid (wr.ownsRow w.heap.size 2 1 (.slice (some ⟨w.heap.size, 0, none⟩) q q) q (o.map (Value.int .i64))) ∧ Hid (∀ j, j < k → o[j]? = some (sp n q j)) ∧ Hid (Below w.heap.size w wr)) (fun ii _ => q - (intOf ii).toNat)
    case atStart => exact ⟨0, List.replicate q 0, Nat.zero_le _, rfl, by simp, hown, Lib.hid (fun j hj => by omega), Lib.hid (Keeps.below ((Keeps.of_below HB1.out).drewN _))⟩
    case round =>
      obtain ⟨k, o, hk, rfl, ho, HO, HJ, HW⟩ := hrel
      by_cases hlt : k < q
      · have hd : decide ((k : Int) < q) = true := by simp; omega
        have hf := HO.out.frozenAt k
        have hglt : w.heap.size < wr.heap.size := (HO.out.lt w.heap.size rfl).2
        have hcell : wr.cell? ⟨w.heap.size, k, none⟩ = some (.int .i64 o[k]) := by
          rw [HO.out.cellAt k (by omega)]; simp [show k < o.length by omega]
        generalize o[k] = y at hcell
        have hs := HSP.out k
        rcases (show (k : Int) < r ∨ r ≤ (k : Int) by omega) with h | h
        · rw [if_pos h] at hs
          have HS := Lib.hid hs
          clear hs
          go_wp2_with fail
          go_roundw
          case rel => exact ⟨k + 1, (o.set k b).set k (b + 1), by omega, by go_num, by simp [ho], Lib.hid (by rw [List.map_set, List.map_set]; exact (((HO.out.stored k (.int .i64 b)).1).stored k (.int .i64 (b + 1))).1), Lib.hid (by rw [List.set_set]; exact set_step HJ.out (by omega) HS.out), Lib.hid ((HW.out.setCell (Nat.le_refl _) _).setCell (Nat.le_refl _) _)⟩
          case measure => simp [intOf]; omega
        · rw [if_neg (by omega), Int.add_zero] at hs
          have HS := Lib.hid hs
          have d5 : decide ((k : Int) < r) = false := by simp; omega
          clear hs
          go_wp2_with fail
          go_roundw
          case rel => exact ⟨k + 1, o.set k b, by omega, by go_num, by simp [ho], Lib.hid (by rw [List.map_set]; exact (HO.out.stored k (.int .i64 b)).1), Lib.hid (set_step HJ.out (by omega) HS.out), Lib.hid (HW.out.setCell (Nat.le_refl _) _)⟩
          case measure => simp [intOf]; omega
      · have hd : decide ((k : Int) < q) = false := by simp; omega
        obtain rfl : k = q := by omega
        have hol := splitL_eq ho HJ.out
        have HOL := Lib.hid hol
        clear hol
        go_wp2
        go_ret2
        have hown2 := HO.out
        rw [HOL.out] at hown2
        obtain ⟨A', c', e, hli⟩ := own_li hown2 (by rw [splitL_len])
        refine .inr (.inr ⟨HG.out, by omega, by omega, A', c', ?_, hli, HW.out⟩)
        rw [show ((k : Int)).toNat = k from rfl, ← e]; rfl
/-- what is left, cut once more -/
theorem ceil_part (b r : Int) (p i : Nat) (hi : i < p) (hb : 0 ≤ b) (hr0 : 0 ≤ r) (hr : r < p) (left : Int) (hl : left = ((p : Int) - i) * b + (if (i : Int) < r then r - i else 0)) :
    (left + ((p : Int) - i) - 1) / ((p : Int) - i) = b + (if (i : Int) < r then 1 else 0) := by
  have hk : 0 < (p : Int) - i := by omega
  generalize hkk : (p : Int) - i = k at *
  rw [hl]
  by_cases h : (i : Int) < r
  · rw [if_pos h, if_pos h, show k * b + (r - i) + k - 1 = (r - i - 1) + k * (b + 1) by rw [Int.mul_add, Int.mul_one]; omega, Int.add_mul_ediv_left _ _ (by omega), Int.ediv_eq_zero_of_lt (by omega) (by omega)]
    omega
  · rw [if_neg h, if_neg h, show k * b + 0 + k - 1 = (k - 1) + k * b by omega, Int.add_mul_ediv_left _ _ (by omega), Int.ediv_eq_zero_of_lt (by omega) (by omega)]
    omega
theorem left_step (b r : Int) (p i : Nat) (left : Int) (hl : left = ((p : Int) - i) * b + (if (i : Int) < r then r - i else 0)) :
    left - (b + (if (i : Int) < r then 1 else 0)) = ((p : Int) - (i + 1 : Nat)) * b + (if ((i + 1 : Nat) : Int) < r then r - (i + 1 : Nat) else 0) := by
  have e : ((p : Int) - i) * b = ((p : Int) - (i + 1 : Nat)) * b + b := by
    rw [show (p : Int) - i = ((p : Int) - (i + 1 : Nat)) + 1 by omega, Int.add_mul, Int.one_mul]
  rw [hl, e]
  generalize ((p : Int) - (i + 1 : Nat)) * b = z
  split <;> split <;> omega
set_option maxHeartbeats 2000000 in
theorem rsplit_any (n p : Int) (w : World) (n1 : -9223372036854775808 ≤ n) (n2 : n ≤ 9223372036854775807) (p1 : -9223372036854775808 ≤ p) (p2 : p ≤ 9223372036854775807) :
    Calls Try.prog 21 #[.int .i64 n, .int .i64 p] w (SplitRet w n p) := by
  obtain ⟨g, hg⟩ : ∃ g, isA n = g := ⟨_, rfl⟩
  have HG := Lib.hid hg
  cases g
  · clear hg
    go_enter Try.func21, Try.ntmps21
    go_wp2_with (go_at_call 17; refine (ris_any _ _).mono ?_; rintro e w1 ⟨rfl, rfl⟩; rw [HG.out])
    go_ret2
    exact .inl ⟨HG.out, rfl, Below.refl _ _⟩
  obtain ⟨a1, a2⟩ := isA_iff.1 hg
  clear hg
  rcases (show p < 1 ∨ (1 ≤ p ∧ 1000 < p) ∨ (1 ≤ p ∧ p ≤ 1000) by omega) with h | ⟨h, h'⟩ | ⟨h, h'⟩
  · go_enter Try.func21, Try.ntmps21
    go_wp2_with (go_at_call 17; refine (ris_any _ _).mono ?_; rintro e w1 ⟨rfl, rfl⟩; rw [HG.out])
    go_ret2
    exact .inr (.inl ⟨HG.out, .inl h, rfl, Below.refl _ _⟩)
  · have d : decide (p < 1) = false := by simp; omega
    go_enter Try.func21, Try.ntmps21
    go_wp2_with (go_at_call 17; refine (ris_any _ _).mono ?_; rintro e w1 ⟨rfl, rfl⟩; rw [HG.out])
    go_ret2
    exact .inr (.inl ⟨HG.out, .inr h', rfl, Below.refl _ _⟩)
  · obtain ⟨q, rfl⟩ : ∃ q : Nat, p = q := ⟨p.toNat, by omega⟩
    have d : decide ((q : Int) < 1) = false := by simp; omega
    have d2 : decide ((1000 : Int) < q) = false := by simp; omega
    have d3 : ¬ ((q : Int) < 1) := by omega
    have d4 : ¬ ((1000 : Int) < q) := by omega
    have hq1 : 1 ≤ q := by omega
    have hq2 : q ≤ 1000 := by omega
    obtain ⟨b, hb⟩ : ∃ b, n / (q : Int) = b := ⟨_, rfl⟩
    obtain ⟨r, hr⟩ : ∃ r, n % (q : Int) = r := ⟨_, rfl⟩
    have hbb : 0 ≤ b := by rw [← hb]; exact Int.ediv_nonneg a1 (by omega)
    have hrr : 0 ≤ r ∧ r < q := by rw [← hr]; exact ⟨Int.emod_nonneg _ (by omega), Int.emod_lt_of_pos _ (by omega)⟩
    obtain ⟨hr3, hr4⟩ := hrr
    have hn : n = (q : Int) * b + r := by rw [← hb, ← hr]; exact (Int.mul_ediv_add_emod n q).symm
    have HSP := Lib.hid (show ∀ i : Nat, sp n q i = b + if (i : Int) < r then 1 else 0 from fun i => by unfold sp; rw [hb, hr])
    have HN := Lib.hid hn
    obtain ⟨i0, hi, hz0, hz1, hz2⟩ := info_parts info_i64
    clear p1 p2 h h' hb hr hn
    go_enter Try.func21, Try.ntmps21
    go_wp2_with (go_at_call 17; refine (ris_any _ _).mono ?_; rintro e w1 ⟨rfl, rfl⟩; rw [HG.out])
    go_loopw [6, 7, 8] (fun oo ll kk wr => ∃ (i : Nat) (l : List Int) (left k : Int), i ≤ q ∧ kk = .int .i64 k ∧ k = (q : Int) - i ∧ ll = .int .i64 left ∧ 0 ≤ left ∧ left ≤ 1000000000000000 ∧ Hid (left = ((q : Int) - i) * b + (if (i : Int) < r then r - i else 0)) ∧ l.length = i ∧ Hid (∀ j, j < i → l[j]? = some (sp n q j)) ∧ Hid (wr.ownsRow w.heap.size 2 1 oo l.length (l.map (Value.int .i64))) ∧ Hid (Below w.heap.size w wr)) (fun _ _ kk _ => (intOf kk).toNat)
    case atStart => exact ⟨0, [], n, q, Nat.zero_le _, rfl, by omega, rfl, a1, a2, Lib.hid (by rw [HN.out]; split <;> simp <;> omega), rfl, Lib.hid (fun j hj => by omega), Lib.hid (own_empty rfl (Nat.le_refl _)), Lib.hid (by repeat (first | exact Below.refl _ _ | refine below_alloc_ ?_ _ | refine Below.drew ?_))⟩
    case round =>
      obtain ⟨i, l, left, k, hi9, rfl, hk, rfl, hl1, hl2, HL, hll, HJ, HO, HW⟩ := hrel
      by_cases hlt : i < q
      · have hkp : 0 < k := by omega
        have hx := ceil_part b r q i hlt hbb hr3 hr4 left HL.out
        have hs := left_step b r q i left HL.out
        have hsp := HSP.out i
        rw [← hk] at hx
        rw [← hsp] at hx hs
        obtain ⟨x, hxx⟩ : ∃ x, sp n q i = x := ⟨_, rfl⟩
        rw [hxx] at hx hs hsp
        have HX := Lib.hid hxx
        have HK := Lib.hid hk
        have hk1 : k ≤ 1000 := by omega
        have hxb : 0 ≤ x := by rw [hsp]; split <;> omega
        have hxl : x ≤ left := by
          have hmb : 0 ≤ ((q : Int) - i - 1) * b := Int.mul_nonneg (by omega) hbb
          have he : ((q : Int) - i) * b = ((q : Int) - i - 1) * b + b := by rw [Int.sub_mul ((q : Int) - i) 1 b]; omega
          have := HL.out
          rw [he] at this
          generalize ((q : Int) - i - 1) * b = zz at *
          split at this <;> split at hsp <;> omega
        have hxt : (left + k - 1).tdiv k = x := by rw [Int.tdiv_eq_ediv_of_nonneg (by omega)]; exact hx
        have HS := Lib.hid hs
        have hk0 : k ≠ 0 := by omega
        clear hs hsp hxx hk
        go_wp2_with (at_builtin; refine wpList_append_any _ rfl (.tmp 32) (.tmp 34) 27 rfl w.heap.size 2 i0 (.int .i64 0) 1 8 Try.underlying27 hi hz0 hz1 hz2 rfl (by decide) _ l.length (l.map (Value.int .i64)) (by rfl) (own_al HO.out _) (wr.heap.size + 1) (some ⟨wr.heap.size, 0, none⟩) 1 1 [.int .i64 x] (by rfl) (reads_one rfl) (by simp [Value.oneCell']) (by unfold maxLen; omega) (by omega) (by have := HW.out.size; simp; omega) ?_; intro v1 w1 ho1 hg1 _; have HO1 := Lib.hid ho1; have HG1 := Lib.hid hg1; clear ho1 hg1)
        go_roundw
        case rel => exact ⟨i + 1, l ++ [x], left - x, k - 1, by omega, rfl, (by have := HK.out; omega), rfl, by omega, by omega, Lib.hid HS.out, by simp [hll], Lib.hid (app_step HJ.out hll HX.out), Lib.hid (by have := HO1.out; simpa using this), Lib.hid (Below.grown (HW.out.alloc HW.out.size _) HG1.out (by have := HW.out.size; simp; omega) (fun k e => (HO.out.lt k e).1))⟩
        case measure => simp [intOf]; omega
      · obtain rfl : i = q := by omega
        obtain rfl : k = 0 := by omega
        have hol := splitL_eq hll HJ.out
        have HOL := Lib.hid hol
        clear hol hk
        go_wp2
        go_ret2
        have hown2 := HO.out
        rw [HOL.out] at hown2
        obtain ⟨A', c', e, hli⟩ := own_li hown2 rfl
        subst e
        exact .inr (.inr ⟨HG.out, by omega, by omega, A', c', rfl, hli, HW.out⟩)
end Go.Proofs.Ytefcofkodhichaa
