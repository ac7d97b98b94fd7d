/- Joined: ProdA, ProdB, ProdC, ProdD, ProdE, ProdF, ProdG, ClsK. -/
import Derived.Test.YtjhhpcjnhjbpdaaGreatPN
import Derived.LoopTactic
/- Contracts of the document's product: digits. -/
set_option linter.unusedSimpArgs false
set_option linter.unusedVariables false
namespace Go.Proofs.YtjhhpcjnhjbpdaaGreat
open Go.RowKit Mo
def u8v (d : Nat) : Value := .int .u8 d
theorem info_u8 : (Tryz.prog.info? 5).map (fun i => (i.zero, i.size, i.bytes)) = some (some (.int .u8 0), 1, 1) := by kernel_rfl
theorem one_u8 (xs : List Nat) : ∀ u ∈ xs.map u8v, u.oneCell' = true := by
  intro u hu
  obtain ⟨x, _, rfl⟩ := List.mem_map.1 hu
  rfl
/-- a slice of digits -/
structure Dg (w : World) (A : Option Addr) (c : Nat) (l : List Nat) : Prop where
  rd : Reads w w.heap.size 1 A l.length (l.map u8v)
  le : l.length ≤ c
  mx : c ≤ maxLen
theorem Dg.pass {w w' : World} {A : Option Addr} {c : Nat} {l : List Nat} (h : Dg w A c l) (hb : Below w.heap.size w w') : Dg w' A c l :=
  ⟨h.rd.kp (S := fun _ => False) (.of_below hb) (fun _ _ h => h), h.le, h.mx⟩
theorem own_dg {w : World} {base : Nat} {e : TypeId} {n : Nat} {v : Value} {l : List Nat} (h : w.ownsRow base e 1 v n (l.map u8v)) (hn : n = l.length) : ∃ A c, v = .slice A l.length c ∧ Dg w A c l := by
  subst hn
  have h' := h
  rcases h.2 with ⟨rfl, hl⟩ | ⟨g, cap, cur, rfl, hb, hh, h1, h2, _⟩
  · have hl0 : l = [] := by
      cases l with
      | nil => rfl
      | cons x l => simp at hl
    subst hl0
    exact ⟨none, 0, rfl, Reads.of_own h', Nat.le_refl _, by simp [maxLen]⟩
  · exact ⟨some ⟨g, 0, none⟩, cap, rfl, Reads.of_own h', h1, h2⟩
def DigRet (w : World) (l : List Nat) (e : Ending) (w' : World) : Prop := ∃ A c, e = .returned (.slice A l.length c) ∧ Dg w' A c l ∧ Below w.heap.size w w'
theorem u8_dig (x : Int) (d : Nat) (h : x = d) (hd : d ≤ 1) : IntKind.u8.wrap x = d := by
  subst h; simp [IntKind.wrap, IntKind.signed, IntKind.bits]; omega
set_option maxHeartbeats 1000000 in
theorem digits_any (n : Nat) (w : World) (hn : n < 18446744073709551616) : Calls Tryz.prog 73 #[.int .u64 n] w (DigRet w (dig n)) := by
  obtain ⟨i0, hi, hz0, hz1, hz2⟩ := info_parts info_u8
  go_enter Tryz.func73, Tryz.ntmps73
  go_wp2_with fail
  go_loopw [0, 3] (fun x o wr => ∃ (m : Nat) (l : List Nat), m < 18446744073709551616 ∧ x = .int .u64 m ∧ Hid (wr.ownsRow w.heap.size 5 1 o l.length (l.map u8v)) ∧ Hid (l ++ dig m = dig n) ∧ Hid (Below w.heap.size w wr)) (fun x _ _ => (intOf x).toNat)
  case atStart => exact ⟨n, [], hn, rfl, Lib.hid (own_empty rfl (Nat.le_refl _)), Lib.hid rfl, Lib.hid (by repeat (first | exact Below.refl _ _ | refine below_alloc_ ?_ _ | refine Below.drew ?_))⟩
  case round =>
    obtain ⟨m, l, hm, rfl, HO, HD, HB⟩ := hrel
    by_cases h0 : 0 < m
    · have hd : decide (0 < m) = true := by simpa using h0
      have hd2 : decide ((0 : Int) < m) = true := by simpa using h0
      have hc : IntKind.u8.wrap ((m : Int) % 2) = ((m % 2 : Nat) : Int) := u8_dig _ _ (by omega) (by omega)
      have hlen : l.length ≤ 64 := by
        have h1 := length_dig n 64 (by omega)
        rw [← HD.out] at h1
        simp at h1; omega
      go_wp2_with (at_builtin; refine wpList_append_any _ rfl (.tmp 9) (.tmp 13) 118 rfl w.heap.size 5 i0 (.int .u8 0) 1 1 Tryz.underlying118 hi hz0 hz1 hz2 rfl (by decide) _ l.length (l.map u8v) (by rfl) (own_al HO.out _) (wr.heap.size + 1) (some ⟨wr.heap.size, 0, none⟩) 1 1 [.int .u8 ((m % 2 : Nat) : Int)] (by rfl) (reads_one rfl) (by simp [Value.oneCell']) (by unfold maxLen; omega) (by omega) (by have := HB.out.size; simp; omega) ?_; intro v1 w1 ho1 hg1 _; have HO1 := Lib.hid ho1; have HG1 := Lib.hid hg1; clear ho1 hg1)
      go_roundw
      case rel => exact ⟨m / 2, l ++ [m % 2], by omega, by first | rfl | go_num | simp, Lib.hid (by have := HO1.out; simpa [u8v] using this), Lib.hid (by rw [← HD.out, dig_pos h0, List.append_assoc]; rfl), Lib.hid (Below.grown (HB.out.alloc HB.out.size _) HG1.out (by have := HB.out.size; simp; omega) (fun k e => (HO.out.lt k e).1))⟩
      case measure => simp [intOf]; omega
    · obtain rfl : m = 0 := by omega
      go_wp2
      go_ret
      have hl : l = dig n := by rw [← HD.out, dig_zero, List.append_nil]
      obtain ⟨A, c, rfl, hdg⟩ := own_dg HO.out rfl
      rw [← hl]
      exact ⟨A, c, rfl, hdg, HB.out⟩
end Go.Proofs.YtjhhpcjnhjbpdaaGreat

/- Contracts of the document's product: product of digits. -/
set_option linter.unusedSimpArgs false
set_option linter.unusedVariables false
namespace Go.Proofs.YtjhhpcjnhjbpdaaGreat
open Go.RowKit Mo
def Row (w : World) (g : Nat) (l : List Nat) : Prop := Blk w g 5 (l.map u8v).toArray
theorem Row.cell {w : World} {g : Nat} {l : List Nat} (h : Row w g l) {j : Nat} (hj : j < l.length) : w.cell? ⟨g, j, none⟩ = some (.int .u8 (l[j] : Nat)) := by
  have := Blk.cell h j
  rw [this]; simp [hj, u8v]
theorem Row.set {w : World} {g : Nat} {l : List Nat} (h : Row w g l) (j v : Nat) : Row (w.setCell ⟨g, j, none⟩ (.int .u8 (v : Nat))) g (l.set j v) := by
  have := Blk.set_ h j (u8v v)
  unfold Row
  rw [List.map_set]
  simpa [u8v] using this
theorem Row.frozen {w : World} {g : Nat} {l : List Nat} (h : Row w g l) (j : Nat) : w.frozen? ⟨g, j, none⟩ = false := Blk.frozen h j
def ProdRet (w : World) (a b : List Nat) (e : Ending) (w' : World) : Prop := ∃ A c l, e = .returned (.slice A l.length c) ∧ Dg w' A c l ∧ Mo.bits l ∧ val l = val a * val b ∧ l.length = a.length + b.length + 1 ∧ Below w.heap.size w w'
theorem own_row {w : World} {base g n : Nat} {l : List Nat} (h : w.ownsRow base 5 1 (.slice (some ⟨g, 0, none⟩) n n) n (l.map u8v)) : Row w g l ∧ base ≤ g ∧ n = l.length := by
  have h1 := h.1
  rcases h.2 with ⟨e, _⟩ | ⟨g', cap, cur, e, hb, hh, _, _, hs, ht⟩
  · cases e
  · injection e with e1 e2 e3
    injection e1 with e1
    injection e1 with e1
    subst e1 e3
    refine ⟨?_, hb, by simpa using h1.symm⟩
    rw [← hs, ← Array.length_toList, List.take_length] at ht
    unfold Row Blk
    rw [hh, ← ht]
theorem row_dg {w : World} {g : Nat} {l : List Nat} (h : Row w g l) (hl : l.length ≤ 1000) : Dg w (some ⟨g, 0, none⟩) l.length l := by
  refine ⟨⟨by simp, fun _ => ⟨_, rfl, Blk.lt h, fun j u hu => ?_⟩⟩, Nat.le_refl _, by unfold maxLen; omega⟩
  rw [Addr.add_lit]
  have hj : j < l.length := by
    have := List.getElem?_eq_some_iff.1 hu
    obtain ⟨hj, _⟩ := this
    simpa using hj
  have := h.cell hj
  simp only [Nat.zero_add]
  rw [this, ← hu]; simp [hj, u8v]
theorem bits_take {l : List Nat} (h : Mo.bits l) (k : Nat) : Mo.bits (l.take k) := fun x hx => h x (List.mem_of_mem_take hx)
theorem val_take_lt {l : List Nat} (h : Mo.bits l) (k : Nat) : val (l.take k) < 2 ^ k := by
  have h1 := val_lt (bits_take h k)
  refine Nat.lt_of_lt_of_le h1 (Nat.pow_le_pow_right (by decide) ?_)
  rw [List.length_take]; omega
/-- one digit of the first number is laid in -/
theorem prod_round (a b o o2 : List Nat) (k cy : Nat) (hk : k < a.length) (ba : Mo.bits a) (bb : Mo.bits b) (h1 : a[k] = 1) (hv : val o = val (a.take k) * val b)
    (h : val o2 + cy * 2 ^ (k + (b.length + 1)) = val o + val (b.take (b.length + 1)) * 2 ^ k) : cy = 0 ∧ val o2 = val (a.take (k + 1)) * val b := by
  rw [List.take_of_length_le (by omega)] at h
  have e : val (a.take (k + 1)) = val (a.take k) + 2 ^ k := by rw [val_take_succ a k hk, h1, Nat.one_mul]
  have hT : val o + val b * 2 ^ k = val (a.take (k + 1)) * val b := by rw [hv, e, Nat.add_mul, Nat.mul_comm (val b)]
  have l1 := val_take_lt ba (k + 1)
  have l2 := val_lt bb
  have l3 : val (a.take (k + 1)) * val b < 2 ^ (k + (b.length + 1)) := by
    rw [show k + (b.length + 1) = (k + 1) + b.length by omega, Nat.pow_add]
    exact Nat.mul_lt_mul'' l1 l2
  rw [hT] at h
  rcases Nat.eq_zero_or_pos cy with h0 | h0
  · subst h0
    exact ⟨rfl, by omega⟩
  · exfalso
    have : 1 * 2 ^ (k + (b.length + 1)) ≤ cy * 2 ^ (k + (b.length + 1)) := Nat.mul_le_mul_right _ h0
    omega
theorem prod_skip (a b o : List Nat) (k : Nat) (hk : k < a.length) (h0 : a[k] = 0) (hv : val o = val (a.take k) * val b) : val o = val (a.take (k + 1)) * val b := by
  rw [val_take_succ a k hk, h0, Nat.zero_mul, Nat.add_zero]; exact hv
/-- one step of adding -/
theorem prod_step (b o o2 : List Nat) (k m cy x y s : Nat) (hj : k + m < o2.length) (hx : o2[k + m] = x) (hs : s = x + cy + y) (hy : val (b.take (m + 1)) = val (b.take m) + y * 2 ^ m)
    (h : val o2 + cy * 2 ^ (k + m) = val o + val (b.take m) * 2 ^ k) : val (o2.set (k + m) (s % 2)) + s / 2 * 2 ^ (k + (m + 1)) = val o + val (b.take (m + 1)) * 2 ^ k := by
  have h1 := add_step o2 (k + m) cy y hj
  rw [hx, ← hs] at h1
  rw [show k + (m + 1) = k + m + 1 by omega, h1, hy, Nat.add_mul, Nat.add_mul, Nat.mul_assoc y, ← Nat.pow_add, Nat.add_comm m k]
  omega
theorem u8_in (n : Nat) (h : n < 256) : IntKind.u8.wrap (n : Int) = n := by
  simp [IntKind.wrap, IntKind.signed, IntKind.bits]; omega
set_option maxRecDepth 100000 in
set_option maxHeartbeats 4000000 in
theorem product_any (w : World) (A : Option Addr) (c : Nat) (a : List Nat) (B : Option Addr) (d : Nat) (b : List Nat) (ha : Dg w A c a) (hb : Dg w B d b) (ba : Mo.bits a) (bb : Mo.bits b) (la : a.length ≤ 100) (lb : b.length ≤ 100) :
    Calls Tryz.prog 72 #[.slice A a.length c, .slice B b.length d] w (ProdRet w a b) := by
  have HA := Lib.hid ha; have HB := Lib.hid hb; have BA := Lib.hid ba; have BB := Lib.hid bb
  clear ha hb ba bb
  go_enter Tryz.func72, Tryz.ntmps72
  obtain ⟨i0, hi, hz0, hz1, hz2⟩ := info_parts info_u8
  go_wp2_with (at_make; refine wpList_make_full _ rfl (.tmp 15) (.tmp 15) 118 rfl w.heap.size 5 i0 (.int .u8 0) 1 Tryz.underlying118 hi hz0 hz1 _ _ _ _ (a.length + b.length + 1) (by rfl) (by rfl) (by simp) (by simp) (by rw [hz2]; omega) (by unfold maxLen; omega) (Nat.le_refl _) ?_; intro w1 ho1 hg1; have HO1 := Lib.hid ho1; have HG1 := Lib.hid hg1; clear ho1 hg1)
  have hrow : Row w1 w.heap.size (List.replicate (a.length + b.length + 1) 0) := by
    have := HO1.out
    rw [Nat.mul_one, show (Value.int IntKind.u8 0).cells = #[Value.int IntKind.u8 0] from rfl] at this
    rw [toList_madeCells_one] at this
    exact (own_row (l := List.replicate (a.length + b.length + 1) 0) (by simpa [u8v] using this)).1
  have HR0 := Lib.hid hrow
  have HB1 : Hid (Below w.heap.size w w1) := Lib.hid ((Below.refl _ _).grown HG1.out (Nat.le_refl _) (by simp))
  clear hrow HO1 HG1
  go_loopw [6] (fun i wr => ∃ (k : Nat) (o : List Nat), k ≤ a.length ∧ i = .int .i64 k ∧ o.length = a.length + b.length + 1 ∧ Hid (Row wr w.heap.size o) ∧ Hid (Mo.bits o ∧ val o = val (a.take k) * val b) ∧ Hid (Below w.heap.size w wr)) (fun i _ => a.length - (intOf i).toNat)
  case atStart => exact ⟨0, _, Nat.zero_le _, rfl, by simp, HR0, Lib.hid ⟨bits_replicate _, by simp [val_replicate, val]⟩, HB1⟩
  case round =>
    obtain ⟨k, o, hk, rfl, ho, HO, HV, HW⟩ := hrel
    rename World => wo
    by_cases hlt : k < a.length
    · have hd : decide ((k : Int) < a.length) = true := by simp; omega
      have hak := bits_get BA.out hlt
      obtain ⟨x0, hx0⟩ : ∃ x, a[k] = x := ⟨_, rfl⟩
      have HX0 := Lib.hid hx0
      rw [hx0] at hak
      clear hx0
      go_wp2_with fail
      rcases (show x0 = 0 ∨ x0 = 1 by omega) with rfl | rfl
      · go_loopw [7, 8] (fun c k2 wr => Hid (wr = wo) ∧ k2 = .int .i64 0 ∧ c = .int .u8 0) (fun _ _ _ => 0)
        case atStart => exact ⟨Lib.hid rfl, rfl, rfl⟩
        case round =>
          obtain ⟨HE, rfl, rfl⟩ := hrel
          have hE := HE.out
          subst hE
          obtain ⟨ad, u, rfl, hadb, hu, hcell⟩ := (HA.out.pass HW.out).rd.at_ hlt
          obtain rfl : u = .int .u8 0 := by
            have := HX0.out
            simp [hlt, u8v] at hu
            rw [← hu, this]; rfl
          clear hu
          have hd2 : decide ((0 : Int) ≤ b.length) = true := by simp
          go_wp2_with fail
          go_roundw
          case rel => exact ⟨k + 1, o, by omega, by go_num, ho, HO, Lib.hid ⟨HV.out.1, prod_skip a b o k hlt HX0.out HV.out.2⟩, HW⟩
          case measure => simp [intOf]; omega
      · go_loopw [7, 8] (fun c k2 wr => ∃ (m cy : Nat) (o2 : List Nat), m ≤ b.length + 1 ∧ k2 = .int .i64 m ∧ c = .int .u8 (cy : Nat) ∧ o2.length = a.length + b.length + 1 ∧ cy ≤ 1 ∧ Hid (Row wr w.heap.size o2) ∧ Hid (Mo.bits o2 ∧ val o2 + cy * 2 ^ (k + m) = val o + val (b.take m) * 2 ^ k) ∧ Hid (Below w.heap.size w wr)) (fun _ k2 _ => b.length + 1 - (intOf k2).toNat)
        case atStart => exact ⟨0, 0, o, Nat.zero_le _, rfl, rfl, ho, by omega, HO, Lib.hid ⟨HV.out.1, by simp [val]⟩, HW⟩
        case round =>
          obtain ⟨m, cy, o2, hm, rfl, rfl, ho2, hcy, HO2, HV2, HW2⟩ := hrel
          by_cases hm2 : m ≤ b.length
          · have hd2 : decide ((m : Int) ≤ b.length) = true := by simp; omega
            obtain ⟨ad, u, rfl, hadb, hu, hcell⟩ := (HA.out.pass HW2.out).rd.at_ hlt
            obtain rfl : u = .int .u8 1 := by
              have := HX0.out
              simp [hlt, u8v] at hu
              rw [← hu, this]; rfl
            clear hu
            have hj : k + m < o2.length := by omega
            have hq := HO2.out.cell hj
            have hfr := HO2.out.frozen (k + m)
            have hxb := bits_get HV2.out.1 hj
            obtain ⟨x, hx⟩ : ∃ x, o2[k + m] = x := ⟨_, rfl⟩
            have HX := Lib.hid hx
            rw [hx] at hq hxb
            have hglt : w.heap.size < wr.heap.size := Blk.lt HO2.out
            clear hx
            have hi1 : (k : Int) + m < a.length + b.length + 1 := by omega
            obtain ⟨s1, hs1⟩ : ∃ s, x + cy = s := ⟨_, rfl⟩
            have hw1 : IntKind.u8.wrap ((x : Int) + cy) = (s1 : Nat) := by rw [← hs1, ← u8_in _ (show x + cy < 256 by omega)]; simp
            rcases (show m < b.length ∨ m = b.length by omega) with hm3 | hm3
            · have hd3 : decide ((m : Int) < b.length) = true := by simp; omega
              obtain ⟨bd, u, rfl, hbdb, hu, hbcell⟩ := (HB.out.pass HW2.out).rd.at_ hm3
              have hyb := bits_get BB.out hm3
              obtain ⟨y, hy⟩ : ∃ y, b[m] = y := ⟨_, rfl⟩
              obtain rfl : u = .int .u8 (y : Nat) := by
                simp [hm3, u8v] at hu
                rw [← hu, hy]
              have HY := Lib.hid (show val (b.take (m + 1)) = val (b.take m) + y * 2 ^ m by rw [val_take_succ b m hm3, hy])
              rw [hy] at hyb
              clear hu hy
              obtain ⟨s, hs⟩ : ∃ s, s1 + y = s := ⟨_, rfl⟩
              have hw2 : IntKind.u8.wrap ((s1 : Int) + y) = (s : Nat) := by rw [← hs, ← u8_in _ (show s1 + y < 256 by omega)]; simp
              obtain ⟨r, hr⟩ : ∃ r, s % 2 = r := ⟨_, rfl⟩
              obtain ⟨q, hqq⟩ : ∃ q, s / 2 = q := ⟨_, rfl⟩
              have hr2 : (s : Int) % 2 = (r : Nat) := by omega
              have hq2 : (s : Int) / 2 = (q : Nat) := by omega
              have HS := Lib.hid (prod_step b o o2 k m cy x y s hj HX.out (by omega) HY.out HV2.out.2)
              rw [hr, hqq] at HS
              have hrb : r ≤ 1 := by omega
              have hqb : q ≤ 1 := by omega
              clear hr hqq hs hs1
              go_wp2_with fail
              go_roundw
              case rel => exact ⟨m + 1, q, o2.set (k + m) r, by omega, by go_num, rfl, by simp [ho2], hqb, Lib.hid (HO2.out.set (k + m) r), Lib.hid ⟨bits_set HV2.out.1 _ _ hrb, HS.out⟩, Lib.hid (HW2.out.setCell (Nat.le_refl _) _)⟩
              case measure => simp [intOf]; omega
            · have hd3 : decide ((m : Int) < b.length) = false := by simp; omega
              have hm4 : ¬ (m < b.length) := by omega
              have HY := Lib.hid (show val (b.take (m + 1)) = val (b.take m) + 0 * 2 ^ m by rw [List.take_of_length_le (by omega), List.take_of_length_le (by omega)]; omega)
              obtain ⟨r, hr⟩ : ∃ r, s1 % 2 = r := ⟨_, rfl⟩
              obtain ⟨q, hqq⟩ : ∃ q, s1 / 2 = q := ⟨_, rfl⟩
              have hr2 : (s1 : Int) % 2 = (r : Nat) := by omega
              have hq2 : (s1 : Int) / 2 = (q : Nat) := by omega
              have HS := Lib.hid (prod_step b o o2 k m cy x 0 s1 hj HX.out (by omega) HY.out HV2.out.2)
              rw [hr, hqq] at HS
              have hrb : r ≤ 1 := by omega
              have hqb : q ≤ 1 := by omega
              clear hr hqq hs1 hm3
              go_wp2_with fail
              go_roundw
              case rel => exact ⟨m + 1, q, o2.set (k + m) r, by omega, by go_num, rfl, by simp [ho2], hqb, Lib.hid (HO2.out.set (k + m) r), Lib.hid ⟨bits_set HV2.out.1 _ _ hrb, HS.out⟩, Lib.hid (HW2.out.setCell (Nat.le_refl _) _)⟩
              case measure => simp [intOf]; omega
          · have hd2 : decide ((m : Int) ≤ b.length) = false := by simp; omega
            obtain rfl : m = b.length + 1 := by omega
            obtain ⟨hc0, hv2⟩ := prod_round a b o o2 k cy hlt BA.out BB.out HX0.out HV.out.2 HV2.out.2
            subst hc0
            have HV3 := Lib.hid hv2
            clear hv2
            go_wp2_with fail
            go_roundw
            case rel => exact ⟨k + 1, o2, by omega, by go_num, ho2, HO2, Lib.hid ⟨HV2.out.1, HV3.out⟩, HW2⟩
            case measure => simp [intOf]; omega
    · have hd : decide ((k : Int) < a.length) = false := by simp; omega
      obtain rfl : k = a.length := by omega
      go_wp2
      go_ret
      have hv := HV.out.2
      rw [List.take_length] at hv
      have hdg := row_dg HO.out (by omega)
      rw [ho] at hdg
      refine ⟨some ⟨w.heap.size, 0, none⟩, a.length + b.length + 1, o, ?_, hdg, HV.out.1, hv, ho, HW.out⟩
      rw [ho]; rfl
end Go.Proofs.YtjhhpcjnhjbpdaaGreat

/- Contracts of the document's product: a number of digits. -/
set_option linter.unusedSimpArgs false
set_option linter.unusedVariables false
namespace Go.Proofs.YtjhhpcjnhjbpdaaGreat
open Go.RowKit Mo
theorem i64_in (q : Nat) (h : q < 9223372036854775808) : IntKind.i64.wrap (q : Int) = q := by
  simp only [IntKind.wrap, IntKind.signed, IntKind.bits]
  simp
  omega
theorem val_drop (l : List Nat) (k : Nat) (h : k < l.length) : val (l.drop k) = l[k] + 2 * val (l.drop (k + 1)) := by
  rw [List.drop_eq_getElem_cons h]; rfl
theorem val_split (l : List Nat) (k : Nat) (h : k ≤ l.length) : val l = val (l.take k) + 2 ^ k * val (l.drop k) := by
  have := val_append (l.take k) (l.drop k)
  rw [List.take_append_drop, List.length_take, Nat.min_eq_left h] at this
  exact this
theorem number_big (l : List Nat) (k : Nat) (h : k + 1 ≤ l.length) (hb : 9223372036854775808 ≤ val (l.drop (k + 1))) (neg : Bool) : pfit neg (val l) = false ∧ outV neg (val l) = 0 := by
  have h1 := val_split l (k + 1) h
  have h2 : 2 ≤ 2 ^ (k + 1) := by
    have : 2 ^ 1 ≤ 2 ^ (k + 1) := Nat.pow_le_pow_right (by decide) (by omega)
    simpa using this
  have h3 : 2 * 9223372036854775808 ≤ 2 ^ (k + 1) * val (l.drop (k + 1)) := Nat.mul_le_mul h2 hb
  have h4 : pfit neg (val l) = false := pfit_big (by omega)
  exact ⟨h4, by unfold outV; rw [h4]; rfl⟩
set_option maxRecDepth 100000 in
set_option maxHeartbeats 2000000 in
theorem number_any (w : World) (A : Option Addr) (c : Nat) (l : List Nat) (neg : Bool) (hl : Dg w A c l) (bl : Mo.bits l) (ln : l.length ≤ 5000) :
    Calls Tryz.prog 76 #[.slice A l.length c, .bool neg] w fun e w' => e = .returned (.tuple #[.int .i64 (outV neg (val l)), .bool (pfit neg (val l))]) ∧ w = w' := by
  have HL := Lib.hid hl; have BL := Lib.hid bl
  clear hl bl
  obtain ⟨n, hn⟩ : ∃ n, l.length = n := ⟨_, rfl⟩
  have HN := Lib.hid hn
  rw [hn] at ln ⊢
  clear hn
  go_enter Tryz.func76, Tryz.ntmps76
  go_wp2_with fail
  go_loop [6, 7] (fun o i => ∃ (k q : Nat) (z : Int), k ≤ n ∧ i = .int .i64 z ∧ z = (k : Int) - 1 ∧ o = .int .u64 (q : Nat) ∧ q < 18446744073709551616 ∧ Hid (val (l.drop k) = q)) (fun _ i => (intOf i + 1).toNat)
  case atStart => exact ⟨n, 0, (n : Int) - 1, Nat.le_refl _, rfl, rfl, rfl, by decide, Lib.hid (by rw [← HN.out, List.drop_length]; rfl)⟩
  case round =>
    obtain ⟨k, q, z, hk, rfl, hz, rfl, hq, HQ⟩ := hrel
    rcases (show k = 0 ∨ 0 < k by omega) with h0 | h0
    · obtain rfl : z = -1 := by omega
      subst h0
      have hv : val l = q := by have := HQ.out; simpa using this
      have HV := Lib.hid hv
      clear hv hz
      rcases (show q < 9223372036854775808 ∨ q = 9223372036854775808 ∨ 9223372036854775808 < q by omega) with h1 | h1 | h1
      · have p1 : pfit neg q = true := by unfold pfit; cases neg <;> simp <;> omega
        have p2 : outV neg q = if neg then -(q : Int) else q := by unfold outV; rw [p1, if_pos rfl]
        have P1 := Lib.hid p1; have P2 := Lib.hid p2
        have d1 : ((q : Int) == 9223372036854775808) = false := beq_eq_false_iff_ne.2 (by omega)
        have d2 : (q == 9223372036854775808) = false := beq_eq_false_iff_ne.2 (by omega)
        have d3 : decide ((9223372036854775808 : Int) ≤ q) = false := by simp; omega
        have d4 : ¬ ((9223372036854775808 : Int) ≤ q) := by omega
        have w1 : IntKind.i64.wrap (q : Int) = q := i64_in q h1
        clear p1 p2
        cases neg
        all_goals
          go_wp2
          go_ret2
          rw [HV.out, P1.out, P2.out]
          exact ⟨rfl, rfl⟩
      · subst h1
        clear hq
        cases neg
        · have p1 : pfit false 9223372036854775808 = false := by decide
          have p2 : outV false 9223372036854775808 = 0 := by decide
          go_wp2
          go_ret2
          rw [HV.out, p1, p2]
          exact ⟨rfl, rfl⟩
        · have p1 : pfit true 9223372036854775808 = true := by decide
          have p2 : outV true 9223372036854775808 = -9223372036854775808 := by decide
          go_wp2
          go_ret2
          rw [HV.out, p1, p2]
          exact ⟨rfl, rfl⟩
      · have p1 : pfit neg q = false := pfit_big h1
        have p2 : outV neg q = 0 := by unfold outV; rw [p1]; rfl
        have P1 := Lib.hid p1; have P2 := Lib.hid p2
        have d1 : ((q : Int) == 9223372036854775808) = false := beq_eq_false_iff_ne.2 (by omega)
        have d2 : (q == 9223372036854775808) = false := beq_eq_false_iff_ne.2 (by omega)
        have d3 : decide ((9223372036854775808 : Int) ≤ q) = true := by simp; omega
        have d4 : (9223372036854775808 : Int) ≤ q := by omega
        clear p1 p2
        cases neg
        all_goals
          go_wp2
          go_ret2
          rw [HV.out, P1.out, P2.out]
          exact ⟨rfl, rfl⟩
    · obtain ⟨j, rfl⟩ : ∃ j, k = j + 1 := ⟨k - 1, by omega⟩
      obtain rfl : z = (j : Int) := by omega
      clear hz h0
      have hj : j < l.length := by have := HN.out; omega
      have hjn : (j : Int) < n := by omega
      rcases (show 9223372036854775808 ≤ q ∨ q < 9223372036854775808 by omega) with h1 | h1
      · have hbig := number_big l j (by omega) (by rw [HQ.out]; exact h1) neg
        have HBG := Lib.hid hbig
        have d3 : decide ((9223372036854775808 : Int) ≤ q) = true := by simp; omega
        clear hbig
        go_wp2
        go_ret2
        rw [HBG.out.1, HBG.out.2]
        exact ⟨rfl, rfl⟩
      · have d3 : decide ((9223372036854775808 : Int) ≤ q) = false := by simp; omega
        have d4 : ¬ ((9223372036854775808 : Int) ≤ q) := by omega
        obtain ⟨ad, u, rfl, hadb, hu, hcell⟩ := HL.out.rd.at_ hj
        have hxb := bits_get BL.out hj
        obtain ⟨x, hx⟩ : ∃ x, l[j] = x := ⟨_, rfl⟩
        obtain rfl : u = .int .u8 (x : Nat) := by
          simp [hj, u8v] at hu
          rw [← hu, hx]
        have HX := Lib.hid (show val (l.drop j) = x + 2 * q by rw [val_drop l j hj, hx, HQ.out])
        rw [hx] at hxb
        clear hx hu
        have w1 : IntKind.u64.wrap (2 * (q : Int)) = 2 * (q : Int) := by rw [wrap_u64]; omega
        have w2 : IntKind.u64.wrap (2 * (q : Int) + x) = ((x + 2 * q : Nat) : Int) := by rw [wrap_u64]; omega
        clear h1
        go_wp2
        go_round
        case rel => exact ⟨j, x + 2 * q, (j : Int) - 1, by omega, rfl, rfl, congrArg (Value.int .u64) (by omega), by omega, HX⟩
        case measure => simp [intOf]
end Go.Proofs.YtjhhpcjnhjbpdaaGreat

/- Contracts of the document's product: digits, and one. -/
set_option linter.unusedSimpArgs false
set_option linter.unusedVariables false
namespace Go.Proofs.YtjhhpcjnhjbpdaaGreat
open Go.RowKit Mo
def MoreRet (w : World) (l : List Nat) (e : Ending) (w' : World) : Prop := ∃ A c o, e = .returned (.slice A o.length c) ∧ Dg w' A c o ∧ Mo.bits o ∧ val o = val l + 1 ∧ o.length = l.length + 1 ∧ Below w.heap.size w w'
theorem val_snoc0 (l : List Nat) : val (l ++ [0]) = val l := by rw [val_append]; simp [val]
theorem bits_snoc0 {l : List Nat} (h : Mo.bits l) : Mo.bits (l ++ [0]) := by
  intro x hx
  rcases List.mem_append.1 hx with h1 | h1
  · exact h x h1
  · simp at h1; omega
set_option maxRecDepth 100000 in
set_option maxHeartbeats 2000000 in
theorem more_any (w : World) (A : Option Addr) (c : Nat) (l : List Nat) (hl : Dg w A c l) (bl : Mo.bits l) (ln : l.length ≤ 5000) :
    Calls Tryz.prog 75 #[.slice A l.length c] w (MoreRet w l) := by
  have HL := Lib.hid hl; have BL := Lib.hid bl
  clear hl bl
  obtain ⟨i0, hi, hz0, hz1, hz2⟩ := info_parts info_u8
  go_enter Tryz.func75, Tryz.ntmps75
  go_wp2_with (first
    | (at_builtin; refine wpList_append_any _ rfl (.tmp 5) (.tmp 6) 118 rfl w.heap.size 5 i0 (.int .u8 0) 1 1 Tryz.underlying118 hi hz0 hz1 hz2 rfl (by decide) (.slice (some ⟨w.heap.size, 0, none⟩) 0 0) 0 [] rfl (own_new #[] 0 rfl (by simp [maxLen]) rfl) w.heap.size A l.length c (l.map u8v) rfl (HL.out.rd.alloc (Nat.le_refl _) _) (one_u8 _) (by unfold maxLen; omega) (by omega) (by simp) ?_; intro v1 w1 ho1 hg1 _; have HO := Lib.hid ho1; have HG := Lib.hid hg1; clear ho1 hg1)
    | (at_builtin; refine wpList_append_any _ rfl (.tmp 7) (.tmp 8) 118 rfl w.heap.size 5 i0 (.int .u8 0) 1 1 Tryz.underlying118 hi hz0 hz1 hz2 rfl (by decide) v1 (0 + l.length) _ rfl (HO.out.alloc _) (w1.heap.size + 1) (some ⟨w1.heap.size, 0, none⟩) 1 1 [.int .u8 0] rfl (reads_one rfl) (by simp [Value.oneCell']) (by unfold maxLen; omega) (by omega) (by have := HG.out.size; simp at this ⊢; omega) ?_; intro v2 w2 ho2 hg2 _; have HO2 := Lib.hid ho2; have HG2 := Lib.hid hg2; clear ho2 hg2))
  have HB : Hid (Below w.heap.size w w2) := Lib.hid (by
    have k1 := Below.grown ((Below.refl w.heap.size w).alloc (Nat.le_refl _) _) HG.out (by simp) (fun k e => by simp [Value.ownBlock] at e <;> omega)
    exact Below.grown (k1.alloc k1.size _) HG2.out (by have := k1.size; simp; omega) (fun k e => (HO.out.lt k e).1))
  obtain ⟨g, cp, rfl, hgb, hcp, hcm, HO3⟩ : ∃ g cp, v2 = .slice (some ⟨g, 0, none⟩) (l.length + 1) cp ∧ w.heap.size ≤ g ∧ l.length + 1 ≤ cp ∧ cp ≤ maxLen ∧ Hid (w2.ownsRow w.heap.size 5 1 (.slice (some ⟨g, 0, none⟩) (l.length + 1) cp) (l.length + 1) ((l ++ [0]).map u8v)) := by
    have h := HO2.out
    have h' := h
    rcases h.2 with ⟨_, hl⟩ | ⟨g, cap, cur, rfl, hb, hh, h1, h2, _⟩
    · omega
    · exact ⟨g, cap, by rw [Nat.zero_add], hb, by omega, h2, Lib.hid (by simpa [u8v] using h')⟩
  clear HO HG HO2 HG2
  go_loopw [4] (fun i wr => ∃ (k : Nat) (o : List Nat), k ≤ l.length ∧ i = .int .i64 k ∧ o.length = l.length + 1 ∧ Hid (wr.ownsRow w.heap.size 5 1 (.slice (some ⟨g, 0, none⟩) (l.length + 1) cp) (l.length + 1) (o.map u8v)) ∧ Hid (Mo.bits o ∧ val o + 2 ^ k = val l + 1 ∧ o[l.length]? = some 0) ∧ Hid (Below w.heap.size w wr)) (fun i _ => l.length - (intOf i).toNat)
  case atStart => exact ⟨0, l ++ [0], Nat.zero_le _, rfl, by simp, HO3, Lib.hid ⟨bits_snoc0 BL.out, by rw [val_snoc0], by simp⟩, HB⟩
  case round =>
    obtain ⟨k, o, hk, rfl, ho, HO, HV, HW⟩ := hrel
    have hko : k < o.length := by omega
    have hq : wr.cell? ⟨g, k, none⟩ = some (.int .u8 (o[k] : Nat)) := by
      rw [HO.out.cellAt k (by omega)]; simp [hko, u8v]
    have hf := HO.out.frozenAt k
    have hglt : g < wr.heap.size := (HO.out.lt g rfl).2
    have hxb := bits_get HV.out.1 hko
    obtain ⟨x, hx⟩ : ∃ x, o[k] = x := ⟨_, rfl⟩
    have HX := Lib.hid hx
    rw [hx] at hq hxb
    clear hx
    have hkn : (k : Int) < l.length + 1 := by omega
    rcases (show x = 0 ∨ x = 1 by omega) with rfl | rfl
    · have hv : val (o.set k 1) = val l + 1 := by
        have h1 := val_set o k 1 hko
        rw [HX.out] at h1
        have h2 := HV.out.2.1
        omega
      have HV2 := Lib.hid hv
      clear hv
      go_wp2
      go_ret
      have hst := (HO.out.stored k (.int .u8 1)).1
      obtain ⟨A', c', e, hdg⟩ := own_dg (l := o.set k 1) (n := l.length + 1) (by rw [List.map_set]; exact hst) (by simp [ho])
      refine ⟨A', c', o.set k 1, ?_, hdg, bits_set HV.out.1 _ _ (by omega), HV2.out, by simp [ho], HW.out.setCell hgb _⟩
      rw [← e]; rfl
    · have hkl : k < l.length := by
        rcases (show k = l.length ∨ k < l.length by omega) with rfl | h
        · have h1 := HV.out.2.2
          rw [List.getElem?_eq_getElem hko, HX.out] at h1
          simp at h1
        · exact h
      have hv : val (o.set k 0) + 2 ^ (k + 1) = val l + 1 := by
        have h1 := val_set o k 0 hko
        rw [HX.out] at h1
        have h2 := HV.out.2.1
        rw [Nat.pow_succ]
        omega
      have HV2 := Lib.hid hv
      clear hv
      go_wp2_with fail
      go_roundw
      case rel => exact ⟨k + 1, o.set k 0, by omega, by go_num, by simp [ho], Lib.hid (by rw [List.map_set]; exact (HO.out.stored k (.int .u8 0)).1), Lib.hid ⟨bits_set HV.out.1 _ _ (by omega), HV2.out, by rw [List.getElem?_set_ne (by omega)]; exact HV.out.2.2⟩, Lib.hid (HW.out.setCell hgb _)⟩
      case measure => simp [intOf]; omega
end Go.Proofs.YtjhhpcjnhjbpdaaGreat

/- Contracts of the document's product: of a number and a float. -/
set_option linter.unusedSimpArgs false
set_option linter.unusedVariables false
namespace Go.Proofs.YtjhhpcjnhjbpdaaGreat
open Go.RowKit Mo
theorem rsize_any (n : Int) (w : World) (n1 : -9223372036854775808 ≤ n) (n2 : n ≤ 9223372036854775807) :
    Calls Tryz.prog 74 #[.int .i64 n] w fun e w' => e = .returned (.int .u64 (n.natAbs : Nat)) ∧ w = w' := by
  rcases (show n < 0 ∨ 0 ≤ n by omega) with h | h
  · have e1 : (IntKind.u64.wrap (IntKind.u64.wrap (-(n + 1)) + 1)) = (n.natAbs : Nat) := by rw [wrap_u64, wrap_u64]; omega
    have e2 : IntKind.u64.wrap (-(n + 1) + 1) = (n.natAbs : Nat) := by rw [wrap_u64]; omega
    go_enter Tryz.func74, Tryz.ntmps74
    go_wp2
    go_ret
    exact ⟨ret_u64 (by omega), rfl⟩
  · go_enter Tryz.func74, Tryz.ntmps74
    go_wp2
    go_ret
    exact ⟨ret_u64 (by omega), rfl⟩
theorem frac_and (b : Nat) (hb : b < 18446744073709551616) : bits .and .u64 (b : Int) 4503599627370495 = (rung b % 4503599627370496 : Nat) := by
  rw [show (4503599627370495 : Int) = ((4503599627370495 : Nat) : Int) from rfl, u64_and_nat _ _ hb (by decide)]
  refine congrArg Int.ofNat ?_
  rw [show b &&& 4503599627370495 = b % 2 ^ 52 from Nat.and_two_pow_sub_one_eq_mod b 52]
  unfold rung; omega
theorem field_and (b : Nat) (hb : b < 18446744073709551616) : bits .and .u64 ((b : Int) / 4503599627370496) 2047 = (rung b / 4503599627370496 : Nat) := by
  have := field_of b hb
  simpa using this
theorem top_bit_e (b : Nat) (hb : b < 18446744073709551616) : ((b : Int) / 9223372036854775808 == 1) = isNeg b := by
  unfold isNeg
  rw [Bool.eq_iff_iff, beq_iff_eq, decide_eq_true_iff]
  omega
theorem prodE_nan (n : Int) (b : Nat) (up : Bool) (h : 9218868437227405312 < rung b ∨ (rung b = 9218868437227405312 ∧ n = 0)) : prodE n b up = 10 ∧ prodV n b up = 0 := by
  have e : prodE n b up = 10 := by
    unfold prodE
    rcases h with h | ⟨h, rfl⟩
    · rw [if_pos h]
    · rw [if_neg (by omega), if_pos h, if_pos rfl]
  exact ⟨e, by unfold prodV; rw [e]; rfl⟩
theorem prodE_inf (n : Int) (b : Nat) (up : Bool) (h : rung b = 9218868437227405312) (hn : n ≠ 0) : prodE n b up = 11 ∧ prodV n b up = 0 := by
  have e : prodE n b up = 11 := by
    unfold prodE
    rw [if_neg (by omega), if_pos h, if_neg hn]
  exact ⟨e, by unfold prodV; rw [e]; rfl⟩
theorem prod_fin (n : Int) (b : Nat) (up : Bool) (h : rung b < 9218868437227405312) : prodE n b up = outE (pneg n b) (pabs n b up) ∧ prodV n b up = outV (pneg n b) (pabs n b up) := by
  have e : prodE n b up = outE (pneg n b) (pabs n b up) := by unfold prodE outE; rw [if_neg (by omega), if_neg (by omega)]
  refine ⟨e, ?_⟩
  unfold prodV
  rw [e]
  unfold outV outE
  cases pfit (pneg n b) (pabs n b up) <;> simp
set_option maxRecDepth 100000 in
set_option maxHeartbeats 2000000 in
theorem rproduct_none (n : Int) (b : Nat) (up : Bool) (w : World) (hb : b < 18446744073709551616) (h : 9218868437227405312 ≤ rung b) :
    Calls Tryz.prog 57 #[.int .i64 n, .float .f64 b, .bool up] w fun e w' => e = .returned (.tuple #[.int .i64 (prodV n b up), .int .i64 (prodE n b up)]) ∧ Below w.heap.size w w' := by
  have hr := run_bits
  have e1 := frac_and b hb
  have e2 := field_and b hb
  obtain ⟨g, e3⟩ : ∃ g, ((b : Int) / 9223372036854775808 == 1) = g := ⟨_, rfl⟩
  have hx : rung b / 4503599627370496 = 2047 := by have := rung_lt b; omega
  rw [hx] at e2
  obtain ⟨t, ht⟩ : ∃ t, decide (n < 0) = t := ⟨_, rfl⟩
  rcases (show rung b % 4503599627370496 ≠ 0 ∨ (rung b % 4503599627370496 = 0 ∧ n = 0) ∨ (rung b % 4503599627370496 = 0 ∧ n ≠ 0) by omega) with k | ⟨k, rfl⟩ | ⟨k, kn⟩
  · obtain ⟨f1, f2⟩ := prodE_nan n b up (by omega)
    rw [f1, f2]
    obtain ⟨r, hrr⟩ : ∃ r, rung b % 4503599627370496 = r := ⟨_, rfl⟩
    rw [hrr] at e1 k
    have k2 : ((r : Int) == 0) = false := beq_eq_false_iff_ne.2 (by omega)
    have k3 : (r == 0) = false := beq_eq_false_iff_ne.2 k
    clear f1 f2 hx h hrr
    go_enter Tryz.func57, Tryz.ntmps57
    go_wp2_with fail
    go_ret2
    exact ⟨rfl, Below.refl _ _⟩
  · obtain ⟨f1, f2⟩ := prodE_nan 0 b up (by omega)
    rw [f1, f2]
    rw [k] at e1
    clear f1 f2 hx h k
    go_enter Tryz.func57, Tryz.ntmps57
    go_wp2_with fail
    go_ret2
    exact ⟨rfl, Below.refl _ _⟩
  · obtain ⟨f1, f2⟩ := prodE_inf n b up (by omega) kn
    rw [f1, f2]
    rw [k] at e1
    have k2 : (n == 0) = false := beq_eq_false_iff_ne.2 kn
    clear f1 f2 hx h k
    go_enter Tryz.func57, Tryz.ntmps57
    go_wp2_with fail
    go_ret2
    exact ⟨rfl, Below.refl _ _⟩
end Go.Proofs.YtjhhpcjnhjbpdaaGreat

/- Contracts of the document's product: of a number and a finite float. -/
set_option linter.unusedSimpArgs false
set_option linter.unusedVariables false
namespace Go.Proofs.YtjhhpcjnhjbpdaaGreat
open Go.RowKit Mo
theorem drop_digit (V k x : Nat) (l' : List Nat) (hx : x ≤ 1) (h : x + 2 * val l' = V / 2 ^ k) : val l' = V / 2 ^ (k + 1) ∧ (decide (V % 2 ^ (k + 1) ≠ 0) = (decide (V % 2 ^ k ≠ 0) || decide (x = 1))) := by
  have e : V / 2 ^ (k + 1) = V / 2 ^ k / 2 := by rw [Nat.pow_succ, Nat.div_div_eq_div_mul]
  have hp : 0 < 2 ^ k := Nat.two_pow_pos _
  have hb : V % 2 ^ (k + 1) = V % 2 ^ k + V / 2 ^ k % 2 * 2 ^ k := by rw [Nat.pow_succ, Nat.mod_mul, Nat.mul_comm (2 ^ k)]
  refine ⟨by rw [e, ← h]; omega, ?_⟩
  have hm : V / 2 ^ k % 2 = x := by rw [← h]; omega
  rw [hb, hm]
  rcases (show x = 0 ∨ x = 1 by omega) with rfl | rfl
  · simp
  · rw [Nat.one_mul, decide_eq_true (show V % 2 ^ k + 2 ^ k ≠ 0 by omega)]; simp
theorem drop_none (V k : Nat) (h : 0 = V / 2 ^ k) : 0 = V / 2 ^ (k + 1) ∧ decide (V % 2 ^ (k + 1) ≠ 0) = decide (V % 2 ^ k ≠ 0) := by
  have hp : 0 < 2 ^ k := Nat.two_pow_pos _
  have h1 : V < 2 ^ k := (Nat.div_eq_zero_iff_lt hp).1 h.symm
  have h2 : V < 2 ^ (k + 1) := by rw [Nat.pow_succ]; omega
  exact ⟨(Nat.div_eq_of_lt h2).symm, by rw [Nat.mod_eq_of_lt h1, Nat.mod_eq_of_lt h2]⟩
theorem sq_parts (P x : Nat) : sq P x = P * 2 ^ (x - 1075) / 2 ^ (1075 - x) ∧ sl P x = decide (P * 2 ^ (x - 1075) % 2 ^ (1075 - x) ≠ 0) := by
  unfold sq sl
  generalize 1075 = K
  by_cases h : K ≤ x
  · have h1 : K - x = 0 := by omega
    have h2 : decide (x < K) = false := decide_eq_false (by omega)
    rw [if_pos h, h1, h2, Nat.pow_zero, Nat.div_one, Nat.mod_one, Nat.mod_one]
    exact ⟨rfl, rfl⟩
  · have h1 : x - K = 0 := by omega
    have h2 : decide (x < K) = true := decide_eq_true (by omega)
    rw [if_neg h, h1, h2, Nat.pow_zero, Nat.mul_one, Bool.true_and]
    exact ⟨rfl, rfl⟩
theorem dg_tail {w : World} {ad : Addr} {c y : Nat} {l : List Nat} (h : Dg w (some ad) c (y :: l)) (hc : 1 < c) : Dg w (some ⟨ad.block, ad.off + 1, none⟩) (c - 1) l := by
  refine ⟨⟨by simp, fun hn => ?_⟩, by have := h.le; simp at this; omega, by have := h.mx; omega⟩
  obtain ⟨ad', e, hb, hcell⟩ := h.rd.2 (by simp)
  obtain rfl : ad = ad' := by injection e
  refine ⟨_, rfl, hb, fun j u hu => ?_⟩
  have h1 := hcell (j + 1) u (by simpa using hu)
  unfold Addr.add at h1
  rw [if_neg (by omega)] at h1
  rw [Addr.add_lit]
  show w.cell? ⟨ad.block, ad.off + 1 + j, none⟩ = some u
  rw [Nat.add_assoc, Nat.add_comm 1 j]; exact h1
theorem dg_end {w : World} {A : Option Addr} : Dg w A 0 [] := ⟨⟨rfl, fun h => absurd h (by simp)⟩, Nat.le_refl _, by simp [maxLen]⟩
theorem bits_cons0 {l : List Nat} (h : Mo.bits l) : Mo.bits (0 :: l) := by
  intro y hy
  rcases List.mem_cons.1 hy with rfl | hy
  · omega
  · exact h y hy
theorem val_cons0 {l : List Nat} {P k : Nat} (h : val l = P * 2 ^ k) : val (0 :: l) = P * 2 ^ (k + 1) := by
  show 0 + 2 * val l = _
  rw [Nat.pow_succ, ← Nat.mul_assoc, ← h]; omega
theorem out_ok {s : Bool} {Q : Nat} (h : pfit s Q = true) : outE s Q = 0 := by unfold outE; rw [h]; rfl
theorem out_no {s : Bool} {Q : Nat} (h : pfit s Q = false) : outE s Q = 11 ∧ outV s Q = 0 := by unfold outE outV; rw [h]; exact ⟨rfl, rfl⟩
set_option maxRecDepth 100000 in
set_option maxHeartbeats 8000000 in
theorem rproduct_fin (n : Int) (b : Nat) (up : Bool) (w : World) (n1 : -9223372036854775808 ≤ n) (n2 : n ≤ 9223372036854775807) (hb : b < 18446744073709551616) (h : rung b < 9218868437227405312) :
    Calls Tryz.prog 57 #[.int .i64 n, .float .f64 b, .bool up] w fun e w' => e = .returned (.tuple #[.int .i64 (prodV n b up), .int .i64 (prodE n b up)]) ∧ Below w.heap.size w w' := by
  have hr := run_bits
  have e1 := frac_and b hb
  have e2 := field_and b hb
  have e3 := top_bit_e b hb
  obtain ⟨f1, f2⟩ := prod_fin n b up h
  obtain ⟨q1, q2⟩ := sq_parts (n.natAbs * Mo.part b) (expf b)
  have hp : pabs n b up = n.natAbs * Mo.part b * 2 ^ (expf b - 1075) / 2 ^ (1075 - expf b) + if (decide (n.natAbs * Mo.part b * 2 ^ (expf b - 1075) % 2 ^ (1075 - expf b) ≠ 0) && (pneg n b != up)) = true then 1 else 0 := by
    unfold pabs; rw [q1, q2]
  rw [f1, f2, hp]
  have hx2 : rung b / 4503599627370496 ≤ 2046 := by omega
  have hE : expf b ≤ 2046 ∧ 1 ≤ expf b := by unfold expf; split <;> omega
  have hP : Mo.part b < 9007199254740992 := by unfold Mo.part; split <;> omega
  have hXE : (rung b / 4503599627370496 = 0 ∧ expf b = 1 ∧ Mo.part b = rung b % 4503599627370496) ∨ (0 < rung b / 4503599627370496 ∧ expf b = rung b / 4503599627370496 ∧ Mo.part b = rung b % 4503599627370496 + 4503599627370496) := by
    unfold expf Mo.part
    by_cases h0 : rung b < 4503599627370496
    · left; rw [if_pos h0, if_pos h0]; omega
    · right; rw [if_neg h0, if_neg h0]; omega
  have hr53 : rung b % 4503599627370496 < 4503599627370496 := Nat.mod_lt _ (by decide)
  have hng : pneg n b = (decide (n < 0) != isNeg b) := rfl
  generalize pneg n b = s at *
  generalize isNeg b = g at *
  obtain ⟨t, ht⟩ : ∃ t, decide (n < 0) = t := ⟨_, rfl⟩
  rw [ht] at hng
  have hs2 : (!(t == g)) = s := by rw [hng]; cases t <;> cases g <;> rfl
  have hA : n.natAbs < 18446744073709551616 := by omega
  generalize Mo.part b = p at *
  generalize expf b = x at *
  generalize rung b / 4503599627370496 = X at *
  generalize rung b % 4503599627370496 = r at *
  clear f1 f2 q1 q2 hp h hng
  have HA1 := Lib.hid (length_dig n.natAbs 64 (by omega))
  have HA2 := Lib.hid (length_dig p 64 (by omega))
  have HV := Lib.hid (show val (dig n.natAbs) * val (dig p) = n.natAbs * p by rw [val_dig, val_dig])
  obtain ⟨P, hPP⟩ : ∃ P, n.natAbs * p = P := ⟨_, rfl⟩
  rw [hPP] at HV ⊢
  clear hPP
  obtain ⟨RV, hRV⟩ : ∃ R, outV s (P * 2 ^ (x - 1075) / 2 ^ (1075 - x) + if (decide (P * 2 ^ (x - 1075) % 2 ^ (1075 - x) ≠ 0) && (s != up)) = true then 1 else 0) = R := ⟨_, rfl⟩
  obtain ⟨RE, hRE⟩ : ∃ R, outE s (P * 2 ^ (x - 1075) / 2 ^ (1075 - x) + if (decide (P * 2 ^ (x - 1075) % 2 ^ (1075 - x) ≠ 0) && (s != up)) = true then 1 else 0) = R := ⟨_, rfl⟩
  rw [hRV, hRE]
  have HRV := Lib.hid hRV
  have HRE := Lib.hid hRE
  clear hRV hRE
  have hX1 : ((X : Int) == 2047) = false := beq_eq_false_iff_ne.2 (by omega)
  have hX2 : (X == 2047) = false := beq_eq_false_iff_ne.2 (by omega)
  have hp2 : (p : Nat) < 18446744073709551616 := by omega
  have wp : 0 < X → IntKind.u64.wrap ((r : Int) + 4503599627370496) = (p : Nat) := by intro h0; rw [wrap_u64]; omega
  have HXE := Lib.hid hXE
  clear hXE
  obtain ⟨i0, hi, hz0, hz1, hz2⟩ := info_parts info_u8
  rcases (show X = 0 ∨ 0 < X by omega) with h0 | h0
  · have hxx : x = 1 := by rcases HXE.out with ⟨_, h, _⟩ | ⟨h, _⟩ <;> omega
    have hpr : p = r := by rcases HXE.out with ⟨_, _, h⟩ | ⟨h, _⟩ <;> omega
    have HXX := Lib.hid hxx
    subst h0 hpr
    clear wp hX1 hX2 hxx hE HXE
    go_enter Tryz.func57, Tryz.ntmps57
    go_wp2_with (first
      | (go_at_call 74; refine (rsize_any n _ n1 n2).mono ?_; rintro e w1 ⟨rfl, rfl⟩)
      | (go_at_call 73; (have := HD1; clear this); refine (digits_any p _ hp2).mono ?_; rintro e w3 ⟨A2, c2, rfl, hd2, hb2⟩; have HD2 := Lib.hid hd2; (have HD3 := Lib.hid (HD1.out.pass hb2)); (have HB2 := Lib.hid (below_then HB1.out hb2)); clear hd2 hb2)
      | (go_at_call 73; refine (digits_any n.natAbs _ hA).mono ?_; rintro e w2 ⟨A1, c1, rfl, hd1, hb1⟩; have HD1 := Lib.hid hd1; have HB1 := Lib.hid hb1; clear hd1 hb1)
      | (go_at_call 72; refine (product_any _ A1 c1 (dig n.natAbs) A2 c2 (dig p) HD3.out HD2.out (bits_dig _) (bits_dig _) (Nat.le_trans HA1.out (by decide)) (Nat.le_trans HA2.out (by decide))).mono ?_; rintro e w4 ⟨A3, c3, l3, rfl, hd4, bl4, hv4, hl4, hb4⟩; have HD4 := Lib.hid hd4; have BL4 := Lib.hid bl4; have HV4 := Lib.hid (hv4.trans HV.out); (have HL4 := Lib.hid (show l3.length ≤ 200 by have := HA1.out; have := HA2.out; omega)); (have HB4 := Lib.hid (below_then HB2.out hb4)); clear hd4 bl4 hv4 hl4 hb4))
    go_loopw [12, 13] (fun dd ii wr => ∃ (k : Nat) (A : Option Addr) (c : Nat) (l : List Nat), (k = 0 ∨ 1075 + k ≤ x) ∧ ii = .int .i64 ((1075 + k : Nat) : Int) ∧ dd = .slice A l.length c ∧ l.length ≤ 200 + k ∧ Hid (Dg wr A c l) ∧ Hid (Mo.bits l ∧ val l = P * 2 ^ k) ∧ Hid (Below w.heap.size w wr)) (fun _ ii _ => x - (intOf ii).toNat)
    case atStart => exact ⟨0, A3, c3, l3, .inl rfl, rfl, rfl, HL4.out, HD4, Lib.hid ⟨BL4.out, by rw [HV4.out]; simp⟩, HB4⟩
    case round =>
      obtain ⟨k, A, c, l, hk, rfl, rfl, hl, HD, HV, HW⟩ := hrel
      rename World => wo
      obtain rfl : k = 0 := by have := HXX.out; omega
      · have hxl := HXX.out
        have hV0 := HV.out.2
        rw [show (0 : Nat) = x - 1075 by omega] at hV0
        obtain ⟨V0, hV1⟩ : ∃ V, P * 2 ^ (x - 1075) = V := ⟨_, rfl⟩
        rw [hV1] at hV0
        have HV1 := Lib.hid hV1
        have HV0 := Lib.hid hV0
        have hl3 : l.length ≤ 3000 := by omega
        clear hV1 hV0 hxl
        go_wp2_with fail
        go_loopw [12, 14, 15] (fun dd lo ii wr => ∃ (j : Nat) (A : Option Addr) (c : Nat) (l : List Nat) (q : Bool), (j = 0 ∨ x + j ≤ 1075) ∧ ii = .int .i64 ((x + j : Nat) : Int) ∧ dd = .slice A l.length c ∧ lo = .bool q ∧ l.length ≤ 3000 ∧ Hid (Dg wr A c l) ∧ Hid (Mo.bits l ∧ val l = V0 / 2 ^ j ∧ decide (V0 % 2 ^ j ≠ 0) = q) ∧ Hid (Below w.heap.size w wr)) (fun _ _ ii _ => 1075 - (intOf ii).toNat)
        case atStart => exact ⟨0, A, c, l, false, .inl rfl, congrArg (Value.int .i64) (by have := HXX.out; omega), rfl, rfl, hl3, HD, Lib.hid ⟨HV.out.1, by rw [HV0.out, Nat.pow_zero, Nat.div_one], by rw [Nat.pow_zero, Nat.mod_one]; rfl⟩, HW⟩
        case round =>
          clear HV HD HW hl hl3 hk
          obtain ⟨j, A, c, l, q, hj, rfl, rfl, rfl, hl, HD, HV, HW⟩ := hrel
          by_cases hlt : x + j < 1075
          · have hd : decide ((x : Int) + j < 1075) = true := by simp; omega
            cases l with
            | nil =>
              have hdn := drop_none V0 j (by have := HV.out.2.1; simpa [val] using this)
              have HDN := Lib.hid hdn
              clear hdn
              go_wp2_with fail
              go_roundw
              case rel => exact ⟨j + 1, A, c, [], q, .inr (by omega), congrArg (Value.int .i64) (by omega), rfl, rfl, by simp, HD, Lib.hid ⟨HV.out.1, HDN.out.1, by rw [HDN.out.2]; exact HV.out.2.2⟩, HW⟩
              case measure => simp [intOf]; omega
            | cons y l' =>
              have hyb : y ≤ 1 := HV.out.1 y List.mem_cons_self
              have hdd := drop_digit V0 j y l' hyb (by have := HV.out.2.1; simpa [val] using this)
              rw [HV.out.2.2] at hdd
              have HDD := Lib.hid hdd
              clear hdd
              obtain ⟨ad, u, rfl, hadb, hu, hcell⟩ := HD.out.rd.at_ (k := 0) (by simp)
              obtain rfl : u = .int .u8 (y : Nat) := by simp [u8v] at hu; rw [← hu]
              have ead : ad.add 0 = ad := by cases ad; simp [Addr.add]
              rw [ead] at hcell
              have hle := HD.out.le
              simp only [List.length_cons] at hl hle
              have hlp : (0 : Int) < (l'.length : Int) + 1 := by omega
              have hlc : (l'.length : Int) + 1 ≤ c := by omega
              clear hu ead
              rcases (show (c = 1 ∧ l'.length = 0) ∨ 1 < c by omega) with ⟨rfl, hz⟩ | hc1
              · obtain rfl : l' = [] := List.eq_nil_of_length_eq_zero hz
                rcases (show y = 0 ∨ y = 1 by omega) with rfl | rfl <;> cases q
                all_goals
                  go_wp2_with fail
                  go_roundw
                  case rel => exact ⟨j + 1, _, 0, [], _, .inr (by omega), congrArg (Value.int .i64) (by omega), rfl, rfl, by simp, Lib.hid dg_end, Lib.hid ⟨(by intro z hz; cases hz), HDD.out.1, by rw [HDD.out.2]; rfl⟩, HW⟩
                  case measure => simp [intOf]; omega
              · have HT := Lib.hid (dg_tail HD.out hc1)
                rcases (show y = 0 ∨ y = 1 by omega) with rfl | rfl <;> cases q
                all_goals
                  go_wp2_with fail
                  go_roundw
                  case rel => exact ⟨j + 1, _, c - 1, l', _, .inr (by omega), congrArg (Value.int .i64) (by omega), rfl, rfl, by omega, HT, Lib.hid ⟨fun z hz => HV.out.1 z (List.mem_cons_of_mem _ hz), HDD.out.1, by rw [HDD.out.2]; rfl⟩, HW⟩
                  case measure => simp [intOf]; omega
          · have hd : decide ((x : Int) + j < 1075) = false := by simp; omega
            have hd4 : ¬ ((x : Int) + j < 1075) := by omega
            have hjx : j = 1075 - x := by omega
            have hv := HV.out.2.1
            have hq := HV.out.2.2
            rw [hjx] at hv hq
            have hrv := HRV.out
            have hre := HRE.out
            rw [HV1.out, ← hv, hq] at hrv hre
            have BL := Lib.hid HV.out.1
            have hl5 : l.length ≤ 5000 := by omega
            clear hv hq hjx HV HV0 HV1 hd hj hlt HRV HRE
            cases q
            · simp only [Bool.false_and, Bool.false_eq_true, if_false, Nat.add_zero] at hrv hre
              have HRV := Lib.hid hrv; have HRE := Lib.hid hre; clear hrv hre
              obtain ⟨z, hz⟩ : ∃ z, pfit s (val l) = z := ⟨_, rfl⟩
              have HZ := Lib.hid hz; clear hz
              cases z
              all_goals
                go_wp2_with (go_at_call 76; refine (number_any _ A c l s HD.out BL.out hl5).mono ?_; rintro e w6 ⟨rfl, rfl⟩; rw [HZ.out])
                go_ret2
                refine ⟨ret_two ?_ ?_, HW.out⟩
                · first | exact HRV.out | exact (out_no HZ.out).2.symm.trans HRV.out
                · first | exact (out_ok HZ.out).symm.trans HRE.out | exact (out_no HZ.out).1.symm.trans HRE.out
            · simp only [Bool.true_and] at hrv hre
              obtain ⟨d, hd⟩ : ∃ d, (s != up) = d := ⟨_, rfl⟩
              rw [hd] at hrv hre
              have hd' : (!(s == up)) = d := hd
              clear hd
              cases d
              · simp only [Bool.false_eq_true, if_false, Nat.add_zero] at hrv hre
                have HRV := Lib.hid hrv; have HRE := Lib.hid hre; clear hrv hre
                obtain ⟨z, hz⟩ : ∃ z, pfit s (val l) = z := ⟨_, rfl⟩
                have HZ := Lib.hid hz; clear hz
                cases z
                all_goals
                  go_wp2_with (go_at_call 76; refine (number_any _ A c l s HD.out BL.out hl5).mono ?_; rintro e w6 ⟨rfl, rfl⟩; rw [HZ.out])
                  go_ret2
                  refine ⟨ret_two ?_ ?_, HW.out⟩
                  · first | exact HRV.out | exact (out_no HZ.out).2.symm.trans HRV.out
                  · first | exact (out_ok HZ.out).symm.trans HRE.out | exact (out_no HZ.out).1.symm.trans HRE.out
              · simp only [if_true] at hrv hre
                have HRV := Lib.hid hrv; have HRE := Lib.hid hre; clear hrv hre
                obtain ⟨z, hz⟩ : ∃ z, pfit s (val l + 1) = z := ⟨_, rfl⟩
                have HZ := Lib.hid hz; clear hz
                cases z
                all_goals
                  go_wp2_with (first
                    | (go_at_call 75; refine (more_any _ A c l HD.out BL.out hl5).mono ?_; rintro e w7 ⟨A7, c7, l7, rfl, hd7, bl7, hv7, hl7, hb7⟩; have HD7 := Lib.hid hd7; have BL7 := Lib.hid bl7; have HV7 := Lib.hid hv7; (have HL7 := Lib.hid (show l7.length ≤ 5000 by omega)); (have HW7 := Lib.hid (below_then HW.out hb7)); clear hd7 bl7 hv7 hl7 hb7)
                    | (go_at_call 76; refine (number_any _ A7 c7 l7 s HD7.out BL7.out HL7.out).mono ?_; rintro e w6 ⟨rfl, rfl⟩; rw [HV7.out, HZ.out]))
                  go_ret2
                  refine ⟨ret_two ?_ ?_, HW7.out⟩
                  · first | exact HRV.out | exact (out_no HZ.out).2.symm.trans HRV.out
                  · first | exact (out_ok HZ.out).symm.trans HRE.out | exact (out_no HZ.out).1.symm.trans HRE.out
  · have hxx : x = X := by rcases HXE.out with ⟨h, _, _⟩ | ⟨_, h, _⟩ <;> omega
    subst hxx
    have hwp := wp h0
    have hX0 : ((x : Int) == 0) = false := beq_eq_false_iff_ne.2 (by omega)
    have hX3 : (x == 0) = false := beq_eq_false_iff_ne.2 (by omega)
    clear wp HXE
    go_enter Tryz.func57, Tryz.ntmps57
    go_wp2_with (first
      | (go_at_call 74; refine (rsize_any n _ n1 n2).mono ?_; rintro e w1 ⟨rfl, rfl⟩)
      | (go_at_call 73; (have := HD1; clear this); refine (digits_any p _ hp2).mono ?_; rintro e w3 ⟨A2, c2, rfl, hd2, hb2⟩; have HD2 := Lib.hid hd2; (have HD3 := Lib.hid (HD1.out.pass hb2)); (have HB2 := Lib.hid (below_then HB1.out hb2)); clear hd2 hb2)
      | (go_at_call 73; refine (digits_any n.natAbs _ hA).mono ?_; rintro e w2 ⟨A1, c1, rfl, hd1, hb1⟩; have HD1 := Lib.hid hd1; have HB1 := Lib.hid hb1; clear hd1 hb1)
      | (go_at_call 72; refine (product_any _ A1 c1 (dig n.natAbs) A2 c2 (dig p) HD3.out HD2.out (bits_dig _) (bits_dig _) (Nat.le_trans HA1.out (by decide)) (Nat.le_trans HA2.out (by decide))).mono ?_; rintro e w4 ⟨A3, c3, l3, rfl, hd4, bl4, hv4, hl4, hb4⟩; have HD4 := Lib.hid hd4; have BL4 := Lib.hid bl4; have HV4 := Lib.hid (hv4.trans HV.out); (have HL4 := Lib.hid (show l3.length ≤ 200 by have := HA1.out; have := HA2.out; omega)); (have HB4 := Lib.hid (below_then HB2.out hb4)); clear hd4 bl4 hv4 hl4 hb4))
    go_loopw [12, 13] (fun dd ii wr => ∃ (k : Nat) (A : Option Addr) (c : Nat) (l : List Nat), (k = 0 ∨ 1075 + k ≤ x) ∧ ii = .int .i64 ((1075 + k : Nat) : Int) ∧ dd = .slice A l.length c ∧ l.length ≤ 200 + k ∧ Hid (Dg wr A c l) ∧ Hid (Mo.bits l ∧ val l = P * 2 ^ k) ∧ Hid (Below w.heap.size w wr)) (fun _ ii _ => x - (intOf ii).toNat)
    case atStart => exact ⟨0, A3, c3, l3, .inl rfl, rfl, rfl, HL4.out, HD4, Lib.hid ⟨BL4.out, by rw [HV4.out]; simp⟩, HB4⟩
    case round =>
      obtain ⟨k, A, c, l, hk, rfl, rfl, hl, HD, HV, HW⟩ := hrel
      rename World => wo
      by_cases hlt : 1075 + k < x
      · have hd : decide ((1075 : Int) + k < x) = true := by simp; omega
        have hwo := HW.out.size
        go_wp2_with (at_builtin; refine wpList_append_any _ rfl (.tmp 66) (.tmp 67) 118 rfl wo.heap.size 5 i0 (.int .u8 0) 1 1 Tryz.underlying118 hi hz0 hz1 hz2 rfl (by decide) (.slice (some ⟨wo.heap.size, 0, none⟩) 1 1) 1 [.int .u8 0] rfl (own_new #[.int .u8 0] 1 rfl (by simp [maxLen]) rfl) _ A l.length c (l.map u8v) rfl (HD.out.rd.al _) (one_u8 _) (by unfold maxLen; omega) (by omega) (by simp) ?_; intro v1 w5 ho1 hg1 _; (have HO := Lib.hid (own_dg (l := 0 :: l) (n := 1 + l.length) (by simpa [u8v] using ho1) (by simp; omega))); (have HB5 : Hid (Below w.heap.size w w5) := Lib.hid (Below.grown (HW.out.alloc HW.out.size _) hg1 (by simp; omega) (fun k e => by simp [Value.ownBlock] at e; omega))); clear ho1 hg1)
        obtain ⟨A', c', rfl, hdg⟩ := HO.out
        go_roundw
        case rel => exact ⟨k + 1, A', c', 0 :: l, .inr (by omega), congrArg (Value.int .i64) (by omega), rfl, by simp; omega, Lib.hid hdg, Lib.hid ⟨bits_cons0 HV.out.1, val_cons0 HV.out.2⟩, HB5⟩
        case measure => simp [intOf]; omega
      · have hd : decide ((1075 : Int) + k < x) = false := by simp; omega
        have hd4 : ¬ ((1075 : Int) + k < x) := by omega
        have hkx : k = x - 1075 := by omega
        have hV0 := HV.out.2
        rw [hkx] at hV0
        obtain ⟨V0, hV1⟩ : ∃ V, P * 2 ^ (x - 1075) = V := ⟨_, rfl⟩
        rw [hV1] at hV0
        have HV1 := Lib.hid hV1
        have HV0 := Lib.hid hV0
        have hl3 : l.length ≤ 3000 := by omega
        clear hV1 hV0 hkx hd
        go_wp2_with fail
        go_loopw [12, 14, 15] (fun dd lo ii wr => ∃ (j : Nat) (A : Option Addr) (c : Nat) (l : List Nat) (q : Bool), (j = 0 ∨ x + j ≤ 1075) ∧ ii = .int .i64 ((x + j : Nat) : Int) ∧ dd = .slice A l.length c ∧ lo = .bool q ∧ l.length ≤ 3000 ∧ Hid (Dg wr A c l) ∧ Hid (Mo.bits l ∧ val l = V0 / 2 ^ j ∧ decide (V0 % 2 ^ j ≠ 0) = q) ∧ Hid (Below w.heap.size w wr)) (fun _ _ ii _ => 1075 - (intOf ii).toNat)
        case atStart => exact ⟨0, A, c, l, false, .inl rfl, congrArg (Value.int .i64) (by omega), rfl, rfl, hl3, HD, Lib.hid ⟨HV.out.1, by rw [HV0.out, Nat.pow_zero, Nat.div_one], by rw [Nat.pow_zero, Nat.mod_one]; rfl⟩, HW⟩
        case round =>
          clear HV HD HW hl hl3 hlt hd4 hk
          obtain ⟨j, A, c, l, q, hj, rfl, rfl, rfl, hl, HD, HV, HW⟩ := hrel
          by_cases hlt : x + j < 1075
          · have hd : decide ((x : Int) + j < 1075) = true := by simp; omega
            cases l with
            | nil =>
              have hdn := drop_none V0 j (by have := HV.out.2.1; simpa [val] using this)
              have HDN := Lib.hid hdn
              clear hdn
              go_wp2_with fail
              go_roundw
              case rel => exact ⟨j + 1, A, c, [], q, .inr (by omega), congrArg (Value.int .i64) (by omega), rfl, rfl, by simp, HD, Lib.hid ⟨HV.out.1, HDN.out.1, by rw [HDN.out.2]; exact HV.out.2.2⟩, HW⟩
              case measure => simp [intOf]; omega
            | cons y l' =>
              have hyb : y ≤ 1 := HV.out.1 y List.mem_cons_self
              have hdd := drop_digit V0 j y l' hyb (by have := HV.out.2.1; simpa [val] using this)
              rw [HV.out.2.2] at hdd
              have HDD := Lib.hid hdd
              clear hdd
              obtain ⟨ad, u, rfl, hadb, hu, hcell⟩ := HD.out.rd.at_ (k := 0) (by simp)
              obtain rfl : u = .int .u8 (y : Nat) := by simp [u8v] at hu; rw [← hu]
              have ead : ad.add 0 = ad := by cases ad; simp [Addr.add]
              rw [ead] at hcell
              have hle := HD.out.le
              simp only [List.length_cons] at hl hle
              have hlp : (0 : Int) < (l'.length : Int) + 1 := by omega
              have hlc : (l'.length : Int) + 1 ≤ c := by omega
              clear hu ead
              rcases (show (c = 1 ∧ l'.length = 0) ∨ 1 < c by omega) with ⟨rfl, hz⟩ | hc1
              · obtain rfl : l' = [] := List.eq_nil_of_length_eq_zero hz
                rcases (show y = 0 ∨ y = 1 by omega) with rfl | rfl <;> cases q
                all_goals
                  go_wp2_with fail
                  go_roundw
                  case rel => exact ⟨j + 1, _, 0, [], _, .inr (by omega), congrArg (Value.int .i64) (by omega), rfl, rfl, by simp, Lib.hid dg_end, Lib.hid ⟨(by intro z hz; cases hz), HDD.out.1, by rw [HDD.out.2]; rfl⟩, HW⟩
                  case measure => simp [intOf]; omega
              · have HT := Lib.hid (dg_tail HD.out hc1)
                rcases (show y = 0 ∨ y = 1 by omega) with rfl | rfl <;> cases q
                all_goals
                  go_wp2_with fail
                  go_roundw
                  case rel => exact ⟨j + 1, _, c - 1, l', _, .inr (by omega), congrArg (Value.int .i64) (by omega), rfl, rfl, by omega, HT, Lib.hid ⟨fun z hz => HV.out.1 z (List.mem_cons_of_mem _ hz), HDD.out.1, by rw [HDD.out.2]; rfl⟩, HW⟩
                  case measure => simp [intOf]; omega
          · have hd : decide ((x : Int) + j < 1075) = false := by simp; omega
            have hd4 : ¬ ((x : Int) + j < 1075) := by omega
            have hjx : j = 1075 - x := by omega
            have hv := HV.out.2.1
            have hq := HV.out.2.2
            rw [hjx] at hv hq
            have hrv := HRV.out
            have hre := HRE.out
            rw [HV1.out, ← hv, hq] at hrv hre
            have BL := Lib.hid HV.out.1
            have hl5 : l.length ≤ 5000 := by omega
            clear hv hq hjx HV HV0 HV1 hd hj hlt HRV HRE
            cases q
            · simp only [Bool.false_and, Bool.false_eq_true, if_false, Nat.add_zero] at hrv hre
              have HRV := Lib.hid hrv; have HRE := Lib.hid hre; clear hrv hre
              obtain ⟨z, hz⟩ : ∃ z, pfit s (val l) = z := ⟨_, rfl⟩
              have HZ := Lib.hid hz; clear hz
              cases z
              all_goals
                go_wp2_with (go_at_call 76; refine (number_any _ A c l s HD.out BL.out hl5).mono ?_; rintro e w6 ⟨rfl, rfl⟩; rw [HZ.out])
                go_ret2
                refine ⟨ret_two ?_ ?_, HW.out⟩
                · first | exact HRV.out | exact (out_no HZ.out).2.symm.trans HRV.out
                · first | exact (out_ok HZ.out).symm.trans HRE.out | exact (out_no HZ.out).1.symm.trans HRE.out
            · simp only [Bool.true_and] at hrv hre
              obtain ⟨d, hd⟩ : ∃ d, (s != up) = d := ⟨_, rfl⟩
              rw [hd] at hrv hre
              have hd' : (!(s == up)) = d := hd
              clear hd
              cases d
              · simp only [Bool.false_eq_true, if_false, Nat.add_zero] at hrv hre
                have HRV := Lib.hid hrv; have HRE := Lib.hid hre; clear hrv hre
                obtain ⟨z, hz⟩ : ∃ z, pfit s (val l) = z := ⟨_, rfl⟩
                have HZ := Lib.hid hz; clear hz
                cases z
                all_goals
                  go_wp2_with (go_at_call 76; refine (number_any _ A c l s HD.out BL.out hl5).mono ?_; rintro e w6 ⟨rfl, rfl⟩; rw [HZ.out])
                  go_ret2
                  refine ⟨ret_two ?_ ?_, HW.out⟩
                  · first | exact HRV.out | exact (out_no HZ.out).2.symm.trans HRV.out
                  · first | exact (out_ok HZ.out).symm.trans HRE.out | exact (out_no HZ.out).1.symm.trans HRE.out
              · simp only [if_true] at hrv hre
                have HRV := Lib.hid hrv; have HRE := Lib.hid hre; clear hrv hre
                obtain ⟨z, hz⟩ : ∃ z, pfit s (val l + 1) = z := ⟨_, rfl⟩
                have HZ := Lib.hid hz; clear hz
                cases z
                all_goals
                  go_wp2_with (first
                    | (go_at_call 75; refine (more_any _ A c l HD.out BL.out hl5).mono ?_; rintro e w7 ⟨A7, c7, l7, rfl, hd7, bl7, hv7, hl7, hb7⟩; have HD7 := Lib.hid hd7; have BL7 := Lib.hid bl7; have HV7 := Lib.hid hv7; (have HL7 := Lib.hid (show l7.length ≤ 5000 by omega)); (have HW7 := Lib.hid (below_then HW.out hb7)); clear hd7 bl7 hv7 hl7 hb7)
                    | (go_at_call 76; refine (number_any _ A7 c7 l7 s HD7.out BL7.out HL7.out).mono ?_; rintro e w6 ⟨rfl, rfl⟩; rw [HV7.out, HZ.out]))
                  go_ret2
                  refine ⟨ret_two ?_ ?_, HW7.out⟩
                  · first | exact HRV.out | exact (out_no HZ.out).2.symm.trans HRV.out
                  · first | exact (out_ok HZ.out).symm.trans HRE.out | exact (out_no HZ.out).1.symm.trans HRE.out
end Go.Proofs.YtjhhpcjnhjbpdaaGreat

/- Contracts of the document's product: of any number and any float. -/
set_option linter.unusedSimpArgs false
set_option linter.unusedVariables false
namespace Go.Proofs.YtjhhpcjnhjbpdaaGreat
open Go.RowKit Mo
theorem rproduct_any (n : Int) (b : Nat) (up : Bool) (w : World) (n1 : -9223372036854775808 ≤ n) (n2 : n ≤ 9223372036854775807) (hb : b < 18446744073709551616) :
    Calls Tryz.prog 57 #[.int .i64 n, .float .f64 b, .bool up] w fun e w' => e = .returned (.tuple #[.int .i64 (prodV n b up), .int .i64 (prodE n b up)]) ∧ Below w.heap.size w w' := by
  rcases (show 9218868437227405312 ≤ rung b ∨ rung b < 9218868437227405312 by omega) with h | h
  · exact rproduct_none n b up w hb h
  · exact rproduct_fin n b up w n1 n2 hb h
end Go.Proofs.YtjhhpcjnhjbpdaaGreat

/- Contracts of the document's functions of floats: None, Class (beside Key and Cmp). -/
set_option linter.unusedSimpArgs false
set_option linter.unusedVariables false
namespace Go.Proofs.YtjhhpcjnhjbpdaaGreat
open Go.RowKit Mo
theorem shl1 (b : Nat) (hb : b < 18446744073709551616) : IntKind.u64.wrap ((b : Int) * 2) = (2 * rung b : Nat) := by
  rw [wrap_u64]; unfold rung; omega
set_option maxHeartbeats 400000 in
theorem none_any (b : Nat) (w : World) (hb : b < 18446744073709551616) : Calls Tryz.prog 56 #[.float .f64 b] w fun e w' => e = .returned (.bool (isNaN b)) ∧ w = w' := by
  have hr := run_bits
  have hs := shl1 b hb
  have hd : isNaN b = decide ((18437736874454810624 : Int) < (2 * rung b : Nat)) := by unfold isNaN; rw [Bool.eq_iff_iff, decide_eq_true_iff, decide_eq_true_iff]; omega
  have HD := Lib.hid hd
  clear hd
  go_enter Tryz.func56, Tryz.ntmps56
  go_wp2
  go_ret
  refine ⟨?_, rfl⟩
  show Ending.returned (.bool (decide ((18437736874454810624 : Int) < 2 * (rung b : Int)))) = _
  rw [HD.out]
  simp
set_option maxRecDepth 100000 in
set_option maxHeartbeats 800000 in
theorem rcls_any (b : Nat) (w : World) (hb : b < 18446744073709551616) : Calls Tryz.prog 41 #[.float .f64 b] w fun e w' => e = .returned (.int .i64 (cls b)) ∧ w = w' := by
  have hr := run_bits
  have hs := shl1 b hb
  have e1 := top_bit b hb
  go_enter Tryz.func41, Tryz.ntmps41
  go_wp2_with (go_at_call 56; refine (none_any _ _ hb).mono ?_; rintro e w1 ⟨rfl, rfl⟩)
  all_goals
    go_ret
    refine ⟨ret_i64 ?_, rfl⟩
    clear hr hs e1
    unfold cls
    (repeat' split) <;> first | rfl | (exfalso; simp_all; done) | (exfalso; simp_all; omega)
end Go.Proofs.YtjhhpcjnhjbpdaaGreat
