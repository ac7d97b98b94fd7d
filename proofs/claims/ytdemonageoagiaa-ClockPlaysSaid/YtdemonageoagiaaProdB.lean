/- Contracts of the document's product: product of digits. -/
import Derived.Test.YtdemonageoagiaaProdA
set_option linter.unusedSimpArgs false
set_option linter.unusedVariables false
namespace Go.Proofs.Ytdemonageoagiaa
open Go.RowKit Mo
def Row (w : World) (g : Nat) (l : List Nat) : Prop := Blk w g 5 (l.map u8v).toArray
theorem Row.cell {w : World} {g : Nat} {l : List Nat} (h : Row w g l) {j : Nat} (hj : j < l.length) : w.cell? ⟨g, j, none⟩ = some (.int .u8 (l[j] : Nat)) := by
  have := Blk.cell h j
  rw [this]; simp [hj, u8v]
theorem Row.set {w : World} {g : Nat} {l : List Nat} (h : Row w g l) (j v : Nat) : Row (w.setCell ⟨g, j, none⟩ (.int .u8 (v : Nat))) g (l.set j v) := by
  have := Blk.set_ h j (u8v v)
  unfold Row
  rw [List.map_set]
  simpa [u8v] using this
theorem Row.frozen {w : World} {g : Nat} {l : List Nat} (h : Row w g l) (j : Nat) : w.frozen? ⟨g, j, none⟩ = false := Blk.frozen h j
def ProdRet (w : World) (a b : List Nat) (e : Ending) (w' : World) : Prop := ∃ A c l, e = .returned (.slice A l.length c) ∧ Dg w' A c l ∧ Mo.bits l ∧ val l = val a * val b ∧ l.length = a.length + b.length + 1 ∧ Below w.heap.size w w'
theorem own_row {w : World} {base g n : Nat} {l : List Nat} (h : w.ownsRow base 5 1 (.slice (some ⟨g, 0, none⟩) n n) n (l.map u8v)) : Row w g l ∧ base ≤ g ∧ n = l.length := by
  have h1 := h.1
  rcases h.2 with ⟨e, _⟩ | ⟨g', cap, cur, e, hb, hh, _, _, hs, ht⟩
  · cases e
  · injection e with e1 e2 e3
    injection e1 with e1
    injection e1 with e1
    subst e1 e3
    refine ⟨?_, hb, by simpa using h1.symm⟩
    rw [← hs, ← Array.length_toList, List.take_length] at ht
    unfold Row Blk
    rw [hh, ← ht]
theorem row_dg {w : World} {g : Nat} {l : List Nat} (h : Row w g l) (hl : l.length ≤ 1000) : Dg w (some ⟨g, 0, none⟩) l.length l := by
  refine ⟨⟨by simp, fun _ => ⟨_, rfl, Blk.lt h, fun j u hu => ?_⟩⟩, Nat.le_refl _, by unfold maxLen; omega⟩
  rw [Addr.add_lit]
  have hj : j < l.length := by
    have := List.getElem?_eq_some_iff.1 hu
    obtain ⟨hj, _⟩ := this
    simpa using hj
  have := h.cell hj
  simp only [Nat.zero_add]
  rw [this, ← hu]; simp [hj, u8v]
theorem bits_take {l : List Nat} (h : Mo.bits l) (k : Nat) : Mo.bits (l.take k) := fun x hx => h x (List.mem_of_mem_take hx)
theorem val_take_lt {l : List Nat} (h : Mo.bits l) (k : Nat) : val (l.take k) < 2 ^ k := by
  have h1 := val_lt (bits_take h k)
  refine Nat.lt_of_lt_of_le h1 (Nat.pow_le_pow_right (by decide) ?_)
  rw [List.length_take]; omega
/-- one digit of the first number is laid in -/
theorem prod_round (a b o o2 : List Nat) (k cy : Nat) (hk : k < a.length) (ba : Mo.bits a) (bb : Mo.bits b) (h1 : a[k] = 1) (hv : val o = val (a.take k) * val b)
    (h : val o2 + cy * 2 ^ (k + (b.length + 1)) = val o + val (b.take (b.length + 1)) * 2 ^ k) : cy = 0 ∧ val o2 = val (a.take (k + 1)) * val b := by
  rw [List.take_of_length_le (by omega)] at h
  have e : val (a.take (k + 1)) = val (a.take k) + 2 ^ k := by rw [val_take_succ a k hk, h1, Nat.one_mul]
  have hT : val o + val b * 2 ^ k = val (a.take (k + 1)) * val b := by rw [hv, e, Nat.add_mul, Nat.mul_comm (val b)]
  have l1 := val_take_lt ba (k + 1)
  have l2 := val_lt bb
  have l3 : val (a.take (k + 1)) * val b < 2 ^ (k + (b.length + 1)) := by
    rw [show k + (b.length + 1) = (k + 1) + b.length by omega, Nat.pow_add]
    exact Nat.mul_lt_mul'' l1 l2
  rw [hT] at h
  rcases Nat.eq_zero_or_pos cy with h0 | h0
  · subst h0
    exact ⟨rfl, by omega⟩
  · exfalso
    have : 1 * 2 ^ (k + (b.length + 1)) ≤ cy * 2 ^ (k + (b.length + 1)) := Nat.mul_le_mul_right _ h0
    omega
theorem prod_skip (a b o : List Nat) (k : Nat) (hk : k < a.length) (h0 : a[k] = 0) (hv : val o = val (a.take k) * val b) : val o = val (a.take (k + 1)) * val b := by
  rw [val_take_succ a k hk, h0, Nat.zero_mul, Nat.add_zero]; exact hv
/-- one step of adding -/
theorem prod_step (b o o2 : List Nat) (k m cy x y s : Nat) (hj : k + m < o2.length) (hx : o2[k + m] = x) (hs : s = x + cy + y) (hy : val (b.take (m + 1)) = val (b.take m) + y * 2 ^ m)
    (h : val o2 + cy * 2 ^ (k + m) = val o + val (b.take m) * 2 ^ k) : val (o2.set (k + m) (s % 2)) + s / 2 * 2 ^ (k + (m + 1)) = val o + val (b.take (m + 1)) * 2 ^ k := by
  have h1 := add_step o2 (k + m) cy y hj
  rw [hx, ← hs] at h1
  rw [show k + (m + 1) = k + m + 1 by omega, h1, hy, Nat.add_mul, Nat.add_mul, Nat.mul_assoc y, ← Nat.pow_add, Nat.add_comm m k]
  omega
theorem u8_in (n : Nat) (h : n < 256) : IntKind.u8.wrap (n : Int) = n := by
  simp [IntKind.wrap, IntKind.signed, IntKind.bits]; omega
set_option maxRecDepth 100000 in
set_option maxHeartbeats 4000000 in
theorem product_any (w : World) (A : Option Addr) (c : Nat) (a : List Nat) (B : Option Addr) (d : Nat) (b : List Nat) (ha : Dg w A c a) (hb : Dg w B d b) (ba : Mo.bits a) (bb : Mo.bits b) (la : a.length ≤ 100) (lb : b.length ≤ 100) :
    Calls Try.prog 30 #[.slice A a.length c, .slice B b.length d] w (ProdRet w a b) := by
  have HA := Lib.hid ha; have HB := Lib.hid hb; have BA := Lib.hid ba; have BB := Lib.hid bb
  clear ha hb ba bb
  go_enter Try.func30, Try.ntmps30
  obtain ⟨i0, hi, hz0, hz1, hz2⟩ := info_parts info_u8
  go_wp2_with (at_make; refine wpList_make_full _ rfl (.tmp 15) (.tmp 15) 87 rfl w.heap.size 5 i0 (.int .u8 0) 1 Try.underlying87 hi hz0 hz1 _ _ _ _ (a.length + b.length + 1) (by rfl) (by rfl) (by simp) (by simp) (by rw [hz2]; omega) (by unfold maxLen; omega) (Nat.le_refl _) ?_; intro w1 ho1 hg1; have HO1 := Lib.hid ho1; have HG1 := Lib.hid hg1; clear ho1 hg1)
  have hrow : Row w1 w.heap.size (List.replicate (a.length + b.length + 1) 0) := by
    have := HO1.out
    rw [Nat.mul_one, show (Value.int IntKind.u8 0).cells = #[Value.int IntKind.u8 0] from rfl] at this
    rw [toList_madeCells_one] at this
    exact (own_row (l := List.replicate (a.length + b.length + 1) 0) (by simpa [u8v] using this)).1
  have HR0 := Lib.hid hrow
  have HB1 : Hid (Below w.heap.size w w1) := Lib.hid ((Below.refl _ _).grown HG1.out (Nat.le_refl _) (by simp))
  clear hrow HO1 HG1
  go_loopw [6] (fun i wr => ∃ (k : Nat) (o : List Nat), k ≤ a.length ∧ i = .int .i64 k ∧ o.length = a.length + b.length + 1 ∧ Hid (Row wr w.heap.size o) ∧ Hid (Mo.bits o ∧ val o = val (a.take k) * val b) ∧ Hid (Below w.heap.size w wr)) (fun i _ => a.length - (intOf i).toNat)
  case atStart => exact ⟨0, _, Nat.zero_le _, rfl, by simp, HR0, Lib.hid ⟨bits_replicate _, by simp [val_replicate, val]⟩, HB1⟩
  case round =>
    obtain ⟨k, o, hk, rfl, ho, HO, HV, HW⟩ := hrel
    rename World => wo
    by_cases hlt : k < a.length
    · have hd : decide ((k : Int) < a.length) = true := by simp; omega
      have hak := bits_get BA.out hlt
      obtain ⟨x0, hx0⟩ : ∃ x, a[k] = x := ⟨_, rfl⟩
      have HX0 := Lib.hid hx0
      rw [hx0] at hak
      clear hx0
      go_wp2_with fail
      rcases (show x0 = 0 ∨ x0 = 1 by omega) with rfl | rfl
      · go_loopw [7, 8] (fun c k2 wr => Hid (wr = wo) ∧ k2 = .int .i64 0 ∧ c = .int .u8 0) (fun _ _ _ => 0)
        case atStart => exact ⟨Lib.hid rfl, rfl, rfl⟩
        case round =>
          obtain ⟨HE, rfl, rfl⟩ := hrel
          have hE := HE.out
          subst hE
          obtain ⟨ad, u, rfl, hadb, hu, hcell⟩ := (HA.out.pass HW.out).rd.at_ hlt
          obtain rfl : u = .int .u8 0 := by
            have := HX0.out
            simp [hlt, u8v] at hu
            rw [← hu, this]; rfl
          clear hu
          have hd2 : decide ((0 : Int) ≤ b.length) = true := by simp
          go_wp2_with fail
          go_roundw
          case rel => exact ⟨k + 1, o, by omega, by go_num, ho, HO, Lib.hid ⟨HV.out.1, prod_skip a b o k hlt HX0.out HV.out.2⟩, HW⟩
          case measure => simp [intOf]; omega
      · go_loopw [7, 8] (fun c k2 wr => ∃ (m cy : Nat) (o2 : List Nat), m ≤ b.length + 1 ∧ k2 = .int .i64 m ∧ c = .int .u8 (cy : Nat) ∧ o2.length = a.length + b.length + 1 ∧ cy ≤ 1 ∧ Hid (Row wr w.heap.size o2) ∧ Hid (Mo.bits o2 ∧ val o2 + cy * 2 ^ (k + m) = val o + val (b.take m) * 2 ^ k) ∧ Hid (Below w.heap.size w wr)) (fun _ k2 _ => b.length + 1 - (intOf k2).toNat)
        case atStart => exact ⟨0, 0, o, Nat.zero_le _, rfl, rfl, ho, by omega, HO, Lib.hid ⟨HV.out.1, by simp [val]⟩, HW⟩
        case round =>
          obtain ⟨m, cy, o2, hm, rfl, rfl, ho2, hcy, HO2, HV2, HW2⟩ := hrel
          by_cases hm2 : m ≤ b.length
          · have hd2 : decide ((m : Int) ≤ b.length) = true := by simp; omega
            obtain ⟨ad, u, rfl, hadb, hu, hcell⟩ := (HA.out.pass HW2.out).rd.at_ hlt
            obtain rfl : u = .int .u8 1 := by
              have := HX0.out
              simp [hlt, u8v] at hu
              rw [← hu, this]; rfl
            clear hu
            have hj : k + m < o2.length := by omega
            have hq := HO2.out.cell hj
            have hfr := HO2.out.frozen (k + m)
            have hxb := bits_get HV2.out.1 hj
            obtain ⟨x, hx⟩ : ∃ x, o2[k + m] = x := ⟨_, rfl⟩
            have HX := Lib.hid hx
            rw [hx] at hq hxb
            have hglt : w.heap.size < wr.heap.size := Blk.lt HO2.out
            clear hx
            have hi1 : (k : Int) + m < a.length + b.length + 1 := by omega
            obtain ⟨s1, hs1⟩ : ∃ s, x + cy = s := ⟨_, rfl⟩
            have hw1 : IntKind.u8.wrap ((x : Int) + cy) = (s1 : Nat) := by rw [← hs1, ← u8_in _ (show x + cy < 256 by omega)]; simp
            rcases (show m < b.length ∨ m = b.length by omega) with hm3 | hm3
            · have hd3 : decide ((m : Int) < b.length) = true := by simp; omega
              obtain ⟨bd, u, rfl, hbdb, hu, hbcell⟩ := (HB.out.pass HW2.out).rd.at_ hm3
              have hyb := bits_get BB.out hm3
              obtain ⟨y, hy⟩ : ∃ y, b[m] = y := ⟨_, rfl⟩
              obtain rfl : u = .int .u8 (y : Nat) := by
                simp [hm3, u8v] at hu
                rw [← hu, hy]
              have HY := Lib.hid (show val (b.take (m + 1)) = val (b.take m) + y * 2 ^ m by rw [val_take_succ b m hm3, hy])
              rw [hy] at hyb
              clear hu hy
              obtain ⟨s, hs⟩ : ∃ s, s1 + y = s := ⟨_, rfl⟩
              have hw2 : IntKind.u8.wrap ((s1 : Int) + y) = (s : Nat) := by rw [← hs, ← u8_in _ (show s1 + y < 256 by omega)]; simp
              obtain ⟨r, hr⟩ : ∃ r, s % 2 = r := ⟨_, rfl⟩
              obtain ⟨q, hqq⟩ : ∃ q, s / 2 = q := ⟨_, rfl⟩
              have hr2 : (s : Int) % 2 = (r : Nat) := by omega
              have hq2 : (s : Int) / 2 = (q : Nat) := by omega
              have HS := Lib.hid (prod_step b o o2 k m cy x y s hj HX.out (by omega) HY.out HV2.out.2)
              rw [hr, hqq] at HS
              have hrb : r ≤ 1 := by omega
              have hqb : q ≤ 1 := by omega
              clear hr hqq hs hs1
              go_wp2_with fail
              go_roundw
              case rel => exact ⟨m + 1, q, o2.set (k + m) r, by omega, by go_num, rfl, by simp [ho2], hqb, Lib.hid (HO2.out.set (k + m) r), Lib.hid ⟨bits_set HV2.out.1 _ _ hrb, HS.out⟩, Lib.hid (HW2.out.setCell (Nat.le_refl _) _)⟩
              case measure => simp [intOf]; omega
            · have hd3 : decide ((m : Int) < b.length) = false := by simp; omega
              have hm4 : ¬ (m < b.length) := by omega
              have HY := Lib.hid (show val (b.take (m + 1)) = val (b.take m) + 0 * 2 ^ m by rw [List.take_of_length_le (by omega), List.take_of_length_le (by omega)]; omega)
              obtain ⟨r, hr⟩ : ∃ r, s1 % 2 = r := ⟨_, rfl⟩
              obtain ⟨q, hqq⟩ : ∃ q, s1 / 2 = q := ⟨_, rfl⟩
              have hr2 : (s1 : Int) % 2 = (r : Nat) := by omega
              have hq2 : (s1 : Int) / 2 = (q : Nat) := by omega
              have HS := Lib.hid (prod_step b o o2 k m cy x 0 s1 hj HX.out (by omega) HY.out HV2.out.2)
              rw [hr, hqq] at HS
              have hrb : r ≤ 1 := by omega
              have hqb : q ≤ 1 := by omega
              clear hr hqq hs1 hm3
              go_wp2_with fail
              go_roundw
              case rel => exact ⟨m + 1, q, o2.set (k + m) r, by omega, by go_num, rfl, by simp [ho2], hqb, Lib.hid (HO2.out.set (k + m) r), Lib.hid ⟨bits_set HV2.out.1 _ _ hrb, HS.out⟩, Lib.hid (HW2.out.setCell (Nat.le_refl _) _)⟩
              case measure => simp [intOf]; omega
          · have hd2 : decide ((m : Int) ≤ b.length) = false := by simp; omega
            obtain rfl : m = b.length + 1 := by omega
            obtain ⟨hc0, hv2⟩ := prod_round a b o o2 k cy hlt BA.out BB.out HX0.out HV.out.2 HV2.out.2
            subst hc0
            have HV3 := Lib.hid hv2
            clear hv2
            go_wp2_with fail
            go_roundw
            case rel => exact ⟨k + 1, o2, by omega, by go_num, ho2, HO2, Lib.hid ⟨HV2.out.1, HV3.out⟩, HW2⟩
            case measure => simp [intOf]; omega
    · have hd : decide ((k : Int) < a.length) = false := by simp; omega
      obtain rfl : k = a.length := by omega
      go_wp2
      go_ret
      have hv := HV.out.2
      rw [List.take_length] at hv
      have hdg := row_dg HO.out (by omega)
      rw [ho] at hdg
      refine ⟨some ⟨w.heap.size, 0, none⟩, a.length + b.length + 1, o, ?_, hdg, HV.out.1, hv, ho, HW.out⟩
      rw [ho]; rfl
end Go.Proofs.Ytdemonageoagiaa
