/- Contracts of the document's product: digits. -/
import Derived.Test.YtdemonageoagiaaNumV
import Derived.LoopTactic
set_option linter.unusedSimpArgs false
set_option linter.unusedVariables false
namespace Go.Proofs.Ytdemonageoagiaa
open Go.RowKit Mo
def u8v (d : Nat) : Value := .int .u8 d
theorem info_u8 : (Try.prog.info? 5).map (fun i => (i.zero, i.size, i.bytes)) = some (some (.int .u8 0), 1, 1) := by kernel_rfl
theorem one_u8 (xs : List Nat) : ∀ u ∈ xs.map u8v, u.oneCell' = true := by
  intro u hu
  obtain ⟨x, _, rfl⟩ := List.mem_map.1 hu
  rfl
/-- a slice of digits -/
structure Dg (w : World) (A : Option Addr) (c : Nat) (l : List Nat) : Prop where
  rd : Reads w w.heap.size 1 A l.length (l.map u8v)
  le : l.length ≤ c
  mx : c ≤ maxLen
theorem Dg.pass {w w' : World} {A : Option Addr} {c : Nat} {l : List Nat} (h : Dg w A c l) (hb : Below w.heap.size w w') : Dg w' A c l :=
  ⟨h.rd.kp (S := fun _ => False) (.of_below hb) (fun _ _ h => h), h.le, h.mx⟩
theorem own_dg {w : World} {base : Nat} {e : TypeId} {n : Nat} {v : Value} {l : List Nat} (h : w.ownsRow base e 1 v n (l.map u8v)) (hn : n = l.length) : ∃ A c, v = .slice A l.length c ∧ Dg w A c l := by
  subst hn
  have h' := h
  rcases h.2 with ⟨rfl, hl⟩ | ⟨g, cap, cur, rfl, hb, hh, h1, h2, _⟩
  · have hl0 : l = [] := by
      cases l with
      | nil => rfl
      | cons x l => simp at hl
    subst hl0
    exact ⟨none, 0, rfl, Reads.of_own h', Nat.le_refl _, by simp [maxLen]⟩
  · exact ⟨some ⟨g, 0, none⟩, cap, rfl, Reads.of_own h', h1, h2⟩
def DigRet (w : World) (l : List Nat) (e : Ending) (w' : World) : Prop := ∃ A c, e = .returned (.slice A l.length c) ∧ Dg w' A c l ∧ Below w.heap.size w w'
theorem u8_dig (x : Int) (d : Nat) (h : x = d) (hd : d ≤ 1) : IntKind.u8.wrap x = d := by
  subst h; simp [IntKind.wrap, IntKind.signed, IntKind.bits]; omega
set_option maxHeartbeats 1000000 in
theorem digits_any (n : Nat) (w : World) (hn : n < 18446744073709551616) : Calls Try.prog 31 #[.int .u64 n] w (DigRet w (dig n)) := by
  obtain ⟨i0, hi, hz0, hz1, hz2⟩ := info_parts info_u8
  go_enter Try.func31, Try.ntmps31
  go_wp2_with fail
  go_loopw [0, 3] (fun x o wr => ∃ (m : Nat) (l : List Nat), m < 18446744073709551616 ∧ x = .int .u64 m ∧ Hid (wr.ownsRow w.heap.size 5 1 o l.length (l.map u8v)) ∧ Hid (l ++ dig m = dig n) ∧ Hid (Below w.heap.size w wr)) (fun x _ _ => (intOf x).toNat)
  case atStart => exact ⟨n, [], hn, rfl, Lib.hid (own_empty rfl (Nat.le_refl _)), Lib.hid rfl, Lib.hid (by repeat (first | exact Below.refl _ _ | refine below_alloc_ ?_ _ | refine Below.drew ?_))⟩
  case round =>
    obtain ⟨m, l, hm, rfl, HO, HD, HB⟩ := hrel
    by_cases h0 : 0 < m
    · have hd : decide (0 < m) = true := by simpa using h0
      have hd2 : decide ((0 : Int) < m) = true := by simpa using h0
      have hc : IntKind.u8.wrap ((m : Int) % 2) = ((m % 2 : Nat) : Int) := u8_dig _ _ (by omega) (by omega)
      have hlen : l.length ≤ 64 := by
        have h1 := length_dig n 64 (by omega)
        rw [← HD.out] at h1
        simp at h1; omega
      go_wp2_with (at_builtin; refine wpList_append_any _ rfl (.tmp 9) (.tmp 13) 87 rfl w.heap.size 5 i0 (.int .u8 0) 1 1 Try.underlying87 hi hz0 hz1 hz2 rfl (by decide) _ l.length (l.map u8v) (by rfl) (own_al HO.out _) (wr.heap.size + 1) (some ⟨wr.heap.size, 0, none⟩) 1 1 [.int .u8 ((m % 2 : Nat) : Int)] (by rfl) (reads_one rfl) (by simp [Value.oneCell']) (by unfold maxLen; omega) (by omega) (by have := HB.out.size; simp; omega) ?_; intro v1 w1 ho1 hg1 _; have HO1 := Lib.hid ho1; have HG1 := Lib.hid hg1; clear ho1 hg1)
      go_roundw
      case rel => exact ⟨m / 2, l ++ [m % 2], by omega, by first | rfl | go_num | simp, Lib.hid (by have := HO1.out; simpa [u8v] using this), Lib.hid (by rw [← HD.out, dig_pos h0, List.append_assoc]; rfl), Lib.hid (Below.grown (HB.out.alloc HB.out.size _) HG1.out (by have := HB.out.size; simp; omega) (fun k e => (HO.out.lt k e).1))⟩
      case measure => simp [intOf]; omega
    · obtain rfl : m = 0 := by omega
      go_wp2
      go_ret
      have hl : l = dig n := by rw [← HD.out, dig_zero, List.append_nil]
      obtain ⟨A, c, rfl, hdg⟩ := own_dg HO.out rfl
      rw [← hl]
      exact ⟨A, c, rfl, hdg, HB.out⟩
end Go.Proofs.Ytdemonageoagiaa
