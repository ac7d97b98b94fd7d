/- The document's book: what an account has. -/
import Derived.Test.YtjhhpcjnhjbpdaaGreatDcB
set_option linter.unusedSimpArgs false
set_option linter.unusedVariables false
namespace Go.Proofs.YtjhhpcjnhjbpdaaGreat
open Go.RowKit Mo
/-- what was done -/
structure Dn where
  fr : Int
  to_ : Int
  n : Int
  fee : Int
def Dn.cells (x : Dn) : List Value := [.int .i64 x.fr, .int .i64 x.to_, .int .i64 x.n, .int .i64 x.fee]
def Dn.ok (x : Dn) : Prop := 0 ≤ x.n ∧ x.n ≤ 1000000000000000 ∧ 0 ≤ x.fee ∧ x.fee ≤ 1000000000000000
def stN (x : Dn) (a : Int) : Int := (if x.to_ = a then x.n else 0) - (if x.fr = a then x.n + x.fee else 0)
def docN : List Dn → Int → Int
  | [], _ => 0
  | x :: l, a => stN x a + docN l a
def docP : List Dn → Int → Int
  | [], _ => 0
  | x :: l, a => (if x.fr = a then x.fee else 0) + docP l a
def docOk : List Dn → Int → Bool
  | [], _ => false
  | x :: l, a => (x.to_ == a && decide (x.fr < 0)) || docOk l a
theorem docN_snoc (l : List Dn) (x : Dn) (a : Int) : docN (l ++ [x]) a = docN l a + stN x a := by
  induction l with
  | nil => simp [docN]
  | cons y l ih => simp only [List.cons_append, docN, ih]; omega
theorem docP_snoc (l : List Dn) (x : Dn) (a : Int) : docP (l ++ [x]) a = docP l a + (if x.fr = a then x.fee else 0) := by
  induction l with
  | nil => simp [docP]
  | cons y l ih => simp only [List.cons_append, docP, ih]; omega
theorem docOk_snoc (l : List Dn) (x : Dn) (a : Int) : docOk (l ++ [x]) a = (docOk l a || (x.to_ == a && decide (x.fr < 0))) := by
  induction l with
  | nil => simp [docOk]
  | cons y l ih => simp only [List.cons_append, docOk, ih, Bool.or_assoc]
theorem doc_bnd (l : List Dn) (a : Int) (h : ∀ x ∈ l, Dn.ok x) : -(2000000000000000 * (l.length : Int)) ≤ docN l a ∧ docN l a ≤ 2000000000000000 * (l.length : Int) ∧ 0 ≤ docP l a ∧ docP l a ≤ 2000000000000000 * (l.length : Int) := by
  induction l with
  | nil => simp [docN, docP]
  | cons x l ih =>
    obtain ⟨h1, h2, h3, h4⟩ := h x (List.mem_cons_self ..)
    have := ih (fun y hy => h y (List.mem_cons_of_mem _ hy))
    simp only [docN, docP, stN, List.length_cons]
    split <;> split <;> omega
theorem dn_at {w : World} {ad : Addr} {xs : List Dn} (h : ∀ j u, (xs.flatMap Dn.cells)[j]? = some u → w.cell? (ad.add j) = some u) (k : Nat) (hk : k < xs.length) : w.cell? (ad.add (k * 4)) = some (.int .i64 xs[k].fr) ∧ w.cell? ⟨(ad.add (k * 4)).block, (ad.add (k * 4)).off + 1, none⟩ = some (.int .i64 xs[k].to_) ∧ w.cell? ⟨(ad.add (k * 4)).block, (ad.add (k * 4)).off + 2, none⟩ = some (.int .i64 xs[k].n) ∧ w.cell? ⟨(ad.add (k * 4)).block, (ad.add (k * 4)).off + 3, none⟩ = some (.int .i64 xs[k].fee) := by
  have q := fun j (hj : j < 4) => (h (k * 4 + j) _ ((flatMap_at xs Dn.cells 4 (fun _ => rfl) k j hk hj).trans (List.getElem?_eq_getElem (by exact hj))))
  have q0 := q 0 (by omega); have q1 := q 1 (by omega); have q2 := q 2 (by omega); have q3 := q 3 (by omega)
  simp only [Dn.cells, List.getElem_cons_zero, List.getElem_cons_succ, Nat.add_zero] at q0 q1 q2 q3
  exact ⟨q0, cell_in _ 1 (by omega) q1, cell_in _ 2 (by omega) q2, cell_in _ 3 (by omega) q3⟩
set_option maxRecDepth 100000 in
set_option maxHeartbeats 4000000 in
theorem rhas_d (r : Nat) (A : Option Addr) (c : Nat) (D : List Dn) (a : Int) (w : World) (ha : Reads w w.heap.size 4 A D.length (D.flatMap Dn.cells)) (hl : D.length ≤ 100) (hok : ∀ x ∈ D, Dn.ok x) :
    Calls Tryz.prog 46 #[.agg #[.float .f64 r, .slice A D.length c], .int .i64 a] w fun e w' => e = .returned (.tuple #[.int .i64 (docN D a), .bool (docOk D a), .int .i64 (docP D a)]) ∧ Below w.heap.size w w' := by
  have HA := Lib.hid ha; have HOK := Lib.hid hok
  have S0 := Lib.hid (Blk.new w 58 #[.float .f64 r, .slice A D.length c])
  clear ha hok
  go_enter Tryz.func46, Tryz.ntmps46
  go_wp2_with fail
  go_loopw [7, 8, 9, 10] (fun s7 s8 s9 s10 wr => ∃ (k : Nat) (n p : Int) (ob : Bool), k ≤ D.length ∧ s10 = .int .i64 k ∧ s7 = .int .i64 n ∧ s8 = .bool ob ∧ s9 = .int .i64 p ∧ Hid (n = docN (D.take k) a) ∧ Hid (ob = docOk (D.take k) a) ∧ Hid (p = docP (D.take k) a) ∧ Hid (Blk wr w.heap.size 58 #[.float .f64 r, .slice A D.length c]) ∧ Hid (Below w.heap.size w wr)) (fun _ _ _ s _ => D.length - (intOf s).toNat)
  case atStart => exact ⟨0, 0, 0, false, Nat.zero_le _, rfl, rfl, rfl, rfl, Lib.hid rfl, Lib.hid rfl, Lib.hid rfl, S0, Lib.hid (by repeat (first | exact Below.refl _ _ | refine below_alloc_ ?_ _ | refine Below.drew ?_))⟩
  case round =>
    obtain ⟨k, n, p, ob, hk, rfl, rfl, rfl, rfl, HN, HO, HP, S, W⟩ := hrel
    obtain ⟨s0, s1⟩ := S.out.c2
    have sl := S.out.lt
    by_cases hlt : k < D.length
    · have hd : decide ((k : Int) < (D.length : Int)) = true := by simp; omega
      have hd' : decide (k < D.length) = true := by simp; omega
      obtain ⟨ad, hA, hadb, hcell⟩ := (HA.out.below W.out).2 (by omega)
      subst hA
      obtain ⟨q0, q1, q2, q3⟩ := dn_at hcell k hlt
      obtain ⟨v0, v1, v2, v3⟩ := HOK.out D[k] (List.getElem_mem hlt)
      have bd := doc_bnd (D.take k) a (fun x hx => HOK.out x (List.mem_of_mem_take hx))
      rw [← HN.out, ← HP.out, List.length_take_of_le hk] at bd
      obtain ⟨b0, b1, b2, b3⟩ := bd
      have ht := List.take_succ_eq_append_getElem hlt
      have HN1 := Lib.hid (show docN (D.take (k + 1)) a = n + stN D[k] a by rw [ht, docN_snoc, HN.out])
      have HO1 := Lib.hid (show docOk (D.take (k + 1)) a = (ob || (D[k].to_ == a && decide (D[k].fr < 0))) by rw [ht, docOk_snoc, HO.out])
      have HP1 := Lib.hid (show docP (D.take (k + 1)) a = p + (if D[k].fr = a then D[k].fee else 0) by rw [ht, docP_snoc, HP.out])
      have kb : (k : Int) ≤ 100 := by omega
      clear hcell ht
      generalize D[k] = x at *
      obtain ⟨xf, xt, xn, xe⟩ := x
      simp only [stN] at q0 q1 q2 q3 v0 v1 v2 v3 HN1 HO1 HP1
      have SA := Lib.hid (S.out.alloc (.cells #[.int .i64 xf, .int .i64 xt, .int .i64 xn, .int .i64 xe] 90))
      have WA := Lib.hid (below_alloc_ W.out (.cells #[.int .i64 xf, .int .i64 xt, .int .i64 xn, .int .i64 xe] 90))
      by_cases h1 : xt = a
      · have e1 : (xt == a) = true := by simpa using h1
        have H1 := Lib.hid h1
        by_cases h2 : xf = a
        · have e2 : (xf == a) = true := by simpa using h2
          have H2 := Lib.hid h2
          clear h1 h2
          cases ob
          · cases hf : decide (xf < 0)
            all_goals
              have HF := Lib.hid hf
              clear hf
              have e3 := HF.out
              go_wp2_with fail
              go_roundw
              case rel => exact ⟨k + 1, _, _, _, by omega, by go_num, rfl, rfl, rfl, Lib.hid (by rw [HN1.out, if_pos H1.out, if_pos H2.out]; omega), Lib.hid (by rw [HO1.out, e1, HF.out]; rfl), Lib.hid (by rw [HP1.out, if_pos H2.out]), SA, WA⟩
              case measure => simp [intOf]; omega
          · go_wp2_with fail
            go_roundw
            case rel => exact ⟨k + 1, _, _, _, by omega, by go_num, rfl, rfl, rfl, Lib.hid (by rw [HN1.out, if_pos H1.out, if_pos H2.out]; omega), Lib.hid (by rw [HO1.out]; rfl), Lib.hid (by rw [HP1.out, if_pos H2.out]), SA, WA⟩
            case measure => simp [intOf]; omega
        · have e2 : (xf == a) = false := by simpa using h2
          have H2 := Lib.hid h2
          clear h1 h2
          cases ob
          · cases hf : decide (xf < 0)
            all_goals
              have HF := Lib.hid hf
              clear hf
              have e3 := HF.out
              go_wp2_with fail
              go_roundw
              case rel => exact ⟨k + 1, _, _, _, by omega, by go_num, rfl, rfl, rfl, Lib.hid (by rw [HN1.out, if_pos H1.out, if_neg H2.out]; omega), Lib.hid (by rw [HO1.out, e1, HF.out]; rfl), Lib.hid (by rw [HP1.out, if_neg H2.out]; omega), SA, WA⟩
              case measure => simp [intOf]; omega
          · go_wp2_with fail
            go_roundw
            case rel => exact ⟨k + 1, _, _, _, by omega, by go_num, rfl, rfl, rfl, Lib.hid (by rw [HN1.out, if_pos H1.out, if_neg H2.out]; omega), Lib.hid (by rw [HO1.out]; rfl), Lib.hid (by rw [HP1.out, if_neg H2.out]; omega), SA, WA⟩
            case measure => simp [intOf]; omega
      · have e1 : (xt == a) = false := by simpa using h1
        have H1 := Lib.hid h1
        by_cases h2 : xf = a
        · have e2 : (xf == a) = true := by simpa using h2
          have H2 := Lib.hid h2
          clear h1 h2
          go_wp2_with fail
          go_roundw
          case rel => exact ⟨k + 1, _, _, ob, by omega, by go_num, rfl, rfl, rfl, Lib.hid (by rw [HN1.out, if_neg H1.out, if_pos H2.out]; omega), Lib.hid (by rw [HO1.out, e1]; simp), Lib.hid (by rw [HP1.out, if_pos H2.out]), SA, WA⟩
          case measure => simp [intOf]; omega
        · have e2 : (xf == a) = false := by simpa using h2
          have H2 := Lib.hid h2
          clear h1 h2
          go_wp2_with fail
          go_roundw
          case rel => exact ⟨k + 1, _, _, ob, by omega, by go_num, rfl, rfl, rfl, Lib.hid (by rw [HN1.out, if_neg H1.out, if_neg H2.out]; omega), Lib.hid (by rw [HO1.out, e1]; simp), Lib.hid (by rw [HP1.out, if_neg H2.out]; omega), SA, WA⟩
          case measure => simp [intOf]; omega
    · have hd : decide ((k : Int) < (D.length : Int)) = false := by simp; omega
      have hd' : decide (k < D.length) = false := by simp; omega
      obtain rfl : k = D.length := by omega
      have HN1 := HN.out; have HO1 := HO.out; have HP1 := HP.out
      rw [List.take_of_length_le (Nat.le_refl _)] at HN1 HO1 HP1
      have HR := Lib.hid (And.intro HN1 (And.intro HO1 HP1))
      clear HN1 HO1 HP1
      go_wp2_with fail
      go_ret3
      exact ⟨by rw [← HR.out.1, ← HR.out.2.1, ← HR.out.2.2]; rfl, W.out⟩
end Go.Proofs.YtjhhpcjnhjbpdaaGreat
