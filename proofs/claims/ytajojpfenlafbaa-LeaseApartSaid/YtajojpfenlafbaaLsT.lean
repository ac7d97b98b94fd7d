/- Leases: a stamp under a lease. -/
import Derived.Test.YtajojpfenlafbaaLsH
import Derived.Test.YtajojpfenlafbaaLsN
import Derived.Deep.RegionHeld3
set_option linter.unusedSimpArgs false
set_option linter.unusedVariables false
namespace Go.Proofs.Ytajojpfenlafbaa
open Go.RowKit Mo
attribute [local go_sem ↓] Go.wp_at_zero Go.wp_at_succ
/-- what a holder's stamp is, and what the source has behind it -/
def StIs (last lo hi : Int) (ys : List Int) (U n E l : Int) : Prop :=
  (isS lo hi = false ∧ n = 0 ∧ E = 240 ∧ l = last) ∨
  (isS lo hi = true ∧ U ≤ hi ∧ n = 0 ∧ E = 243 ∧ l = last) ∨
  (isS lo hi = true ∧ hi < U ∧ U - 1 ≤ tops (max last hi) ys ∧ n = 0 ∧ E = 244 ∧ l = last) ∨
  (isS lo hi = true ∧ hi < U ∧ tops (max last hi) ys < U - 1 ∧ n = tops (max last hi) ys + 1 ∧ E = 0 ∧ l = tops (max last hi) ys + 1)
theorem st_of (last lo hi : Int) (ys : List Int) (U : Int) : ∃ n E l, StIs last lo hi ys U n E l := by
  unfold StIs
  cases isS lo hi
  · exact ⟨_, _, _, .inl ⟨rfl, rfl, rfl, rfl⟩⟩
  · by_cases h1 : U ≤ hi
    · exact ⟨_, _, _, .inr (.inl ⟨rfl, h1, rfl, rfl, rfl⟩)⟩
    by_cases h2 : U - 1 ≤ tops (max last hi) ys
    · exact ⟨_, _, _, .inr (.inr (.inl ⟨rfl, by omega, h2, rfl, rfl, rfl⟩))⟩
    · exact ⟨_, _, _, .inr (.inr (.inr ⟨rfl, by omega, by omega, rfl, rfl, rfl⟩))⟩
theorem tops_lt (a B : Int) (xs : List Int) : tops a xs < B ↔ a < B ∧ ∀ i, ∀ h : i < xs.length, xs[i] < B := by
  constructor
  · intro h
    refine ⟨Int.lt_of_le_of_lt (tops_ge a xs) h, fun i hi => Int.lt_of_le_of_lt (tops_mem a xs _ (List.getElem_mem _)) h⟩
  · rintro ⟨h0, h1⟩
    rcases tops_is a xs with e | ⟨i, hi, e⟩
    · rw [e]; exact h0
    · rw [← e]; exact h1 i hi
theorem tops_two (last hi : Int) (ys : List Int) (h : 0 ≤ hi) : tops 0 ([last, hi] ++ ys) = tops (max last hi) ys := by
  unfold tops
  rw [List.foldl_append]
  simp only [List.foldl_cons, List.foldl_nil]
  rw [show max (max 0 last) hi = max last hi by omega]
set_option maxRecDepth 100000 in
set_option maxHeartbeats 4000000 in
theorem hstamp_any (gh gs k m : Nat) (us : List Int) (last lo hi : Int) (ys : List Int) (B : Option Addr) (d : Nat) (n E l : Int) (U : Int) (w : World) (hl : us.length = 5) (h1 : 1 ≤ k) (h2 : k ≤ 5) (hh : Blk w gh 72 (hcells k us)) (hs : Blk w gs 74 #[.int .i64 last])
    (hm : ys.length = m) (hm1 : m ≤ 1000) (hr : Reads w w.heap.size 1 B m (ys.map (Value.int .i64))) (hne : gs ≠ gh) (hU : unt k us = U) (hU1 : U ≤ 1125899906842624) (h : StIs last lo hi ys U n E l) :
    Calls Try.prog 13 #[.pointer (some ⟨gh, 0, none⟩), .agg #[.int .i64 lo, .int .i64 hi], .pointer (some ⟨gs, 0, none⟩), .slice B m d] w fun e w' => e = .returned (.tuple #[.int .i64 n, .int .i64 E]) ∧ Blk w' gs 74 #[.int .i64 l] ∧ Keeps (· = gs) w w' := by
  have HH := Lib.hid hh; have HS0 := Lib.hid hs; have HR := Lib.hid hr; have HM := Lib.hid hm; have HL := Lib.hid hl; have HU := Lib.hid hU; have HNE := Lib.hid hne
  have gsl := hs.lt; have ghl := hh.lt
  have BX := Lib.hid (Blk.new w 33 #[.int .i64 lo, .int .i64 hi])
  obtain ⟨i0, hi0, hz0, hz1, hz2⟩ := info_parts info_i64
  clear hh hs hr hm hl hU hne
  unfold StIs at h
  generalize hs : isS lo hi = s at h
  have HS := Lib.hid hs
  rcases h with ⟨rfl, rfl, rfl, rfl⟩ | ⟨rfl, h3, rfl, rfl, rfl⟩ | h
  · clear hs
    go_enter Try.func13, Try.ntmps13
    go_wp2_with (go_at_call 28; refine (check_f _ HS.out).mono ?_; rintro e w1 ⟨rfl, rfl⟩)
    go_ret2
    exact ⟨rfl, (HS0.out.alloc _).alloc _, ((Keeps.refl _ _).alloc _).alloc _⟩
  · clear hs
    have hd := Lib.hid (show (isS lo hi && decide (hi < U)) = false by rw [HS.out, decide_eq_false (by omega)]; rfl)
    go_enter Try.func13, Try.ntmps13
    go_wp2_with (first | (go_at_call 28; refine (check_t _ HS.out).mono ?_; rintro e w1 ⟨rfl, rfl⟩) | (go_at_call 16; refine (holds_any gh k us lo hi _ HL.out h1 h2 (by repeat (first | with_reducible exact HH.out | with_reducible refine Blk.alloc ?_ _))).mono ?_; rintro e w1 ⟨rfl, hb⟩; rw [HU.out, hd.out]))
    go_ret2
    exact ⟨rfl, Blk.below ((HS0.out.alloc _).alloc _) hb (by simp; omega), Keeps.then (((Keeps.refl _ _).alloc _).alloc _) hb⟩
  · have h3 : hi < U := by rcases h with h | h <;> exact h.2.1
    obtain rfl : s = true := by rcases h with h | h <;> exact h.1
    obtain ⟨g1, g2, g3⟩ := isS_iff.1 hs
    clear hs
    have hd := Lib.hid (show (isS lo hi && decide (hi < U)) = true by rw [HS.out, decide_eq_true h3]; rfl)
    have HSI := Lib.hid h
    clear h
    go_enter Try.func13, Try.ntmps13
    go_wp2_with (first | (go_at_call 28; refine (check_t _ HS.out).mono ?_; rintro e w1 ⟨rfl, rfl⟩) | (go_at_call 16; refine (holds_any gh k us lo hi _ HL.out h1 h2 (by repeat (first | with_reducible exact HH.out | with_reducible refine Blk.alloc ?_ _))).mono ?_; rintro e w1 ⟨rfl, hb⟩; rw [HU.out, hd.out]; have BX1 := Lib.hid (Blk.below (BX.out.alloc _) hb (by simp <;> omega)); have HH1 := Lib.hid (Blk.below ((HH.out.alloc _).alloc _) hb (by simp; omega)); have HS1 := Lib.hid (Blk.below ((HS0.out.alloc _).alloc _) hb (by simp; omega)); have K1 : Hid (Below w.heap.size w w1) := Lib.hid (below_then (w := w) (by repeat (first | exact Below.refl _ _ | refine below_alloc_ ?_ _ | refine Below.drew ?_)) hb); clear hb; obtain ⟨b0, b1⟩ := BX1.out.c2; have bl := BX1.out.lt; have sl1 := HS1.out.lt))
    go_region_held3 (fun w' => w'.cell? ⟨w.heap.size, 0, none⟩ = some (.int .i64 lo) ∧ w'.cell? ⟨w.heap.size, 1, none⟩ = some (.int .i64 hi)) (first | exact ⟨b0, b1⟩ | go_keep)
      (first
        | (go_at_call 18; refine (last_any gs last _ (by repeat (first | with_reducible exact HS1.out | with_reducible refine Blk.alloc ?_ _ | with_reducible refine Blk.drew ?_))).mono ?_; rintro e w2 ⟨rfl, rfl⟩)
        | ((refine step_append_any ((w1.alloc (.cells #[.int .i64 last, .int .i64 hi] 2)).drew) (by rfl) (.tmp 25) (.tmp 26) 30 (by rfl) w1.heap.size 2 i0 _ 1 8 Try.underlying30 hi0 hz0 hz1 hz2 rfl (by decide) (.slice (some ⟨w1.heap.size, 0, none⟩) 2 2) 2 [.int .i64 last, .int .i64 hi] (by rfl) (own_dr (own_new #[.int .i64 last, .int .i64 hi] 2 rfl (by simp [maxLen]) rfl)) _ B m d (ys.map (Value.int .i64)) (by rfl) (Reads.dr (Reads.al (Reads.kp (S := fun _ => False) HR.out (.of_below K1.out) (fun _ _ h => h)) _)) (one_ints ys) (by unfold maxLen; omega) (by omega) (by simp) ?_);
           intro v3 w3 ho3 hg3 hat3;
           obtain ⟨A', c', rfl, hrd, hblk⟩ := own_shape ho3;
           have RD := Lib.hid hrd;
           have BX3 := Lib.hid (Blk.grown (g := w.heap.size) (t := 33) (cs := #[.int .i64 lo, .int .i64 hi]) (by repeat (first | with_reducible exact BX1.out | with_reducible refine Blk.alloc ?_ _ | with_reducible refine Blk.drew ?_)) hg3 (by simp [Value.ownBlock] <;> omega));
           have HH3 := Lib.hid (Blk.grown (g := gh) (t := 72) (cs := hcells k us) (by repeat (first | with_reducible exact HH1.out | with_reducible refine Blk.alloc ?_ _ | with_reducible refine Blk.drew ?_)) hg3 (by simp [Value.ownBlock] <;> omega));
           have HS3 := Lib.hid (Blk.grown (g := gs) (t := 74) (cs := #[.int .i64 last]) (by repeat (first | with_reducible exact HS1.out | with_reducible refine Blk.alloc ?_ _ | with_reducible refine Blk.drew ?_)) hg3 (by simp [Value.ownBlock] <;> omega));
           have W3 : Hid (Below w1.heap.size w1 w3) := Lib.hid (Below.grown (by repeat (first | with_reducible exact Below.refl _ _ | with_reducible refine below_alloc_ ?_ _ | with_reducible refine Below.drew ?_)) hg3 (by simp <;> omega) (fun k e => by simp [Value.ownBlock] at e; omega));
           clear ho3 hg3 hat3 hrd hblk;
           obtain ⟨b0, b1⟩ := BX3.out.c2;
           have bl := BX3.out.lt)
        )
    obtain ⟨LA, hLA⟩ : ∃ LA, [last, hi] ++ ys = LA := ⟨_, rfl⟩
    obtain ⟨N, hN⟩ : ∃ N, 2 + m = N := ⟨_, rfl⟩
    have hlen : LA.length = N := by rw [← hLA, List.length_append, HM.out, ← hN]; rfl
    obtain ⟨T, hT⟩ : ∃ T, tops (max last hi) ys = T := ⟨_, rfl⟩
    have hTA : tops 0 LA = T := by rw [← hLA, tops_two last hi ys (by omega), hT]
    have RD3 : Hid (Reads w3 w3.heap.size 1 A' N (LA.map (Value.int .i64))) := Lib.hid (by rw [← hLA, ← hN]; simpa using RD.out)
    have hall := (tops_lt 0 (U - 1) LA).1
    have hall2 := (tops_lt 0 (U - 1) LA).2
    rw [hTA] at hall hall2
    have HA := Lib.hid hall; have HA2 := Lib.hid hall2
    have hs4 : (U - 1 ≤ T ∧ n = 0 ∧ E = 244 ∧ l = last) ∨ (T < U - 1 ∧ n = T + 1 ∧ E = 0 ∧ l = T + 1) := by
      have := HSI.out
      rw [hT] at this
      rcases this with ⟨_, _, a, b, c, d⟩ | ⟨_, _, a, b, c, d⟩
      · exact .inl ⟨a, b, c, d⟩
      · exact .inr ⟨a, b, c, d⟩
    have H4 := Lib.hid hs4
    have W0 : Hid (Below w.heap.size w w3) := Lib.hid (below_then K1.out W3.out)
    have HLN := Lib.hid hlen; have HTT := Lib.hid hT
    have hNb : N ≤ 1002 := by omega
    have HNM := Lib.hid hN
    have HL1 : Hid (∃ h : 1 < LA.length, LA[1] = hi) := Lib.hid (by subst hLA; exact ⟨by simp, rfl⟩)
    rw [hN]
    clear hLA hlen hT hTA hall hall2 hs4 HSI RD b0 b1 bl hN sl1
    go_wp2_with fail
    go_loopw [29] (fun si wr => ∃ q : Nat, q ≤ N ∧ si = .int .i64 q ∧ Hid (∀ i, ∀ h : i < LA.length, i < q → LA[i] < U - 1) ∧ Hid (Blk wr gh 72 (hcells k us)) ∧ Hid (Blk wr gs 74 #[.int .i64 last]) ∧ Hid (Blk wr w.heap.size 33 #[.int .i64 lo, .int .i64 hi]) ∧ Hid (Reads wr wr.heap.size 1 A' N (LA.map (Value.int .i64))) ∧ Hid (Below w.heap.size w wr)) (fun si _ => N - (intOf si).toNat)
    case atStart => exact ⟨0, Nat.zero_le _, rfl, Lib.hid (fun i h h0 => by omega), HH3, HS3, BX3, RD3, W0⟩
    case round =>
      clear HH3 HS3 BX3 RD3 W0 HH1 HS1 BX1 K1 W3
      obtain ⟨q, hq, rfl, HQ, HG, HSo, BXo, RDo, Wo⟩ := hrel
      obtain ⟨wo, rfl⟩ : ∃ wo, wo = wr := ⟨_, rfl⟩
      by_cases hlt : q < N
      · have hkl : q < LA.length := by rw [HLN.out]; exact hlt
        obtain ⟨ad, u, rfl, hadb, hx, hcell⟩ := RDo.out.at_ (k := q) hlt
        obtain rfl : Value.int .i64 LA[q] = u := by simpa [hkl] using hx
        clear hx
        obtain ⟨x, hx⟩ : ∃ x, LA[q] = x := ⟨_, rfl⟩
        have HXX := Lib.hid hx
        rw [hx] at hcell
        clear hx
        have hdm : decide ((q : Int) < 2 + (m : Int)) = true := by have := HNM.out; simp; omega
        by_cases hxu : U - 1 ≤ x
        · have hs4 := H4.out
          rcases hs4 with ⟨a, rfl, rfl, rfl⟩ | ⟨a, rfl, rfl, rfl⟩
          rotate_left
          · exfalso
            have := (HA.out a).2 q hkl
            rw [HXX.out] at this
            omega
          clear a
          have hd9 : decide (U - 1 ≤ x) = true := by simp; omega
          go_wp2_with (go_at_call 14; refine (until_any gh k us _ HL.out h1 h2 HG.out).mono ?_; rintro e w4 ⟨rfl, hb⟩; rw [HU.out])
          go_ret2
          exact ⟨rfl, Blk.below HSo.out hb HSo.out.lt, Keeps.of_below (below_then Wo.out hb)⟩
        · have hd9 : decide (U - 1 ≤ x) = false := by simp; omega
          have HXL : Hid (x < U - 1) := Lib.hid (by omega)
          go_wp2_with (go_at_call 14; refine (until_any gh k us _ HL.out h1 h2 HG.out).mono ?_; rintro e w4 ⟨rfl, hb⟩; rw [HU.out])
          go_roundw
          case rel => exact ⟨q + 1, by omega, by go_num, Lib.hid (fun i h h0 => by rcases (show i < q ∨ i = q by omega) with h8 | rfl; exact HQ.out i h h8; rw [HXX.out]; exact HXL.out), Lib.hid (Blk.below HG.out hb HG.out.lt), Lib.hid (Blk.below HSo.out hb HSo.out.lt), Lib.hid (Blk.below BXo.out hb BXo.out.lt), Lib.hid (Reads.kp (S := fun _ => False) RDo.out (.of_below hb) (fun _ _ h => h)), Lib.hid (below_then Wo.out hb)⟩
          case measure => simp [intOf]; omega
      · have hq2 : q = N := by omega
        have hTU : T < U - 1 := HA2.out ⟨by obtain ⟨h8, h9⟩ := HL1.out; have := HQ.out 1 h8 (by have := HLN.out; omega); rw [h9] at this; omega, fun i h => HQ.out i h (by have := HLN.out; omega)⟩
        have hs4 := H4.out
        rcases hs4 with ⟨a, rfl, rfl, rfl⟩ | ⟨a, rfl, rfl, rfl⟩
        · exfalso; omega
        obtain rfl : N = q := hq2.symm
        obtain ⟨b0, b1⟩ := BXo.out.c2
        have bl := BXo.out.lt
        have hd1 : decide ((N : Int) < (N : Int)) = false := by simp
        have hd2 : decide (N < N) = false := by simp
        have hdm : decide ((N : Int) < 2 + (m : Int)) = false := by have := HNM.out; simp; omega
        have HNX : Hid (NextIs last lo hi ys (T + 1) 0 (T + 1)) := Lib.hid (.inr (.inr ⟨⟨g1, g2, g3⟩, by rw [HTT.out]; omega, by rw [HTT.out], rfl, by rw [HTT.out]⟩))
        go_wp2_with (go_at_call 29; refine (next_any_n gs lo hi B d _ HM.out HSo.out (Reads.kp (S := fun _ => False) HR.out (.of_below Wo.out) (fun _ _ h => h)) (by omega) HNX.out).mono ?_; rintro e w4 ⟨rfl, hs4, hk4⟩)
        go_ret2
        exact ⟨rfl, hs4, Keeps.trans (.of_below Wo.out) hk4⟩
end Go.Proofs.Ytajojpfenlafbaa
