/- The document's clock, told by a clock: Set and Now for whatever list. -/
import Derived.Test.YtdemonageoagiaaCkQ6
set_option linter.unusedSimpArgs false
set_option linter.unusedVariables false
namespace Go.Proofs.Ytdemonageoagiaa
open Go.RowKit Mo
def tkSet (k : Ck) (L : List Tk) (h t e : Int) : List Tk := if ckSetE k h t e = 0 then L ++ [⟨h, true, t, e, 0⟩] else L
def tkNow (k : Ck) (L : List Tk) (h : Int) : List Tk := if ckNowE k h = 0 then L ++ [⟨h, false, 0, 0, ckLo k h⟩] else L
theorem rset_tells {k : Ck} {L : List Tk} (T : Tells k L) (r : Nat) (A : Option Addr) (c : Nat) (h t e : Int) (w : World) (hr : TkAt w A L) (hm : L.length ≤ 99) :
    Calls Try.prog 13 #[.agg #[.float .f64 r, .slice A L.length c], .int .i64 h, .int .i64 t, .int .i64 e] w (RSet w A r (tkSet k L h t e) (ckSetE k h t e)) := by
  unfold tkSet
  rcases tells_setE T h t e with ⟨h1, h2⟩ | ⟨x0, x1, x2, ⟨h1, m, x, h2, h3, h4⟩ | ⟨h1, h2⟩⟩
  · rw [h1, if_neg (by decide)]
    exact rset_time r A _ c L h t e w rfl hr h2
  · rw [h1, if_neg (by decide), h2]
    exact rset_back r A m c L x h3 h t e h4 w h2 hr (by omega) x0 x1 x2
  · rw [h1, if_pos rfl]
    rcases h2 with h2 | ⟨m, x, h2, h3, h4⟩
    · exact rset_ok r A _ c L h t e w rfl hr (by omega) h2 x0 x1 x2
    · rw [h2]
      exact rset_ok1 r A m c L x h3 h t e h4 w h2 hr (by omega) x0 x1 x2
theorem rnow_tells {k : Ck} {L : List Tk} (T : Tells k L) (A : Option Addr) (c : Nat) (h : Int) (w : World) (hr : TkAt w A L) (hm : L.length ≤ 99) :
    Calls Try.prog 15 #[.agg #[.float .f64 k.rt, .slice A L.length c], .int .i64 h] w (RNow w A k.rt (tkNow k L h) (ckLo k h) (ckHi k h) (ckNowE k h)) := by
  unfold tkNow
  have zero : ckNowE k h ≠ 0 → ckLo k h = 0 ∧ ckHi k h = 0 := fun hE => ⟨by unfold ckLo; rw [if_neg hE], by unfold ckHi; rw [if_neg hE]⟩
  cases x0 : inT h
  · have hE : ckNowE k h = 61 := by unfold ckNowE; rw [if_neg (by rw [x0]; decide)]
    obtain ⟨z1, z2⟩ := zero (by rw [hE]; decide)
    rw [z1, z2, hE, if_neg (by decide)]
    exact rnow_time k.rt A _ c L h w rfl hr x0
  · obtain ⟨h0, h1⟩ := inT_iff.1 x0
    rcases T.st with ⟨s1, s2⟩ | ⟨s1, a, b, s2, s3, s4, s5, s6, s7⟩
    · have hE : ckNowE k h = 63 := by unfold ckNowE; rw [if_pos x0, if_neg (by rw [s1]; decide)]
      obtain ⟨z1, z2⟩ := zero (by rw [hE]; decide)
      rw [z1, z2, hE, if_neg (by decide)]
      exact rnow_none k.rt A _ c L h w rfl hr (by omega) x0 s2
    · obtain ⟨m, hl⟩ : ∃ m, L.length = m + 1 := ⟨L.length - 1, by omega⟩
      have hx : L[m]? = some L[m] := List.getElem?_eq_getElem (by omega)
      have hla := T.la L[m] (by rw [List.getLast?_eq_getElem?, show L.length - 1 = m by omega]; exact hx)
      have k0 := T.ok.h0; have k1 := T.ok.h1; have k3 := T.ok.t0; have k4 := T.ok.t1; have k5 := T.ok.e0; have k6 := T.ok.e1; have k7 := T.ok.f0; have k8 := T.ok.f1
      have hfl := T.fl
      rw [hl] at s2 hfl
      by_cases c1 : h < k.la
      · have hE : ckNowE k h = 62 := by unfold ckNowE; rw [if_pos x0, if_pos s1, if_pos c1]
        obtain ⟨z1, z2⟩ := zero (by rw [hE]; decide)
        rw [z1, z2, hE, if_neg (by decide), hl]
        exact rnow_back k.rt A m c L _ hx h (by omega) w hl hr (by omega) x0 a s2
      · by_cases c2 : 1125899906842624 < k.bt + (h - k.bh)
        · have hE : ckNowE k h = 64 := by unfold ckNowE; rw [if_pos x0, if_pos s1, if_neg c1, if_pos c2]
          obtain ⟨z1, z2⟩ := zero (by rw [hE]; decide)
          rw [z1, z2, hE, if_neg (by decide), hl]
          exact rnow_full k.rt A m c L _ hx h (by omega) w hl hr (by omega) x0 a s2 (by omega) b s4 (by omega) (by omega) (by omega) (by omega) (by omega)
        · have hE : ckNowE k h = 0 := ckNowE_zero h0 h1 s1 (by omega) (by omega)
          have e1 := ckLo_is k h hE
          have e2 := ckHi_is k h hE
          have hD0 : 0 ≤ ckD k h := by unfold ckD; omega
          rw [hE, if_pos rfl, hl]
          refine rnow_ok k.rt A m c L _ hx h (by omega) w hl hr (by omega) x0 a s2 (by omega) b s4 (by omega) (by omega) (by omega) (by omega) (by omega) (by omega) (by omega) k.fl (ckD k h) hfl k7 k8 T.ok.r (by unfold ckD; rw [s5]) (ckLo k h) (ckHi k h) ?_ ?_
          · rw [e1, s5, s6, s7]
            generalize k.bt + (h - k.bh) - k.be = X
            generalize ckD k h = D at *
            omega
          · rw [e2, s5, s6, s7]
            generalize ckLo k h = l
            generalize k.bt + (h - k.bh) + k.be = X
            generalize ckD k h = D at *
            omega
end Go.Proofs.Ytdemonageoagiaa
