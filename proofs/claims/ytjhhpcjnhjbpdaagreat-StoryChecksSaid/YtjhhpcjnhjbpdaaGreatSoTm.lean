/- A copy of calls, and two that change places: memory. -/
import Derived.Test.YtjhhpcjnhjbpdaaGreatSoTp
set_option linter.unusedSimpArgs false
set_option linter.unusedVariables false
namespace Go.Proofs.YtjhhpcjnhjbpdaaGreat
open Go.RowKit Mo
theorem info_cl : (Tryz.prog.info? 36).map (fun i => (i.zero, i.size, i.bytes)) = some (some (.agg #[.int .i64 0, .int .i64 0, .int .i64 0, .int .i64 0, .int .i64 0, .int .i64 0, .int .i64 0, .int .i64 0]), 8, 64) := by kernel_rfl
theorem one_cl (l : List VCall20) : ∀ u ∈ l.flatMap VCall20.cells, u.oneCell' = true := by
  intro u hu
  obtain ⟨x, _, hx⟩ := List.mem_flatMap.1 hu
  simp [VCall20.cells] at hx
  rcases hx with rfl | rfl | rfl | rfl | rfl | rfl | rfl | rfl <;> rfl
theorem own_empty8 {w : World} {e : TypeId} {base b : Nat} (hb : w.heap.size = b) (h : base ≤ b) : (w.alloc (.cells #[] e)).ownsRow base e 8 (.slice (some ⟨b, 0, none⟩) 0 0) 0 [] := by
  subst hb
  exact World.ownsRow_made w #[] 0 h (by simp [maxLen]) rfl
/-- a block holds calls from its start on -/
structure HoldC (W : World) (g cap : Nat) (l : List VCall20) : Prop where
  ex : ∃ cs : Array Value, Blk W g 36 cs ∧ l.length ≤ cap ∧ ∀ (j : Nat) (u : Value), (l.flatMap VCall20.cells)[j]? = some u → cs[j]? = some u
theorem HoldC.of_own {W : World} {base : Nat} {v : Value} {l : List VCall20} (h : W.ownsRow base 36 8 v l.length (l.flatMap VCall20.cells)) (h0 : 0 < l.length) : ∃ g cap, v = .slice (some ⟨g, 0, none⟩) l.length cap ∧ base ≤ g ∧ HoldC W g cap l := by
  rcases h.2 with ⟨_, h⟩ | ⟨g, cap, cur, rfl, hb, hg, hc, _, _, ht⟩
  · omega
  · refine ⟨g, cap, rfl, hb, ⟨cur, hg, hc, fun j u hu => ?_⟩⟩
    rw [← ht, List.getElem?_take] at hu
    split at hu
    · rw [← hu]; simp
    · cases hu
theorem cells_len (l : List VCall20) : (l.flatMap VCall20.cells).length = l.length * 8 := flatMap_len _ _ 8 (fun _ => rfl)
theorem HoldC.reads {W : World} {g cap : Nat} {l : List VCall20} (h : HoldC W g cap l) : Reads W W.heap.size 8 (some ⟨g, 0, none⟩) l.length (l.flatMap VCall20.cells) := by
  obtain ⟨cs, hb, _, hc⟩ := h.ex
  refine ⟨cells_len l, fun _ => ⟨_, rfl, hb.lt, fun j u hu => ?_⟩⟩
  rw [Addr.add_lit, hb.cell]
  have := hc j u hu
  simpa using this
theorem HoldC.le {W : World} {g cap : Nat} {l : List VCall20} (h : HoldC W g cap l) : l.length ≤ cap := by obtain ⟨_, _, h, _⟩ := h.ex; exact h
theorem HoldC.lt {W : World} {g cap : Nat} {l : List VCall20} (h : HoldC W g cap l) : g < W.heap.size := by obtain ⟨_, hb, _, _⟩ := h.ex; exact hb.lt
theorem HoldC.frozen {W : World} {g cap : Nat} {l : List VCall20} (h : HoldC W g cap l) (i : Nat) : W.frozen? ⟨g, i, none⟩ = false := by obtain ⟨_, hb, _, _⟩ := h.ex; exact hb.frozen i
theorem HoldC.pass {W W' : World} {g cap : Nat} {l : List VCall20} (h : HoldC W g cap l) (hb : Below W.heap.size W W') : HoldC W' g cap l := by
  obtain ⟨cs, h1, h2, h3⟩ := h.ex
  exact ⟨cs, h1.below hb h1.lt, h2, h3⟩
theorem HoldC.drewN {W : World} {g cap : Nat} {l : List VCall20} (h : HoldC W g cap l) (n : Nat) : HoldC (W.drewN n) g cap l := by
  obtain ⟨cs, h1, h2, h3⟩ := h.ex
  exact ⟨cs, h1.drewN n, h2, h3⟩
theorem HoldC.far {W : World} {g cap : Nat} {l : List VCall20} (h : HoldC W g cap l) {p : Addr} (hp : g ≠ p.block) (u : Value) : HoldC (W.setCell p u) g cap l := by
  obtain ⟨cs, h1, h2, h3⟩ := h.ex
  exact ⟨cs, h1.far hp u, h2, h3⟩
theorem HoldC.alloc {W : World} {g cap : Nat} {l : List VCall20} (h : HoldC W g cap l) (o : Obj) : HoldC (W.alloc o) g cap l := by
  obtain ⟨cs, h1, h2, h3⟩ := h.ex
  exact ⟨cs, h1.alloc o, h2, h3⟩
/-- the cells of one of them -/
theorem HoldC.at {W : World} {g cap : Nat} {l : List VCall20} (h : HoldC W g cap l) {k : Nat} {x : VCall20} (hx : l[k]? = some x) :
    W.cell? ⟨g, k * 8, none⟩ = some (.int .i64 x.x_id) ∧ W.cell? ⟨g, k * 8 + 1, none⟩ = some (.int .i64 x.x_xf) ∧ W.cell? ⟨g, k * 8 + 2, none⟩ = some (.int .i64 x.x_xt) ∧ W.cell? ⟨g, k * 8 + 3, none⟩ = some (.int .i64 x.x_xn) ∧ W.cell? ⟨g, k * 8 + 4, none⟩ = some (.int .i64 x.fr) ∧ W.cell? ⟨g, k * 8 + 5, none⟩ = some (.int .i64 x.too) ∧ W.cell? ⟨g, k * 8 + 6, none⟩ = some (.int .i64 x.fate) ∧ W.cell? ⟨g, k * 8 + 7, none⟩ = some (.int .i64 x.tt) := by
  obtain ⟨cs, hb, _, hc⟩ := h.ex
  obtain ⟨hk, rfl⟩ := List.getElem?_eq_some_iff.1 hx
  have q := fun j (hj : j < 8) => (hc (k * 8 + j) _ ((flatMap_at l VCall20.cells 8 (fun _ => rfl) k j hk hj).trans (List.getElem?_eq_getElem (by exact hj))))
  refine ⟨?_, ?_, ?_, ?_, ?_, ?_, ?_, ?_⟩
  all_goals rw [hb.cell]
  · exact q 0 (by omega)
  · exact q 1 (by omega)
  · exact q 2 (by omega)
  · exact q 3 (by omega)
  · exact q 4 (by omega)
  · exact q 5 (by omega)
  · exact q 6 (by omega)
  · exact q 7 (by omega)
/-- one of them is stored -/
theorem HoldC.set_ {W : World} {g cap : Nat} {l : List VCall20} (h : HoldC W g cap l) {k : Nat} (hk : k < l.length) (x : VCall20) :
    HoldC ((((((((W.setCell ⟨g, k * 8, none⟩ (.int .i64 x.x_id)).setCell ⟨g, k * 8 + 1, none⟩ (.int .i64 x.x_xf)).setCell ⟨g, k * 8 + 2, none⟩ (.int .i64 x.x_xt)).setCell ⟨g, k * 8 + 3, none⟩ (.int .i64 x.x_xn)).setCell ⟨g, k * 8 + 4, none⟩ (.int .i64 x.fr)).setCell ⟨g, k * 8 + 5, none⟩ (.int .i64 x.too)).setCell ⟨g, k * 8 + 6, none⟩ (.int .i64 x.fate)).setCell ⟨g, k * 8 + 7, none⟩ (.int .i64 x.tt)) g cap (l.set k x) := by
  obtain ⟨cs, hb, hl, hc⟩ := h.ex
  refine ⟨_, (((((((hb.set_ _ _).set_ _ _).set_ _ _).set_ _ _).set_ _ _).set_ _ _).set_ _ _).set_ _ _, by rw [List.length_set]; exact hl, fun j u hu => ?_⟩
  have hjl : j < l.length * 8 := by
    have := (List.getElem?_eq_some_iff.1 hu).1
    rwa [cells_len, List.length_set] at this
  have hsz : k * 8 + 7 < cs.size := by
    have := hc (k * 8 + 7) _ (List.getElem?_eq_getElem (by rw [cells_len]; omega))
    exact (Array.getElem?_eq_some_iff.1 this).1
  have hq : j / 8 < (l.set k x).length := by rw [List.length_set]; omega
  have e : (j / 8) * 8 + j % 8 = j := by omega
  have hm : j % 8 < 8 := Nat.mod_lt _ (by omega)
  have hv := (flatMap_at (l.set k x) VCall20.cells 8 (fun _ => rfl) (j / 8) (j % 8) hq hm)
  rw [e, hu] at hv
  by_cases hjk : j / 8 = k
  · have hx : (l.set k x)[j / 8] = x := by simp [hjk]
    rw [hx] at hv
    rcases (show j = k * 8 ∨ j = k * 8 + 1 ∨ j = k * 8 + 2 ∨ j = k * 8 + 3 ∨ j = k * 8 + 4 ∨ j = k * 8 + 5 ∨ j = k * 8 + 6 ∨ j = k * 8 + 7 by omega) with h | h | h | h | h | h | h | h
    all_goals
      subst h
      first
        | rw [show (k * 8) % 8 = 0 by omega] at hv
        | rw [show (k * 8 + 1) % 8 = 1 by omega] at hv
        | rw [show (k * 8 + 2) % 8 = 2 by omega] at hv
        | rw [show (k * 8 + 3) % 8 = 3 by omega] at hv
        | rw [show (k * 8 + 4) % 8 = 4 by omega] at hv
        | rw [show (k * 8 + 5) % 8 = 5 by omega] at hv
        | rw [show (k * 8 + 6) % 8 = 6 by omega] at hv
        | rw [show (k * 8 + 7) % 8 = 7 by omega] at hv
      rw [hv]
      simp [Array.getElem?_setIfInBounds, VCall20.cells]
      omega
  · have hx : (l.set k x)[j / 8] = l[j / 8] := List.getElem_set_ne (Ne.symm hjk) _
    rw [hx] at hv
    have ho := flatMap_at l VCall20.cells 8 (fun _ => rfl) (j / 8) (j % 8) (by omega) hm
    rw [e] at ho
    have := hc j u (by rw [ho]; exact hv.symm)
    rw [← this]
    simp only [Array.getElem?_setIfInBounds]
    repeat rw [if_neg (by omega)]
theorem HoldC.set8 {W : World} {g cap : Nat} {l : List VCall20} (h : HoldC W g cap l) {k : Nat} (hk : k < l.length) (a0 a1 a2 a3 a4 a5 a6 a7 : Int) :
    HoldC ((((((((W.setCell ⟨g, k * 8, none⟩ (.int .i64 a0)).setCell ⟨g, k * 8 + 1, none⟩ (.int .i64 a1)).setCell ⟨g, k * 8 + 2, none⟩ (.int .i64 a2)).setCell ⟨g, k * 8 + 3, none⟩ (.int .i64 a3)).setCell ⟨g, k * 8 + 4, none⟩ (.int .i64 a4)).setCell ⟨g, k * 8 + 5, none⟩ (.int .i64 a5)).setCell ⟨g, k * 8 + 6, none⟩ (.int .i64 a6)).setCell ⟨g, k * 8 + 7, none⟩ (.int .i64 a7)) g cap (l.set k ⟨a0, a1, a2, a3, a4, a5, a6, a7⟩) :=
  h.set_ hk ⟨a0, a1, a2, a3, a4, a5, a6, a7⟩
theorem blk_far8 {W : World} {b g o : Nat} {T : TypeId} {cs : Array Value} (h : Blk W b T cs) (hp : b ≠ g) (u0 u1 u2 u3 u4 u5 u6 u7 : Value) :
    Blk ((((((((W.setCell ⟨g, o, none⟩ u0).setCell ⟨g, o + 1, none⟩ u1).setCell ⟨g, o + 2, none⟩ u2).setCell ⟨g, o + 3, none⟩ u3).setCell ⟨g, o + 4, none⟩ u4).setCell ⟨g, o + 5, none⟩ u5).setCell ⟨g, o + 6, none⟩ u6).setCell ⟨g, o + 7, none⟩ u7) b T cs :=
  (((((((h.far hp _).far hp _).far hp _).far hp _).far hp _).far hp _).far hp _).far hp _
theorem below_set8 {w W : World} {g o : Nat} (h : Below w.heap.size w W) (hp : w.heap.size ≤ g) (u0 u1 u2 u3 u4 u5 u6 u7 : Value) :
    Below w.heap.size w ((((((((W.setCell ⟨g, o, none⟩ u0).setCell ⟨g, o + 1, none⟩ u1).setCell ⟨g, o + 2, none⟩ u2).setCell ⟨g, o + 3, none⟩ u3).setCell ⟨g, o + 4, none⟩ u4).setCell ⟨g, o + 5, none⟩ u5).setCell ⟨g, o + 6, none⟩ u6).setCell ⟨g, o + 7, none⟩ u7) :=
  (((((((h.setCell hp _).setCell hp _).setCell hp _).setCell hp _).setCell hp _).setCell hp _).setCell hp _).setCell hp _
theorem set_get {l : List VCall20} {i k : Nat} {y : VCall20} (hi : i < l.length) (hk : l[k]? = some y) : (l.set i y)[k]? = some y := by
  by_cases h : i = k
  · subst h; rw [List.getElem?_set_self hi]
  · rw [List.getElem?_set_ne h]; exact hk
theorem check_fine {w W : World} {r : Nat} {A : Option Addr} {c : Nat} {ops : List VEntry} {B : Option Addr} {d n : Nat} {l : List VCall20} {F : Nat → Int → Option (Int × Int)} {R : List Int} {G : Nat → Int → Option (Int × Int)} {EE : Nat → Int} (h : StIn w r A c ops B d l) (k : StRun r ops l F R G EE) (hw : Below w.heap.size w W) (hn : l.length = n) {m : Nat} (hm : R.length = m) (hf : Fine r ops l R EE) :
    Calls Tryz.prog 7 #[.float .f64 r, .slice A ops.length c, .slice B n d] W fun e w' => e = .returned (.tuple #[.int .i64 m, .int .i64 0]) ∧ Below W.heap.size W w' := by
  subst hn
  refine (h.check k hw).mono ?_
  rintro e w' ⟨V, E, rfl, hs, hb⟩
  obtain ⟨rfl, rfl⟩ := chk_of_fine hs hf
  rw [hm]
  exact ⟨rfl, hb⟩
def BadOut (w : World) (e : Ending) (w' : World) : Prop := ∃ V E : Int, e = .returned (.tuple #[.int .i64 V, .int .i64 E]) ∧ E ≠ 0 ∧ Below w.heap.size w w'
theorem check_unfine {w W : World} {r : Nat} {A : Option Addr} {c : Nat} {ops : List VEntry} {B : Option Addr} {d n : Nat} {l : List VCall20} {F : Nat → Int → Option (Int × Int)} {R : List Int} {G : Nat → Int → Option (Int × Int)} {EE : Nat → Int} (h : StIn w r A c ops B d l) (k : StRun r ops l F R G EE) (hw : Below w.heap.size w W) (hn : l.length = n) (hf : ¬ Fine r ops l R EE) :
    Calls Tryz.prog 7 #[.float .f64 r, .slice A ops.length c, .slice B n d] W (BadOut W) := by
  subst hn
  refine (h.check k hw).mono ?_
  rintro e w' ⟨V, E, rfl, hs, hb⟩
  refine ⟨V, E, rfl, fun h0 => ?_, hb⟩
  subst h0
  exact hf (fine_of_chk hs)
theorem max_in : inT 1125899906842624 = true := inT_iff.2 ⟨by simp, by simp⟩
def LstOut (L : List (Int × Int)) (w : World) (e : Ending) (w' : World) : Prop := ∃ A c, e = .returned (.tuple #[.slice A L.length c, .int .i64 0]) ∧ Reads w' w'.heap.size 2 A L.length (L.flatMap eC) ∧ Below w.heap.size w w'
theorem at_fine_t {w W : World} {r : Nat} {A : Option Addr} {c : Nat} {ops : List VEntry} {B : Option Addr} {d n : Nat} {l : List VCall20} {F : Nat → Int → Option (Int × Int)} {R : List Int} {G : Nat → Int → Option (Int × Int)} {EE : Nat → Int} (h : StIn w r A c ops B d l) (k : StRun r ops l F R G EE) (hw : Below w.heap.size w W) (hn : l.length = n) {g : Acc} (hg : G R.length = g) (hf : Fine r ops l R EE) {t : Int} (ht : inT t = true) (hu : UpTo l R t R.length) :
    Calls Tryz.prog 10 #[.float .f64 r, .slice A ops.length c, .slice B n d, .int .i64 t] W (LstOut (ents g) W) := by
  subst hn
  refine (h.at k hw hu).mono ?_
  rintro e w' ⟨Aa, ca, L, E, rfl, hr, hs, _, hb⟩
  have hEL : E = 0 ∧ L = ents (G R.length) := by
    rcases hs with ⟨V, h1, h2, _⟩ | ⟨V, _, ⟨h2, _⟩ | ⟨_, h2, h3⟩⟩
    · exact absurd (chk_of_fine h1 hf).2 h2
    · exact absurd (h2.symm.trans ht) (by decide)
    · exact ⟨h2, h3⟩
  rw [hg] at hEL
  obtain ⟨hE, hL⟩ := hEL
  clear hs
  rw [hE, hL]
  rw [hL] at hr
  exact ⟨Aa, ca, rfl, hr, hb⟩
theorem at_fine {w W : World} {r : Nat} {A : Option Addr} {c : Nat} {ops : List VEntry} {B : Option Addr} {d n : Nat} {l : List VCall20} {F : Nat → Int → Option (Int × Int)} {R : List Int} {G : Nat → Int → Option (Int × Int)} {EE : Nat → Int} (h : StIn w r A c ops B d l) (k : StRun r ops l F R G EE) (hw : Below w.heap.size w W) (hn : l.length = n) {g : Acc} (hg : G R.length = g) (hf : Fine r ops l R EE) :
    Calls Tryz.prog 10 #[.float .f64 r, .slice A ops.length c, .slice B n d, .int .i64 1125899906842624] W (LstOut (ents g) W) :=
  at_fine_t h k hw hn hg hf max_in (fine_upto k.o hf)
def NilOut (w : World) (e : Ending) (w' : World) : Prop := ∃ A c, ∃ E : Int, e = .returned (.tuple #[.slice A 0 c, .int .i64 E]) ∧ E ≠ 0 ∧ Reads w' w'.heap.size 2 A 0 (([] : List (Int × Int)).flatMap eC) ∧ Below w.heap.size w w'
theorem at_unfine {w W : World} {r : Nat} {A : Option Addr} {c : Nat} {ops : List VEntry} {B : Option Addr} {d n : Nat} {l : List VCall20} {F : Nat → Int → Option (Int × Int)} {R : List Int} {G : Nat → Int → Option (Int × Int)} {EE : Nat → Int} (h : StIn w r A c ops B d l) (k : StRun r ops l F R G EE) (hw : Below w.heap.size w W) (hn : l.length = n) (hf : ¬ Fine r ops l R EE) (t : Int) :
    Calls Tryz.prog 10 #[.float .f64 r, .slice A ops.length c, .slice B n d, .int .i64 t] W (NilOut W) := by
  subst hn
  obtain ⟨k0, hk0⟩ := upTo_ex k.o t
  refine (h.at k hw hk0).mono ?_
  rintro e w' ⟨Aa, ca, L, E, rfl, hr, hs, _, hb⟩
  rcases hs with ⟨V, h1, h2, rfl⟩ | ⟨V, h1, _⟩
  · exact ⟨Aa, ca, E, rfl, h2, hr, hb⟩
  · exact absurd (fine_of_chk h1) hf
end Go.Proofs.YtjhhpcjnhjbpdaaGreat
