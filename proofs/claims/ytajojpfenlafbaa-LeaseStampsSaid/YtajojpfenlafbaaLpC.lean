/- Leases in plays: what memory holds, and how it is kept. -/
import Derived.Test.YtajojpfenlafbaaLpB
import Derived.Test.YtajojpfenlafbaaCkB
import Derived.Test.YtajojpfenlafbaaCkI
set_option linter.unusedSimpArgs false
set_option linter.unusedVariables false
namespace Go.Proofs.Ytajojpfenlafbaa
open Go.RowKit Mo
theorem Fam.add {w W0 W : World} {b k n : Nat} {TA T : TypeId} {g : Nat → Nat} {cs : Nat → Array Value} (F : Fam w W0 b TA T k n g cs) (hT : TA ≠ T) (hb : Below W0.heap.size W0 W) {x : Nat} (hx : W0.heap.size ≤ x) (hw : w.heap.size ≤ W0.heap.size) (hc : Blk W x T (cs k)) (hn : k < n) :
    Fam w (W.setCell ⟨b, k, none⟩ (.pointer (some ⟨x, 0, none⟩))) b TA T (k + 1) n (upd g k x) cs := by
  have h := F.put hT hb hx hw hc (Nat.le_refl k) hn
  rw [if_pos rfl] at h
  have e : upd cs k (cs k) = cs := by funext i; unfold upd; split; rename_i h; rw [h]; rfl
  rwa [e] at h
theorem Fam.add2 {w W : World} {b k n : Nat} {TA T : TypeId} {g : Nat → Nat} {cs : Nat → Array Value} (F : Fam w W b TA T k n g cs) (hT : TA ≠ T) {x : Nat} (hlt : ∀ j, j < k → g j < x) (hx : w.heap.size ≤ x) (hc : Blk W x T (cs k)) (hn : k < n) :
    Fam w (W.setCell ⟨b, k, none⟩ (.pointer (some ⟨x, 0, none⟩))) b TA T (k + 1) n (upd g k x) cs := by
  refine ⟨?_, ?_, ?_, ?_, F.lb⟩
  · have h := F.a.set_ k (.pointer (some ⟨x, 0, none⟩))
    rw [parr_set g k n k x (Nat.le_refl _) hn, if_pos rfl] at h
    exact h
  · intro j hj
    by_cases e : j = k
    · subst e
      rw [upd_same]
      exact Blk.far hc (Blk.ne_type hc F.a hT.symm) _
    · rw [upd_ne _ _ _ _ e]
      exact Blk.far (F.o j (by omega)) (Blk.ne_type (F.o j (by omega)) F.a hT.symm) _
  · intro i j hi hj e
    by_cases ei : i = k
    · subst ei
      by_cases ej : j = i
      · exact ej.symm
      · rw [upd_same, upd_ne _ _ _ _ ej] at e
        have := hlt j (by omega)
        omega
    · by_cases ej : j = k
      · subst ej
        rw [upd_same, upd_ne _ _ _ _ ei] at e
        have := hlt i (by omega)
        omega
      · rw [upd_ne _ _ _ _ ei, upd_ne _ _ _ _ ej] at e
        exact F.inj i j (by omega) (by omega) e
  · intro j hj
    by_cases e : j = k
    · subst e; rw [upd_same]; exact hx
    · rw [upd_ne _ _ _ _ e]; exact F.lo j (by omega)
/-- two new objects, laid at once -/
theorem init_two {w W : World} {bc bd bv bh bs i : Nat} {gc gv gh gs : Nat → Nat} {cc cv ch cs' : Nat → Array Value} {cd : Array Value} (FC : Fam w W bc 82 105 8 8 gc cc) (FV : Fam w W bv 84 80 5 5 gv cv) (FH : Fam w W bh 85 72 i 3 gh ch) (FS : Fam w W bs 86 74 i 3 gs cs') (FD : Blk W bd 83 cd) (FB : Below w.heap.size w W) (hi : i < 3) :
    ∃ gh' gs', Fam w ((((W.setCell ⟨bh, i, none⟩ (.pointer (some ⟨W.heap.size, 0, none⟩))).setCell ⟨bs, i, none⟩ (.pointer (some ⟨W.heap.size + 1, 0, none⟩))).alloc (.cells (ch i) 72)).alloc (.cells (cs' i) 74)).drew bc 82 105 8 8 gc cc ∧
      Fam w ((((W.setCell ⟨bh, i, none⟩ (.pointer (some ⟨W.heap.size, 0, none⟩))).setCell ⟨bs, i, none⟩ (.pointer (some ⟨W.heap.size + 1, 0, none⟩))).alloc (.cells (ch i) 72)).alloc (.cells (cs' i) 74)).drew bv 84 80 5 5 gv cv ∧
      Fam w ((((W.setCell ⟨bh, i, none⟩ (.pointer (some ⟨W.heap.size, 0, none⟩))).setCell ⟨bs, i, none⟩ (.pointer (some ⟨W.heap.size + 1, 0, none⟩))).alloc (.cells (ch i) 72)).alloc (.cells (cs' i) 74)).drew bh 85 72 (i + 1) 3 gh' ch ∧
      Fam w ((((W.setCell ⟨bh, i, none⟩ (.pointer (some ⟨W.heap.size, 0, none⟩))).setCell ⟨bs, i, none⟩ (.pointer (some ⟨W.heap.size + 1, 0, none⟩))).alloc (.cells (ch i) 72)).alloc (.cells (cs' i) 74)).drew bs 86 74 (i + 1) 3 gs' cs' ∧
      Blk ((((W.setCell ⟨bh, i, none⟩ (.pointer (some ⟨W.heap.size, 0, none⟩))).setCell ⟨bs, i, none⟩ (.pointer (some ⟨W.heap.size + 1, 0, none⟩))).alloc (.cells (ch i) 72)).alloc (.cells (cs' i) 74)).drew bd 83 cd ∧
      Below w.heap.size w ((((W.setCell ⟨bh, i, none⟩ (.pointer (some ⟨W.heap.size, 0, none⟩))).setCell ⟨bs, i, none⟩ (.pointer (some ⟨W.heap.size + 1, 0, none⟩))).alloc (.cells (ch i) 72)).alloc (.cells (cs' i) 74)).drew := by
  have b3 := FH.a.lt; have b4 := FS.a.lt
  have hsz := FB.size
  have e : ((((W.setCell ⟨bh, i, none⟩ (.pointer (some ⟨W.heap.size, 0, none⟩))).setCell ⟨bs, i, none⟩ (.pointer (some ⟨W.heap.size + 1, 0, none⟩))).alloc (.cells (ch i) 72)).alloc (.cells (cs' i) 74)) = ((((W.alloc (.cells (ch i) 72)).alloc (.cells (cs' i) 74)).setCell ⟨bh, i, none⟩ (.pointer (some ⟨W.heap.size, 0, none⟩))).setCell ⟨bs, i, none⟩ (.pointer (some ⟨W.heap.size + 1, 0, none⟩))) := by
    rw [World.setCell_alloc_past _ bh i _ (by simp; omega), World.setCell_alloc_past _ bh i _ b3, World.setCell_alloc_past _ bs i _ (by simp; omega), World.setCell_alloc_past _ bs i _ (by simp; omega)]
  rw [e]
  have hb : Below W.heap.size W ((W.alloc (.cells (ch i) 72)).alloc (.cells (cs' i) 74)) := below_alloc_ (below_alloc_ (Below.refl _ _) _) _
  have H2 := FH.pass hb; have S2 := FS.pass hb; have C2 := FC.pass hb; have V2 := FV.pass hb
  have D2 := Blk.below FD hb FD.lt
  have H3 := H2.add2 (by decide) (x := W.heap.size) (fun j hj => (FH.o j hj).lt) hsz ((Blk.new W _ _).alloc _) hi
  have k3 : Keeps (· = bh) ((W.alloc (.cells (ch i) 72)).alloc (.cells (cs' i) 74)) (((W.alloc (.cells (ch i) 72)).alloc (.cells (cs' i) 74)).setCell ⟨bh, i, none⟩ (.pointer (some ⟨W.heap.size, 0, none⟩))) := Keeps.set_ (S := (· = bh)) (Keeps.refl _ _) (Or.inl rfl) _
  have S3 := S2.other H2.a (by decide) (by decide) k3
  have C3 := C2.other H2.a (by decide) (by decide) k3
  have V3 := V2.other H2.a (by decide) (by decide) k3
  have D3 := D2.keeps k3 (Blk.ne_type D2 H2.a (by decide))
  have hS : Blk (((W.alloc (.cells (ch i) 72)).alloc (.cells (cs' i) 74)).setCell ⟨bh, i, none⟩ (.pointer (some ⟨W.heap.size, 0, none⟩))) (W.heap.size + 1) 74 (cs' i) := Blk.far (Blk.new' (by simp)) (by simp; omega) _
  have S4 := S3.add2 (by decide) (x := W.heap.size + 1) (fun j hj => Nat.lt_succ_of_lt (FS.o j hj).lt) (by omega) hS hi
  have k4 : Keeps (· = bs) (((W.alloc (.cells (ch i) 72)).alloc (.cells (cs' i) 74)).setCell ⟨bh, i, none⟩ (.pointer (some ⟨W.heap.size, 0, none⟩))) ((((W.alloc (.cells (ch i) 72)).alloc (.cells (cs' i) 74)).setCell ⟨bh, i, none⟩ (.pointer (some ⟨W.heap.size, 0, none⟩))).setCell ⟨bs, i, none⟩ (.pointer (some ⟨W.heap.size + 1, 0, none⟩))) := Keeps.set_ (S := (· = bs)) (Keeps.refl _ _) (Or.inl rfl) _
  have hd : ∀ X : World, Below X.heap.size X X.drew := fun X => Below.drew (Below.refl _ _)
  exact ⟨_, _, (C3.other S3.a (by decide) (by decide) k4).pass (hd _), (V3.other S3.a (by decide) (by decide) k4).pass (hd _), (H3.other S3.a (by decide) (by decide) k4).pass (hd _), S4.pass (hd _), (D3.keeps k4 (Blk.ne_type D3 S3.a (by decide))).drew, Below.drew (below_set_ (below_set_ (below_alloc_ (below_alloc_ FB _) _) FH.lb _) FS.lb _)⟩
theorem parr_nil {W : World} {b : Nat} {T : TypeId} {g : Nat → Nat} {k n : Nat} (h : Blk W b T (parr g k n)) (i : Nat) (hi : k ≤ i) (hk : i < n) : W.cell? ⟨b, i, none⟩ = some (.pointer none) := by
  rw [h.cell i]
  unfold parr
  simp only [List.getElem?_toArray, List.getElem?_map]
  rw [List.getElem?_range (by omega)]
  simp [Nat.not_lt.2 hi]
theorem upd_map {α β : Type} (F : α → β) (f : Nat → α) (k : Nat) (x : α) : upd (fun i => F (f i)) k (F x) = fun i => F (upd f k x i) := by
  funext i; unfold upd; split <;> rfl
theorem upd_map2 {α β γ : Type} (F : α → β → γ) (f : Nat → α) (g : Nat → β) (k : Nat) (x : α) (y : β) : upd (fun i => F (f i) (g i)) k (F x y) = fun i => F (upd f k x i) (upd g k y i) := by
  funext i; unfold upd; split <;> rfl
/-- all objects of a play -/
structure PSt (w W : World) (n bc bd bv bh bs : Nat) (gc gv gh gs : Nat → Nat) (ck : Nat → Ck) (rd : List Int) (vL vU : Nat → Int) (us : Nat → List Int) (la : Nat → Int) : Prop where
  c : Fam w W bc 82 105 8 8 gc (fun i => (ck i).cells)
  v : Fam w W bv 84 80 5 5 gv (fun i => #[.int .i64 (vL i), .int .i64 (vU i)])
  h : Fam w W bh 85 72 3 3 gh (fun i => hcells n (us i))
  s : Fam w W bs 86 74 3 3 gs (fun i => #[.int .i64 (la i)])
  d : Blk W bd 83 (arr rd)
  db : w.heap.size ≤ bd
  b : Below w.heap.size w W
variable {w W W2 : World} {n bc bd bv bh bs : Nat} {gc gv gh gs : Nat → Nat} {ck : Nat → Ck} {rd : List Int} {vL vU : Nat → Int} {us : Nat → List Int} {la : Nat → Int}
theorem PSt.pass (P : PSt w W n bc bd bv bh bs gc gv gh gs ck rd vL vU us la) (hb : Below W.heap.size W W2) : PSt w W2 n bc bd bv bh bs gc gv gh gs ck rd vL vU us la :=
  ⟨P.c.pass hb, P.v.pass hb, P.h.pass hb, P.s.pass hb, Blk.below P.d hb P.d.lt, P.db, below_then P.b hb⟩
theorem PSt.drew (P : PSt w W n bc bd bv bh bs gc gv gh gs ck rd vL vU us la) : PSt w W.drew n bc bd bv bh bs gc gv gh gs ck rd vL vU us la := P.pass (Below.drew (Below.refl _ _))
theorem PSt.drewN (P : PSt w W n bc bd bv bh bs gc gv gh gs ck rd vL vU us la) (k : Nat) : PSt w (W.drewN k) n bc bd bv bh bs gc gv gh gs ck rd vL vU us la := P.pass (below_drewN_ (Below.refl _ _) k)
theorem PSt.alloc (P : PSt w W n bc bd bv bh bs gc gv gh gs ck rd vL vU us la) (o : Obj) : PSt w (W.alloc o) n bc bd bv bh bs gc gv gh gs ck rd vL vU us la := P.pass (below_alloc_ (Below.refl _ _) o)
/-- a store elsewhere: into a block of another type -/
theorem PSt.far (P : PSt w W n bc bd bv bh bs gc gv gh gs ck rd vL vU us la) {x : Nat} {T : TypeId} {xs : Array Value} (hx : Blk W x T xs) (hT : T ≠ 82 ∧ T ≠ 105 ∧ T ≠ 84 ∧ T ≠ 80 ∧ T ≠ 85 ∧ T ≠ 72 ∧ T ≠ 86 ∧ T ≠ 74 ∧ T ≠ 83) (hw : w.heap.size ≤ x) (o : Nat) (u : Value) : PSt w (W.setCell ⟨x, o, none⟩ u) n bc bd bv bh bs gc gv gh gs ck rd vL vU us la := by
  have hk : Keeps (· = x) W (W.setCell ⟨x, o, none⟩ u) := Keeps.set_ (S := (· = x)) (Keeps.refl _ _) (Or.inl rfl) _
  obtain ⟨h1, h2, h3, h4, h5, h6, h7, h8, h9⟩ := hT
  exact ⟨P.c.other hx h2 h1 hk, P.v.other hx h4 h3 hk, P.h.other hx h6 h5 hk, P.s.other hx h8 h7 hk, P.d.keeps hk (Blk.ne_type P.d hx h9.symm), P.db, below_set_ P.b hw _⟩
theorem PSt.clk (P : PSt w W n bc bd bv bh bs gc gv gh gs ck rd vL vU us la) {i : Nat} (hi : i < 8) {c' : Ck} (hk : Keeps (· = gc i) W W2) (hc : Blk W2 (gc i) 105 c'.cells) : PSt w W2 n bc bd bv bh bs gc gv gh gs (upd ck i c') rd vL vU us la := by
  have hx := P.c.o i hi
  refine ⟨?_, P.v.other hx (by decide) (by decide) hk, P.h.other hx (by decide) (by decide) hk, P.s.other hx (by decide) (by decide) hk, P.d.keeps hk (Blk.ne_type P.d hx (by decide)), P.db, below_kp P.b hk (P.c.lo i hi)⟩
  have h := P.c.one (by decide) hi hk hc
  rwa [upd_map Ck.cells ck i c'] at h
theorem PSt.vot (P : PSt w W n bc bd bv bh bs gc gv gh gs ck rd vL vU us la) {i : Nat} (hi : i < 5) {L U : Int} (hk : Keeps (· = gv i) W W2) (hc : Blk W2 (gv i) 80 #[.int .i64 L, .int .i64 U]) : PSt w W2 n bc bd bv bh bs gc gv gh gs ck rd (upd vL i L) (upd vU i U) us la := by
  have hx := P.v.o i hi
  refine ⟨P.c.other hx (by decide) (by decide) hk, ?_, P.h.other hx (by decide) (by decide) hk, P.s.other hx (by decide) (by decide) hk, P.d.keeps hk (Blk.ne_type P.d hx (by decide)), P.db, below_kp P.b hk (P.v.lo i hi)⟩
  have h := P.v.one (by decide) hi hk hc
  rwa [upd_map2 (fun a b : Int => #[Value.int .i64 a, .int .i64 b]) vL vU i L U] at h
theorem PSt.hol (P : PSt w W n bc bd bv bh bs gc gv gh gs ck rd vL vU us la) {i : Nat} (hi : i < 3) {u' : List Int} (hk : Keeps (· = gh i) W W2) (hc : Blk W2 (gh i) 72 (hcells n u')) : PSt w W2 n bc bd bv bh bs gc gv gh gs ck rd vL vU (upd us i u') la := by
  have hx := P.h.o i hi
  refine ⟨P.c.other hx (by decide) (by decide) hk, P.v.other hx (by decide) (by decide) hk, ?_, P.s.other hx (by decide) (by decide) hk, P.d.keeps hk (Blk.ne_type P.d hx (by decide)), P.db, below_kp P.b hk (P.h.lo i hi)⟩
  have h := P.h.one (by decide) hi hk hc
  rwa [upd_map (hcells n) us i u'] at h
theorem PSt.src (P : PSt w W n bc bd bv bh bs gc gv gh gs ck rd vL vU us la) {i : Nat} (hi : i < 3) {l : Int} (hk : Keeps (· = gs i) W W2) (hc : Blk W2 (gs i) 74 #[.int .i64 l]) : PSt w W2 n bc bd bv bh bs gc gv gh gs ck rd vL vU us (upd la i l) := by
  have hx := P.s.o i hi
  refine ⟨P.c.other hx (by decide) (by decide) hk, P.v.other hx (by decide) (by decide) hk, P.h.other hx (by decide) (by decide) hk, ?_, P.d.keeps hk (Blk.ne_type P.d hx (by decide)), P.db, below_kp P.b hk (P.s.lo i hi)⟩
  have h := P.s.one (by decide) hi hk hc
  rwa [upd_map (fun a : Int => #[Value.int .i64 a]) la i l] at h
theorem PSt.rds (P : PSt w W n bc bd bv bh bs gc gv gh gs ck rd vL vU us la) (i : Nat) (x : Int) : PSt w (W.setCell ⟨bd, i, none⟩ (.int .i64 x)) n bc bd bv bh bs gc gv gh gs ck (rd.set i x) vL vU us la := by
  have hk : Keeps (· = bd) W (W.setCell ⟨bd, i, none⟩ (.int .i64 x)) := Keeps.set_ (S := (· = bd)) (Keeps.refl _ _) (Or.inl rfl) _
  refine ⟨P.c.other P.d (by decide) (by decide) hk, P.v.other P.d (by decide) (by decide) hk, P.h.other P.d (by decide) (by decide) hk, P.s.other P.d (by decide) (by decide) hk, ?_, P.db, below_set_ P.b P.db _⟩
  have h := P.d.set_ i (.int .i64 x)
  rwa [arr_set] at h
theorem PSt.newv (P : PSt w W n bc bd bv bh bs gc gv gh gs ck rd vL vU us la) {i x : Nat} (hi : i < 5) {L U : Int} (hb : Below W.heap.size W W2) (hx : W.heap.size ≤ x) (hc : Blk W2 x 80 #[.int .i64 L, .int .i64 U]) : PSt w (W2.setCell ⟨bv, i, none⟩ (.pointer (some ⟨x, 0, none⟩))) n bc bd bv bh bs gc (upd gv i x) gh gs ck rd (upd vL i L) (upd vU i U) us la := by
  have Q := P.pass hb
  have hk : Keeps (· = bv) W2 (W2.setCell ⟨bv, i, none⟩ (.pointer (some ⟨x, 0, none⟩))) := Keeps.set_ (S := (· = bv)) (Keeps.refl _ _) (Or.inl rfl) _
  refine ⟨Q.c.other Q.v.a (by decide) (by decide) hk, ?_, Q.h.other Q.v.a (by decide) (by decide) hk, Q.s.other Q.v.a (by decide) (by decide) hk, Q.d.keeps hk (Blk.ne_type Q.d Q.v.a (by decide)), Q.db, below_set_ Q.b Q.v.lb _⟩
  have h := P.v.put (by decide) hb hx P.b.size hc (Nat.le_of_lt hi) hi
  rw [if_neg (by omega)] at h
  rwa [upd_map2 (fun a b : Int => #[Value.int .i64 a, .int .i64 b]) vL vU i L U] at h
/-- eight spans -/
def narr (lo hi : Nat → Int) : Array Value := #[.int .i64 (lo 0), .int .i64 (hi 0), .int .i64 (lo 1), .int .i64 (hi 1), .int .i64 (lo 2), .int .i64 (hi 2), .int .i64 (lo 3), .int .i64 (hi 3), .int .i64 (lo 4), .int .i64 (hi 4), .int .i64 (lo 5), .int .i64 (hi 5), .int .i64 (lo 6), .int .i64 (hi 6), .int .i64 (lo 7), .int .i64 (hi 7)]
theorem narr_at {W : World} {b : Nat} {T : TypeId} {lo hi : Nat → Int} (h : Blk W b T (narr lo hi)) (i : Nat) (hi8 : i < 8) : W.cell? ⟨b, i * 2, none⟩ = some (.int .i64 (lo i)) ∧ W.cell? ⟨b, i * 2 + 1, none⟩ = some (.int .i64 (hi i)) := by
  rw [h.cell, h.cell]
  rcases (show i = 0 ∨ i = 1 ∨ i = 2 ∨ i = 3 ∨ i = 4 ∨ i = 5 ∨ i = 6 ∨ i = 7 by omega) with rfl | rfl | rfl | rfl | rfl | rfl | rfl | rfl <;> exact ⟨rfl, rfl⟩
theorem narr_set (lo hi : Nat → Int) (i : Nat) (hi8 : i < 8) (a b : Int) : ((narr lo hi).setIfInBounds (i * 2) (.int .i64 a)).setIfInBounds (i * 2 + 1) (.int .i64 b) = narr (upd lo i a) (upd hi i b) := by
  rcases (show i = 0 ∨ i = 1 ∨ i = 2 ∨ i = 3 ∨ i = 4 ∨ i = 5 ∨ i = 6 ∨ i = 7 by omega) with rfl | rfl | rfl | rfl | rfl | rfl | rfl | rfl <;> rfl
end Go.Proofs.Ytajojpfenlafbaa
