/- Calls that change places: in plain Lean. -/
import Derived.Test.YtjhhpcjnhjbpdaaGreatQF
set_option linter.unusedSimpArgs false
set_option linter.unusedVariables false
namespace Go.Proofs.YtjhhpcjnhjbpdaaGreat
open Go.RowKit Mo
abbrev Acc := Int → Option (Int × Int)
/-- what a call makes of accounts, if it is not refused -/
def St1 (r : Nat) (f : Acc) (x : VCall20) (f' : Acc) : Prop :=
  mvOk x.x_xf x.x_xt x.x_xn ∧ ∃ p q, f x.x_xf = some p ∧ f x.x_xt = some q ∧ x.x_xn + prodV x.x_xn r false ≤ p.1 ∧ isA (q.1 + x.x_xn) = true ∧
    f' = fput (fput f x.x_xf (p.1 - x.x_xn - prodV x.x_xn r false, p.2 + prodV x.x_xn r false)) x.x_xt (q.1 + x.x_xn, q.2)
theorem st1_of {r : Nat} {f f' : Acc} {x : VCall20} {V : Int} (h : MvIs f (prodV x.x_xn r false) x.x_xf x.x_xt x.x_xn V 0 f') : St1 r f x f' := by
  rcases h with ⟨_, _, h, _⟩ | ⟨_, _, _, _, h, _⟩ | ⟨_, _, _, _, _, _, h, _⟩ | ⟨_, _, _, h, _⟩ | ⟨_, _, _, _, _, h, _⟩ | ⟨_, _, _, _, _, _, h, _⟩ | ⟨_, _, _, _, _, _, _, _, h, _⟩ | ⟨p, q, h1, h2, h3, h4, h5, _, _, h6⟩
  · cases h
  · cases h
  · cases h
  · cases h
  · cases h
  · cases h
  · cases h
  · exact ⟨h1, p, q, h2, h4, h3, h5, h6.symm⟩
theorem st1_det {r : Nat} {f f1 f2 : Acc} {x : VCall20} {V E : Int} (h : St1 r f x f1) (h' : MvIs f (prodV x.x_xn r false) x.x_xf x.x_xt x.x_xn V E f2) : E = 0 ∧ f2 = f1 := by
  obtain ⟨⟨o1, o2, o3, o4, o5⟩, p, q, hp, hq, h3, h4, h5⟩ := h
  rcases h' with ⟨h, _⟩ | ⟨_, _, h, _⟩ | ⟨_, _, _, _, h, _⟩ | ⟨_, h, _⟩ | ⟨y, _, h, g, _⟩ | ⟨y, _, _, _, h, _⟩ | ⟨y, z, _, _, _, h, g, _⟩ | ⟨y, z, _, h, _, g, _, _, hE, h6⟩
  · rw [o1, o2] at h; cases h
  · rcases h with h | h
    · omega
    · rw [o4] at h; cases h
  · exact absurd h o5
  · rw [hp] at h; cases h
  · rw [hp] at h; injection h with h; subst h; omega
  · rw [hq] at h; cases h
  · rw [hq] at h; injection h with h; subst h; rw [h4] at g; cases g
  · rw [hp] at h; rw [hq] at g; injection h with h; injection g with g; subst h; subst g
    exact ⟨hE, by rw [h5, ← h6]⟩
theorem shr_ne {x y : VCall20} (h : shr x y = false) : x.x_xf ≠ y.x_xf ∧ x.x_xf ≠ y.x_xt ∧ x.x_xt ≠ y.x_xf ∧ x.x_xt ≠ y.x_xt := by
  unfold shr at h
  simp only [Bool.or_eq_false_iff, beq_eq_false_iff_ne, ne_eq] at h
  exact ⟨h.1, h.2.1, h.2.2.1, h.2.2.2⟩
theorem shr_comm (x y : VCall20) : shr x y = shr y x := by
  unfold shr
  rw [Bool.eq_iff_iff]
  simp only [Bool.or_eq_true, beq_iff_eq]
  omega
theorem fput_ne (f : Acc) (k : Int) (p : Int × Int) {a : Int} (h : a ≠ k) : fput f k p a = f a := if_neg h
theorem fput_eq (f : Acc) (k : Int) (p : Int × Int) : fput f k p k = some p := if_pos rfl
theorem st1_swap {r : Nat} {f f1 f2 : Acc} {x y : VCall20} (hn : shr x y = false) (hx : St1 r f x f1) (hy : St1 r f1 y f2) : ∃ g, St1 r f y g ∧ St1 r g x f2 := by
  obtain ⟨n1, n2, n3, n4⟩ := shr_ne hn
  obtain ⟨ox, p, q, hp, hq, h3, h4, rfl⟩ := hx
  obtain ⟨oy, s, t, hs, ht, g3, g4, rfl⟩ := hy
  rw [fput_ne _ _ _ (Ne.symm n3), fput_ne _ _ _ (Ne.symm n1)] at hs
  rw [fput_ne _ _ _ (Ne.symm n4), fput_ne _ _ _ (Ne.symm n2)] at ht
  refine ⟨_, ⟨oy, s, t, hs, ht, g3, g4, rfl⟩, ox, p, q, by rw [fput_ne _ _ _ n2, fput_ne _ _ _ n1]; exact hp, by rw [fput_ne _ _ _ n4, fput_ne _ _ _ n3]; exact hq, h3, h4, ?_⟩
  funext a
  have ne1 := ox.2.2.2.2
  have ne2 := oy.2.2.2.2
  unfold fput
  by_cases a1 : a = x.x_xf
  · subst a1; simp [n1, n2, ne1]
  · by_cases a2 : a = x.x_xt
    · subst a2; simp [n3, n4]
    · simp [a1, a2]
/-- accounts along calls -/
def RunL (r : Nat) : List VCall20 → Acc → Acc → Prop
  | [], f, g => f = g
  | x :: xs, f, g => ∃ f1, St1 r f x f1 ∧ RunL r xs f1 g
theorem runL_back {r : Nat} {x : VCall20} {B : List VCall20} {g : Acc} : ∀ (A : List VCall20) (f : Acc), (∀ a ∈ A, shr x a = false) → RunL r (x :: (A ++ B)) f g → RunL r (A ++ x :: B) f g := by
  intro A
  induction A with
  | nil => exact fun f _ h => h
  | cons a A ih =>
    rintro f hA ⟨f1, h1, f2, h2, h3⟩
    obtain ⟨k, k1, k2⟩ := st1_swap (hA a (List.mem_cons_self ..)) h1 h2
    exact ⟨k, k1, ih k (fun b hb => hA b (List.mem_cons_of_mem _ hb)) ⟨f2, k2, h3⟩⟩
def Srt20 (C : List VCall20) : Prop := C.Pairwise (fun x y => x.tt ≤ y.tt)
def NoTie (C : List VCall20) : Prop := C.Pairwise (fun x y => x.tt = y.tt → shr x y = false)
theorem runL_perm {r : Nat} {g : Acc} : ∀ (C C' : List VCall20) (f : Acc), C.Perm C' → Srt20 C → Srt20 C' → NoTie C → RunL r C f g → RunL r C' f g := by
  intro C
  induction C with
  | nil => intro C' f hp _ _ _ h; rw [List.nil_perm.1 hp]; exact h
  | cons x C ih =>
    rintro C' f hp hs hs' hn ⟨f1, h1, h2⟩
    obtain ⟨A, B, rfl⟩ := List.append_of_mem (hp.mem_iff.1 (List.mem_cons_self ..))
    have hp' : C.Perm (A ++ B) := List.Perm.cons_inv (hp.trans List.perm_middle)
    have sub : (A ++ B).Sublist (A ++ x :: B) := (List.Sublist.refl A).append (List.sublist_cons_self x B)
    refine runL_back A f (fun a ha => ?_) ⟨f1, h1, ih (A ++ B) f1 hp' (List.pairwise_cons.1 hs).2 (hs'.sublist sub) (List.pairwise_cons.1 hn).2 h2⟩
    have haC : a ∈ C := hp'.mem_iff.2 (List.mem_append_left _ ha)
    have t1 := (List.pairwise_cons.1 hs).1 a haC
    have t2 := (List.pairwise_append.1 hs').2.2 a ha x (List.mem_cons_self ..)
    exact (List.pairwise_cons.1 hn).1 a haC (by omega)
/-- the calls along an order -/
def along (l : List VCall20) (R : List Int) : List VCall20 := R.map (cAt l)
theorem along_at {l : List VCall20} {R : List Int} {k : Nat} (hk : k < R.length) : (along l R)[k]'(by unfold along; rw [List.length_map]; exact hk) = cAt l R[k] := List.getElem_map _
theorem runL_of {l : List VCall20} {r : Nat} : ∀ (R : List Int) (G : Nat → Acc) (EE : Nat → Int), MvRuns l r R G EE → (∀ j, j < R.length → EE j = 0) → RunL r (along l R) (G 0) (G R.length) := by
  intro R
  induction R with
  | nil => exact fun G EE _ _ => rfl
  | cons e R ih =>
    intro G EE h he
    obtain ⟨V, hV⟩ := h 0 (by simp)
    rw [he 0 (by simp)] at hV
    exact ⟨G 1, st1_of hV, ih (fun k => G (k + 1)) (fun k => EE (k + 1)) (fun k hk => h (k + 1) (by simpa using hk)) (fun j hj => he (j + 1) (by simpa using hj))⟩
theorem of_runL {l : List VCall20} {r : Nat} {g : Acc} : ∀ (R : List Int) (G : Nat → Acc) (EE : Nat → Int), MvRuns l r R G EE → RunL r (along l R) (G 0) g → (∀ j, j < R.length → EE j = 0) ∧ G R.length = g := by
  intro R
  induction R with
  | nil => exact fun G EE _ h => ⟨fun j hj => absurd hj (Nat.not_lt_zero _), h⟩
  | cons e R ih =>
    rintro G EE h ⟨f1, h1, h2⟩
    obtain ⟨V, hV⟩ := h 0 (by simp)
    obtain ⟨e0, e1⟩ := st1_det h1 hV
    obtain ⟨k1, k2⟩ := ih (fun k => G (k + 1)) (fun k => EE (k + 1)) (fun k hk => h (k + 1) (by simpa using hk)) (by show RunL r (along l R) (G 1) g; rw [e1]; exact h2)
    refine ⟨fun j hj => ?_, k2⟩
    cases j with
    | zero => exact e0
    | succ j => exact k1 j (by simpa using hj)
theorem tOf_cAt (l : List VCall20) (e : Int) : tOf l e = (cAt l e).tt := by
  unfold tOf cAt
  cases l[e.toNat]? <;> rfl
theorem along_srt {l : List VCall20} {R : List Int} (h : OrdL l R) : Srt20 (along l R) := by
  unfold Srt20 along
  rw [List.pairwise_map]
  refine h.pw.imp fun {a b} hab => ?_
  unfold lexT at hab
  rw [tOf_cAt, tOf_cAt] at hab
  omega
theorem noTie_iff {l : List VCall20} {R : List Int} : (∀ k, k < R.length → tie l R k = false) ↔ NoTie (along l R) := by
  unfold NoTie along
  rw [List.pairwise_map, List.pairwise_iff_getElem]
  have key : ∀ j k (hj : j < k) (hk : k < R.length), (tieB l R j k = false) ↔ ((cAt l R[j]).tt = (cAt l R[k]).tt → shr (cAt l R[j]) (cAt l R[k]) = false) := by
    intro j k hj hk
    unfold tieB
    rw [List.getD_eq_getElem?_getD, List.getD_eq_getElem?_getD, List.getElem?_eq_getElem hk, List.getElem?_eq_getElem (by omega : j < R.length), tOf_cAt, tOf_cAt]
    simp only [Option.getD_some, Bool.and_eq_false_iff, beq_eq_false_iff_ne, ne_eq]
    constructor
    · rintro (h | h) he
      · exact absurd he h
      · exact h
    · intro h
      by_cases he : (cAt l R[j]).tt = (cAt l R[k]).tt
      · exact .inr (h he)
      · exact .inl he
  constructor
  · intro h i j hi hj hij
    refine (key i j hij hj).1 ?_
    cases hb : tieB l R i j
    · rfl
    · have := tie_true hij hj hb
      rw [h j hj] at this; cases this
  · intro h k hk
    exact tie_false fun j hj => (key j k hj hk).2 (h j k (by omega) hk hj)
theorem noTie_perm {C C' : List VCall20} (hp : C.Perm C') (h : NoTie C) : NoTie C' :=
  (hp.pairwise_iff (fun {x y} hxy he => by rw [shr_comm]; exact hxy he.symm)).1 h
theorem along_perm {l : List VCall20} {R : List Int} (h : OrdL l R) : (along l R).Perm (l.filter (fun x => x.fate == 2)) := by
  have hn : (cmt l l.length).Nodup := (cmt_rise l l.length).imp (fun h => by omega)
  have hp : R.Perm (cmt l l.length) := (List.perm_ext_iff_of_nodup h.nodup hn).2 fun x => by rw [h.mem, cmt_mem]
  refine (hp.map (cAt l)).trans ?_
  have : ∀ k, k ≤ l.length → (cmt l k).map (cAt l) = (l.take k).filter (fun x => x.fate == 2) := by
    intro k
    induction k with
    | zero => intro _; rfl
    | succ k ih =>
      intro hk
      rw [List.take_succ_eq_append_getElem (by omega), List.filter_append, ← ih (by omega)]
      by_cases hf : l[k].fate = 2
      · rw [cmt_succ1 (by omega) hf, List.map_append]
        simp [hf, cAt_at (show k < l.length by omega)]
      · rw [cmt_succ0 (by omega) hf]
        simp [hf]
  rw [this _ (Nat.le_refl _), List.take_of_length_le (Nat.le_refl _)]
/-- nothing is wrong with calls by themselves: without places -/
theorem wrong_iff {l : List VCall20} : (∀ j, j < l.length → wrong l j = 0) ↔ ((∀ x ∈ l, callOk x = true ∧ (x.fate = 2 → x.fr < x.tt ∧ x.tt < x.too)) ∧ l.Pairwise (fun x y => x.x_id ≠ y.x_id)) := by
  have key : ∀ j (hj : j < l.length), wrong l j = 0 ↔ callOk l[j] = true ∧ (∀ i (hi : i < j), l[i].x_id ≠ l[j].x_id) ∧ (l[j].fate = 2 → l[j].fr < l[j].tt ∧ l[j].tt < l[j].too) := by
    intro j hj
    unfold wrong
    rw [List.getElem?_eq_getElem hj]
    dsimp only
    have ha : ((l.take j).any (fun d => d.x_id == l[j].x_id) = true) ↔ ¬ ∀ i (hi : i < j), l[i].x_id ≠ l[j].x_id := by
      rw [List.any_eq_true]
      constructor
      · rintro ⟨d, hd, he⟩ h
        rw [List.mem_take_iff_getElem] at hd
        obtain ⟨i, hi, rfl⟩ := hd
        exact h i (by omega) (by simpa using he)
      · intro h
        apply Classical.byContradiction
        intro hc
        apply h
        intro i hi he
        exact hc ⟨l[i], List.mem_take_iff_getElem.2 ⟨i, by omega, rfl⟩, by simpa using he⟩
    by_cases h1 : callOk l[j] = false
    · rw [if_pos h1]
      constructor
      · intro h; cases h
      · rintro ⟨h, _⟩; rw [h1] at h; cases h
    · rw [if_neg h1]
      have h1' : callOk l[j] = true := by simpa using h1
      by_cases h2 : (l.take j).any (fun d => d.x_id == l[j].x_id) = true
      · rw [if_pos h2]
        constructor
        · intro h; cases h
        · rintro ⟨_, h, _⟩; exact absurd h (ha.1 h2)
      · rw [if_neg h2]
        have h2' : ∀ i (hi : i < j), l[i].x_id ≠ l[j].x_id := Classical.byContradiction fun h => h2 (ha.2 h)
        by_cases h3 : l[j].fate = 2 ∧ (l[j].tt ≤ l[j].fr ∨ l[j].too ≤ l[j].tt)
        · rw [if_pos h3]
          constructor
          · intro h; cases h
          · rintro ⟨_, _, h⟩; have := h h3.1; omega
        · rw [if_neg h3]
          exact ⟨fun _ => ⟨h1', h2', fun hf => by
            have : ¬ (l[j].tt ≤ l[j].fr ∨ l[j].too ≤ l[j].tt) := fun h => h3 ⟨hf, h⟩
            omega⟩, fun _ => rfl⟩
  rw [List.pairwise_iff_getElem]
  constructor
  · intro h
    refine ⟨fun x hx => ?_, fun i j hi hj hij => ((key j hj).1 (h j hj)).2.1 i hij⟩
    obtain ⟨j, hj, rfl⟩ := List.mem_iff_getElem.1 hx
    have := (key j hj).1 (h j hj)
    exact ⟨this.1, this.2.2⟩
  · rintro ⟨h1, h2⟩ j hj
    have := h1 l[j] (List.getElem_mem hj)
    exact (key j hj).2 ⟨this.1, fun i hi => h2 i j (by omega) hj hi, this.2⟩
theorem wrong_perm {l l' : List VCall20} (hp : l.Perm l') (h : ∀ j, j < l.length → wrong l j = 0) : ∀ j, j < l'.length → wrong l' j = 0 := by
  rw [wrong_iff] at h ⊢
  exact ⟨fun x hx => h.1 x (hp.mem_iff.2 hx), (hp.pairwise_iff (fun {x y} hxy he => hxy he.symm)).1 h.2⟩
/-- A STORY WHOSE CALLS ARE LISTED IN ANOTHER ORDER is as fine, and comes to the same -/
theorem fine_perm {r : Nat} {ops : List VEntry} {l l' : List VCall20} {F F' : Nat → Acc} {R R' : List Int} {G G' : Nat → Acc} {EE EE' : Nat → Int} (h : StRun r ops l F R G EE) (h' : StRun r ops l' F' R' G' EE') (hF : F ops.length = F' ops.length) (hp : l.Perm l') (hf : Fine r ops l R EE) : Fine r ops l' R' EE' ∧ R.length = R'.length ∧ G R.length = G' R'.length := by
  obtain ⟨f1, f2, f3, f4⟩ := hf
  have hC : (along l R).Perm (along l' R') := (along_perm h.o).trans ((hp.filter _).trans (along_perm h'.o).symm)
  have hN : NoTie (along l R) := noTie_iff.1 fun k hk => (f4 k hk).1
  have hN' := noTie_perm hC hN
  have hR := runL_of R G EE h.g (fun j hj => (f4 j hj).2)
  rw [h.g0, hF, ← h'.g0] at hR
  have hR' := runL_perm _ _ _ hC (along_srt h.o) (along_srt h'.o) hN hR
  obtain ⟨k1, k2⟩ := of_runL R' G' EE' h'.g hR'
  refine ⟨⟨f1, f2, wrong_perm hp f3, fun j hj => ⟨noTie_iff.2 hN' j hj, k1 j hj⟩⟩, ?_, k2.symm⟩
  have := hC.length_eq
  unfold along at this
  rwa [List.length_map, List.length_map] at this
theorem opRuns_det {l : List VEntry} {F F' : Nat → Acc} (h : OpRuns l F) (h' : OpRuns l F') : ∀ k, k ≤ l.length → F k = F' k := by
  intro k
  induction k with
  | zero => intro _; rw [h.1, h'.1]
  | succ k ih =>
    intro hk
    obtain ⟨E, hO⟩ := h.2 k (by omega)
    obtain ⟨E', hO'⟩ := h'.2 k (by omega)
    rw [← ih (by omega)] at hO'
    rcases hO with ⟨a, _, b⟩ | ⟨a, b, _, c⟩ | ⟨a, b, c, _, d⟩ | ⟨a, b, c, _, d⟩ <;> rcases hO' with ⟨a', _, b'⟩ | ⟨a', b', _, c'⟩ | ⟨a', b', c', _, d'⟩ | ⟨a', b', c', _, d'⟩ <;> simp_all
/-- in a story in which nothing is wrong all times are times -/
theorem fine_upto {r : Nat} {ops : List VEntry} {l : List VCall20} {R : List Int} {EE : Nat → Int} (hR : OrdL l R) (hf : Fine r ops l R EE) : UpTo l R 1125899906842624 R.length := by
  refine ⟨Nat.le_refl _, fun j hj => ?_, fun j h1 h2 => by omega⟩
  obtain ⟨p, _, h2, hp, hfa⟩ := hR.at hj
  rw [h2, tOf_at hp]
  have h3 := (wrong_iff.1 hf.2.2.1).1 l[p] (List.getElem_mem hp)
  have h4 := (h3.2 hfa).2
  have h5 := h3.1
  unfold callOk at h5
  simp only [Bool.and_eq_true, decide_eq_true_eq, Bool.not_eq_true'] at h5
  have := inT_iff.1 h5.2.2.2.2.2.2.2.2.1
  omega
end Go.Proofs.YtjhhpcjnhjbpdaaGreat
