/- Leases in plays: the sixty turns. -/
import Derived.Test.YtajojpfenlafbaaLpL35
import Derived.Test.YtajojpfenlafbaaLpL53
import Derived.Test.YtajojpfenlafbaaLpR42
import Derived.Test.YtajojpfenlafbaaLpR48
import Derived.Test.YtajojpfenlafbaaLpR60
import Derived.Test.YtajojpfenlafbaaLpR62
import Derived.Test.YtajojpfenlafbaaLpS43
import Derived.Test.YtajojpfenlafbaaLpS49
set_option linter.unusedSimpArgs false
set_option linter.unusedVariables false
namespace Go.Proofs.Ytajojpfenlafbaa
open Go.RowKit Mo
attribute [local go_sem ↓] Go.wp_at_zero Go.wp_at_succ
noncomputable def lp28 : Code := ((Try.f25.body.bind (loopOf 28)).getD .skip)
set_option maxRecDepth 100000 in
set_option maxHeartbeats 8000000 in
theorem playL28 {Q : Exit → Act → World → Prop} {W : World} {v1 v3 v4 v5 v6 v13 v14 v15 v16 v17 v18 v19 v22 v23 v24 v25 v26 v27 v28 v29 v30 v31 v32 v33 v34 v35 v36 v37 v38 v39 v40 v41 v42 v43 v44 v45 v46 v47 v48 v49 v50 v51 v52 v53 v54 v55 v56 v57 v58 v59 v60 v61 v62 v63 v64 v65 v66 v67 v68 v69 v70 v71 v72 v73 v74 v75 v76 v77 v78 v79 v80 v81 v82 v83 v84 v85 v86 v87 v88 v89 v90 v91 v92 v93 v94 v95 v96 v97 v98 v99 v100 v101 v102 v103 v104 v105 v106 v107 v108 v109 v110 v111 v112 v113 v114 v115 v116 v117 v118 v119 v120 v121 v122 v123 v124 v125 v126 v127 v128 v129 v130 v131 v132 v133 v134 v135 v136 v137 v138 v139 v140 v141 v142 v143 v144 v145 v146 v147 v148 v149 v150 v151 v152 v153 v154 v155 v156 v157 v158 v159 v160 v161 v162 v163 v164 v165 v166 v167 v168 v169 v170 v171 v172 v173 v174 v175 v176 v177 v178 v179 v180 v181 v182 v183 v184 v185 v186 v187 v188 v189 v190 v191 v192 v193 v194 v195 v196 v197 v198 v199 v200 v201 v202 v203 v204 v205 v206 v207 v208 v209 v210 v211 v212 v213 v214 v215 v216 v217 v218 v219 v220 v221 v222 v223 v224 v225 v226 v227 v228 v229 v230 v231 v232 v233 v234 v235 v236 v237 v238 v239 v240 v241 v242 v243 v244 v245 v246 v247 v248 v249 v250 v251 v252 v253 v254 v255 v256 v257 v258 v259 v260 v261 v262 v263 v264 v265 v266 v267 v268 v269 v270 v271 v272 v273 v274 v275 v276 v277 v278 v279 v280 v281 v282 v283 v284 v285 : Value} {w : World} {n bd bv bh bs c : Nat} {A : Option Addr} {xs : List VTurn23} {gc gv gh gs : Nat → Nat} {ck : Nat → Ck} {rd : List Int} {vL vU : Nat → Int} {us : Nat → List Int} {la : Nat → Int} {T : Int}
    (P0 : PSt w W n w.heap.size bd bv bh bs gc gv gh gs ck rd vL vU us la) (hrd : rd.length = 8) (hr : Reads w w.heap.size 15 A xs.length (xs.flatMap VTurn23.cells)) (hml : xs.length ≤ 9223372036854775807) (hx : ∀ u_ ∈ xs, VTurn23.ok w u_) (hn1 : 1 ≤ n) (hn5 : n ≤ 5) (I0 : ∀ i, i < 8 → HInv 4575657221408423936 (ck i) (rd.getD i 0) T 0) (L0 : LInv n T vL vU us) (S0 : SInv n 0 us la)
    (hexit : ∀ (x0 x6 x20 x21 x22 x23 x24 x25 x26 x27 x28 x29 x30 x31 x32 x33 x34 x35 x36 x37 x109 x110 x111 x112 x113 x114 x115 x116 x117 x118 x119 x120 x121 x122 x123 x124 x125 x126 x127 x128 x129 x130 x131 x132 x133 x134 x135 x136 x137 x138 x139 x140 x141 x142 x143 x144 x145 x146 x147 x148 x149 x150 x151 x152 x153 x154 x155 x156 x157 x158 x159 x160 x161 x162 x163 x164 x165 x166 x167 x168 x169 x170 x171 x172 x173 x174 x175 x176 x177 x178 x179 x180 x181 x182 x183 x184 x185 x186 x187 x188 x189 x190 x191 x192 x193 x194 x195 x196 x197 x198 x199 x200 x201 x202 x203 x204 x205 x206 x207 x208 x209 x210 x211 x212 x213 x214 x215 x216 x217 x218 x219 x220 x221 x222 x223 x224 x225 x226 x227 x228 x229 x230 x231 x232 x233 x234 x235 x236 x237 x238 x239 x240 x241 x242 x243 x244 x245 x246 x247 x248 x249 x250 x251 x252 x253 x254 x255 x256 x257 x258 x259 x260 x261 x262 x263 x264 x265 x266 x267 x268 x269 x270 x271 x272 x273 x274 x275 x276 x277 x278 x279 x280 x281 x282 x283 x284 x285 : Value) (W' : World), Below w.heap.size w W' → Q (.exit 6) ⟨(List.toArray (x0 :: v1 :: (.slice A xs.length c) :: v3 :: v4 :: v5 :: x6 :: (.int .i64 ((n : Int))) :: (.pointer (some ⟨w.heap.size, 0, none⟩)) :: (.pointer (some ⟨bd, 0, none⟩)) :: (.pointer (some ⟨bv, 0, none⟩)) :: (.pointer (some ⟨bh, 0, none⟩)) :: (.pointer (some ⟨bs, 0, none⟩)) :: v13 :: v14 :: v15 :: v16 :: v17 :: v18 :: v19 :: x20 :: x21 :: x22 :: x23 :: x24 :: x25 :: x26 :: x27 :: x28 :: x29 :: x30 :: x31 :: x32 :: x33 :: x34 :: x35 :: x36 :: x37 :: v38 :: v39 :: v40 :: v41 :: v42 :: v43 :: v44 :: v45 :: v46 :: v47 :: v48 :: v49 :: v50 :: v51 :: v52 :: v53 :: v54 :: v55 :: v56 :: v57 :: v58 :: v59 :: v60 :: v61 :: v62 :: v63 :: v64 :: v65 :: v66 :: v67 :: v68 :: v69 :: v70 :: v71 :: v72 :: v73 :: v74 :: v75 :: v76 :: v77 :: v78 :: v79 :: v80 :: v81 :: v82 :: v83 :: v84 :: v85 :: v86 :: v87 :: v88 :: v89 :: v90 :: v91 :: v92 :: v93 :: v94 :: v95 :: v96 :: v97 :: v98 :: v99 :: v100 :: v101 :: v102 :: v103 :: v104 :: v105 :: v106 :: v107 :: v108 :: x109 :: x110 :: x111 :: x112 :: x113 :: x114 :: x115 :: x116 :: x117 :: x118 :: x119 :: x120 :: x121 :: x122 :: x123 :: x124 :: x125 :: x126 :: x127 :: x128 :: x129 :: x130 :: x131 :: x132 :: x133 :: x134 :: x135 :: x136 :: x137 :: x138 :: x139 :: x140 :: x141 :: x142 :: x143 :: x144 :: x145 :: x146 :: x147 :: x148 :: x149 :: x150 :: x151 :: x152 :: x153 :: x154 :: x155 :: x156 :: x157 :: x158 :: x159 :: x160 :: x161 :: x162 :: x163 :: x164 :: x165 :: x166 :: x167 :: x168 :: x169 :: x170 :: x171 :: x172 :: x173 :: x174 :: x175 :: x176 :: x177 :: x178 :: x179 :: x180 :: x181 :: x182 :: x183 :: x184 :: x185 :: x186 :: x187 :: x188 :: x189 :: x190 :: x191 :: x192 :: x193 :: x194 :: x195 :: x196 :: x197 :: x198 :: x199 :: x200 :: x201 :: x202 :: x203 :: x204 :: x205 :: x206 :: x207 :: x208 :: x209 :: x210 :: x211 :: x212 :: x213 :: x214 :: x215 :: x216 :: x217 :: x218 :: x219 :: x220 :: x221 :: x222 :: x223 :: x224 :: x225 :: x226 :: x227 :: x228 :: x229 :: x230 :: x231 :: x232 :: x233 :: x234 :: x235 :: x236 :: x237 :: x238 :: x239 :: x240 :: x241 :: x242 :: x243 :: x244 :: x245 :: x246 :: x247 :: x248 :: x249 :: x250 :: x251 :: x252 :: x253 :: x254 :: x255 :: x256 :: x257 :: x258 :: x259 :: x260 :: x261 :: x262 :: x263 :: x264 :: x265 :: x266 :: x267 :: x268 :: x269 :: x270 :: x271 :: x272 :: x273 :: x274 :: x275 :: x276 :: x277 :: x278 :: x279 :: x280 :: x281 :: x282 :: x283 :: x284 :: x285 :: [])), []⟩ W') :
    Code.wp Try.prog lp28 Q ⟨(List.toArray ((.int .i64 (T)) :: v1 :: (.slice A xs.length c) :: v3 :: v4 :: v5 :: v6 :: (.int .i64 ((n : Int))) :: (.pointer (some ⟨w.heap.size, 0, none⟩)) :: (.pointer (some ⟨bd, 0, none⟩)) :: (.pointer (some ⟨bv, 0, none⟩)) :: (.pointer (some ⟨bh, 0, none⟩)) :: (.pointer (some ⟨bs, 0, none⟩)) :: v13 :: v14 :: v15 :: v16 :: v17 :: v18 :: v19 :: (.int .i64 (0)) :: (.int .i64 (0)) :: v22 :: v23 :: v24 :: v25 :: v26 :: v27 :: v28 :: v29 :: v30 :: v31 :: v32 :: v33 :: v34 :: v35 :: v36 :: v37 :: v38 :: v39 :: v40 :: v41 :: v42 :: v43 :: v44 :: v45 :: v46 :: v47 :: v48 :: v49 :: v50 :: v51 :: v52 :: v53 :: v54 :: v55 :: v56 :: v57 :: v58 :: v59 :: v60 :: v61 :: v62 :: v63 :: v64 :: v65 :: v66 :: v67 :: v68 :: v69 :: v70 :: v71 :: v72 :: v73 :: v74 :: v75 :: v76 :: v77 :: v78 :: v79 :: v80 :: v81 :: v82 :: v83 :: v84 :: v85 :: v86 :: v87 :: v88 :: v89 :: v90 :: v91 :: v92 :: v93 :: v94 :: v95 :: v96 :: v97 :: v98 :: v99 :: v100 :: v101 :: v102 :: v103 :: v104 :: v105 :: v106 :: v107 :: v108 :: v109 :: v110 :: v111 :: v112 :: v113 :: v114 :: v115 :: v116 :: v117 :: v118 :: v119 :: v120 :: v121 :: v122 :: v123 :: v124 :: v125 :: v126 :: v127 :: v128 :: v129 :: v130 :: v131 :: v132 :: v133 :: v134 :: v135 :: v136 :: v137 :: v138 :: v139 :: v140 :: v141 :: v142 :: v143 :: v144 :: v145 :: v146 :: v147 :: v148 :: v149 :: v150 :: v151 :: v152 :: v153 :: v154 :: v155 :: v156 :: v157 :: v158 :: v159 :: v160 :: v161 :: v162 :: v163 :: v164 :: v165 :: v166 :: v167 :: v168 :: v169 :: v170 :: v171 :: v172 :: v173 :: v174 :: v175 :: v176 :: v177 :: v178 :: v179 :: v180 :: v181 :: v182 :: v183 :: v184 :: v185 :: v186 :: v187 :: v188 :: v189 :: v190 :: v191 :: v192 :: v193 :: v194 :: v195 :: v196 :: v197 :: v198 :: v199 :: v200 :: v201 :: v202 :: v203 :: v204 :: v205 :: v206 :: v207 :: v208 :: v209 :: v210 :: v211 :: v212 :: v213 :: v214 :: v215 :: v216 :: v217 :: v218 :: v219 :: v220 :: v221 :: v222 :: v223 :: v224 :: v225 :: v226 :: v227 :: v228 :: v229 :: v230 :: v231 :: v232 :: v233 :: v234 :: v235 :: v236 :: v237 :: v238 :: v239 :: v240 :: v241 :: v242 :: v243 :: v244 :: v245 :: v246 :: v247 :: v248 :: v249 :: v250 :: v251 :: v252 :: v253 :: v254 :: v255 :: v256 :: v257 :: v258 :: v259 :: v260 :: v261 :: v262 :: v263 :: v264 :: v265 :: v266 :: v267 :: v268 :: v269 :: v270 :: v271 :: v272 :: v273 :: v274 :: v275 :: v276 :: v277 :: v278 :: v279 :: v280 :: v281 :: v282 :: v283 :: v284 :: v285 :: [])), []⟩ W := by
  conv => arg 2; whnf
  have hr := Lib.hid hr; have HX := Lib.hid hx; have HE := Lib.hid hexit
  have P := Lib.hid P0; have I := Lib.hid I0; have LI := Lib.hid L0; have SI := Lib.hid S0; have hrd := Lib.hid hrd
  clear P0 I0 L0 S0 hx hexit
  go_loopw [0, 20, 21] (fun st sl si wr => ∃ (k : Nat) (t last : Int) (gv : Nat → Nat) (ck : Nat → Ck) (rd : List Int) (vL vU : Nat → Int) (us : Nat → List Int) (la : Nat → Int), k ≤ xs.length ∧ k ≤ 60 ∧ st = .int .i64 t ∧ sl = .int .i64 last ∧ si = .int .i64 k ∧ Hid (rd.length = 8) ∧ Hid (PSt w wr n w.heap.size bd bv bh bs gc gv gh gs ck rd vL vU us la) ∧ Hid (∀ i, i < 8 → HInv 4575657221408423936 (ck i) (rd.getD i 0) t k) ∧ Hid (LInv n t vL vU us) ∧ Hid (SInv n last us la)) (fun _ _ si _ => xs.length - (intOf si).toNat)
  case atStart => exact ⟨0, T, 0, gv, ck, rd, _, _, _, _, Nat.zero_le _, by omega, rfl, rfl, rfl, hrd, P, I, LI, SI⟩
  case round =>
    clear P I LI SI hrd
    obtain ⟨k, t, last, gv, ck, rd, vL, vU, us, la, hk, hk6, rfl, rfl, rfl, hrd, P, I, LI, SI⟩ := hrel
    rename World => wo
    by_cases hlt : k < xs.length ∧ k < 60
    · obtain ⟨hlt, h60⟩ := hlt
      obtain ⟨ad, hA, hadb, hcell⟩ := (hr.out.kp (S := fun _ => False) (.of_below P.out.b) (fun _ _ h => h)).2 (by omega)
      subst hA
      have q := fun j (hj : j < 15) => (hcell (k * 15 + j) _ ((flatMap_at xs VTurn23.cells 15 (fun _ => rfl) k j hlt hj).trans (List.getElem?_eq_getElem (by exact hj))))
      have q0 := q 0 (by omega); have q1 := q 1 (by omega); have q2 := q 2 (by omega); have q3 := q 3 (by omega); have q4 := q 4 (by omega); have q5 := q 5 (by omega); have q6 := q 6 (by omega); have q7 := q 7 (by omega); have q8 := q 8 (by omega); have q9 := q 9 (by omega); have q10 := q 10 (by omega); have q11 := q 11 (by omega); have q12 := q 12 (by omega); have q13 := q 13 (by omega); have q14 := q 14 (by omega)
      simp only [VTurn23.cells, List.getElem_cons_zero, List.getElem_cons_succ, Nat.add_zero] at q0 q1 q2 q3 q4 q5 q6 q7 q8 q9 q10 q11 q12 q13 q14
      have hok := HX.out xs[k] (List.getElem_mem _)
      generalize xs[k] = x at *
      obtain ⟨dd, ln, s0, s1, s2, s3, s4, s5, s6, s7, ld, vo, hd, ag, gi⟩ := x
      obtain ⟨v0, v1, y0, y1, y2, y3, y4, y5, y6, y7, v2, v3⟩ := hok
      simp only at q0 q1 q2 q3 q4 q5 q6 q7 q8 q9 q10 q11 q12 q13 q14 v0 v1 y0 y1 y2 y3 y4 y5 y6 y7 v2 v3
      replace q1 := cell_in _ 1 (by omega) q1; replace q2 := cell_in _ 2 (by omega) q2; replace q3 := cell_in _ 3 (by omega) q3; replace q4 := cell_in _ 4 (by omega) q4; replace q5 := cell_in _ 5 (by omega) q5; replace q6 := cell_in _ 6 (by omega) q6; replace q7 := cell_in _ 7 (by omega) q7; replace q8 := cell_in _ 8 (by omega) q8; replace q9 := cell_in _ 9 (by omega) q9; replace q10 := cell_in _ 10 (by omega) q10; replace q11 := cell_in _ 11 (by omega) q11; replace q12 := cell_in _ 12 (by omega) q12; replace q13 := cell_in _ 13 (by omega) q13; replace q14 := cell_in _ 14 (by omega) q14
      obtain ⟨d0, d1⟩ : 0 ≤ dd ∧ dd ≤ 65535 := by simpa [Lit.wf, IntKind.min, IntKind.max, IntKind.signed, IntKind.bits] using v0
      obtain ⟨n0, n1⟩ : 0 ≤ ln ∧ ln ≤ 65535 := by simpa [Lit.wf, IntKind.min, IntKind.max, IntKind.signed, IntKind.bits] using v1
      obtain ⟨e0, e1⟩ : 0 ≤ ld ∧ ld ≤ 255 := by simpa [Lit.wf, IntKind.min, IntKind.max, IntKind.signed, IntKind.bits] using v2
      obtain ⟨f0, f1⟩ : 0 ≤ vo ∧ vo ≤ 255 := by simpa [Lit.wf, IntKind.min, IntKind.max, IntKind.signed, IntKind.bits] using v3
      have SK : Hid (∀ i, i < 8 → -128 ≤ ([s0, s1, s2, s3, s4, s5, s6, s7] : List Int).getD i 0 ∧ ([s0, s1, s2, s3, s4, s5, s6, s7] : List Int).getD i 0 ≤ 127) := Lib.hid (fun i hi => by
        simp [Lit.wf, IntKind.min, IntKind.max, IntKind.signed, IntKind.bits] at y0 y1 y2 y3 y4 y5 y6 y7
        rcases (show i = 0 ∨ i = 1 ∨ i = 2 ∨ i = 3 ∨ i = 4 ∨ i = 5 ∨ i = 6 ∨ i = 7 by omega) with rfl | rfl | rfl | rfl | rfl | rfl | rfl | rfl <;> assumption)
      clear q hcell v0 v1 v2 v3 y0 y1 y2 y3 y4 y5 y6 y7
      have tb : 0 ≤ t ∧ t ≤ 4398046511104 := by
        obtain ⟨S, _, _, _, b0, b1, b2, b3⟩ := I.out 0 (by omega)
        have : (k : Int) * 8589934590 ≤ 60 * 8589934590 := by omega
        exact ⟨b2, by omega⟩
      obtain ⟨t0', t1'⟩ := tb
      have w1 : IntKind.i64.wrap dd = dd := IntWalk.i64_in _ (by omega)
      have w2 : IntKind.i64.wrap (t + dd) = t + dd := IntWalk.i64_in _ (by omega)
      have X0 := Lib.hid (Blk.new wo 69 #[.int .u16 dd, .int .u16 ln, .int .i8 s0, .int .i8 s1, .int .i8 s2, .int .i8 s3, .int .i8 s4, .int .i8 s5, .int .i8 s6, .int .i8 s7, .int .u8 ld, .int .u8 vo, .bool hd, .bool ag, .bool gi])
      have hk9 : Hid (k < xs.length) := Lib.hid hlt
      go_wp2_with fail
      have N0 : Hid (Blk ((wo.alloc (.cells #[.int .u16 dd, .int .u16 ln, .int .i8 s0, .int .i8 s1, .int .i8 s2, .int .i8 s3, .int .i8 s4, .int .i8 s5, .int .i8 s6, .int .i8 s7, .int .u8 ld, .int .u8 vo, .bool hd, .bool ag, .bool gi] 69)).alloc (.cells #[.int .i64 0, .int .i64 0, .int .i64 0, .int .i64 0, .int .i64 0, .int .i64 0, .int .i64 0, .int .i64 0, .int .i64 0, .int .i64 0, .int .i64 0, .int .i64 0, .int .i64 0, .int .i64 0, .int .i64 0, .int .i64 0] 91)) (wo.heap.size + 1) 91 (narr (fun _ => 0) (fun _ => 0))) := Lib.hid (Blk.new' (by simp))
      have wsz : Hid (w.heap.size ≤ wo.heap.size + 1) := Lib.hid (Nat.le_succ_of_le P.out.b.size)
      clear q0 q1 q2 q3 q4 q5 q6 q7 q8 q9 q10 q11 q12 q13 q14
      refine playL35 hrd.out ((P.out.alloc _).alloc _) (X0.out.alloc _) N0.out wsz.out h60 I.out d0 d1 t0' t1' SK.out ?_
      intro x6 x25 x26 x27 x129 x130 x131 x132 x133 x134 x135 x136 x137 x138 x139 x140 x141 x142 x143 x144 x145 x146 x147 x148 x149 x150 x151 x152 x153 x154 x155 x156 x157 x158 x159 x160 x161 x162 x163 x164 x165 x166 x167 x168 x169 x170 x171 x172 x173 x174 W1 hh
      obtain ⟨ck1, rd1, lo, hi, rfl, h8, hP, hX, hN, hI⟩ := hh
      have P1 := Lib.hid hP; have X1 := Lib.hid hX; have N1 := Lib.hid hN; have II := Lib.hid (fun i hi => (hI i hi).1); have SS := Lib.hid (fun i hi => (hI i hi).2); have hrd1 := Lib.hid h8
      have L1 := Lib.hid (linv_go LI.out dd d0)
      clear hP hX hN hI h8 P X0 N0 I hrd LI
      obtain ⟨who, hwho, hw3⟩ : ∃ who : Nat, ld % 3 = (who : Int) ∧ who < 3 := ⟨(ld % 3).toNat, by omega, by omega⟩
      obtain ⟨v, hvo, hvn⟩ : ∃ v : Nat, vo % (n : Int) = (v : Int) ∧ v < n := by
        have a := Int.emod_nonneg vo (show (n : Int) ≠ 0 by omega)
        have b := Int.emod_lt_of_pos vo (show (0 : Int) < n by omega)
        exact ⟨(vo % (n : Int)).toNat, by omega, by omega⟩
      have hv5 : v < 5 := by omega
      have HWHO := Lib.hid hwho; have HVO := Lib.hid hvo; have HVN := Lib.hid hvn; have HW3 := Lib.hid hw3; have HV5 := Lib.hid hv5
      clear hwho hvo hvn hw3 hv5
      go_wp2_with fail
      refine play42 P1.out X1.out N1.out e0 e1 f0 f1 hn1 hn5 HWHO.out HVO.out ?_
      intro x28 x29 x175 x176 x177 x178 x179 x180 x181 x182 x183 W2 hh
      obtain ⟨rfl, rfl, hP, hX, hN⟩ := hh
      have P2 := Lib.hid hP; have X2 := Lib.hid hX; have N2 := Lib.hid hN
      clear hP hX hN P1 X1 N1
      apply_assumption
      refine wp_seq_in ?_
      refine playS43 P2.out X2.out N2.out hn5 HVN.out L1.out (SS.out (3 + v) (by have := HV5.out; omega)) ?_
      intro x6 x30 x31 x184 x185 x186 x187 x188 x189 x190 x191 x192 x193 x194 x195 x196 x197 x198 x199 x200 x201 x202 W3 hh
      obtain ⟨gv2, vL2, vU2, hP, hX, hN, hL⟩ := hh
      have P3 := Lib.hid hP; have X3 := Lib.hid hX; have N3 := Lib.hid hN; have L3 := Lib.hid hL
      clear hP hX hN hL P2 X2 N2 L1
      obtain ⟨u, E, L', U', hG⟩ := gr_of (vL2 v) (vU2 v) (lo (3 + v)) (hi (3 + v)) ((who : Int) + 1) (1 + ln)
      have GG := Lib.hid hG
      have HH := Lib.hid (linv_grant L3.out hn5 HVN.out HW3.out (SS.out (3 + v) (by have := HV5.out; omega)).2.1 (by omega) (by omega) (SS.out (3 + v) (by have := HV5.out; omega)).1 (isS_of (SS.out (3 + v) (by have := HV5.out; omega))) hG)
      clear hG
      go_wp2_with fail
      refine play48 P3.out X3.out N3.out HV5.out HW3.out n0 n1 GG.out ?_
      intro x32 x33 x203 x204 x205 x206 x207 x208 x209 x210 x211 x212 x213 x214 x215 x216 x217 x218 x219 W4 hh
      obtain ⟨rfl, rfl, hP, hX, hN⟩ := hh
      have P4 := Lib.hid hP; have X4 := Lib.hid hX; have N4 := Lib.hid hN
      clear hP hX hN P3 X3 N3 L3 GG
      apply_assumption
      refine wp_seq_in ?_
      refine playS49 P4.out X4.out N4.out hn5 HVN.out HW3.out HH.out.1 SI.out HH.out.2 ?_
      intro x6 x220 x221 x222 x223 x224 x225 x226 x227 x228 x229 x230 x231 x232 x233 x234 W5 hh
      obtain ⟨us2, hP, hX, hN, hL, hS⟩ := hh
      have P5 := Lib.hid hP; have X5 := Lib.hid hX; have N5 := Lib.hid hN; have L5 := Lib.hid hL; have S5 := Lib.hid hS
      clear hP hX hN hL hS P4 X4 N4 HH SI
      go_wp2_with fail
      refine playL53 P5.out X5.out N5.out hn1 hn5 L5.out (fun i hi => (SS.out i (by omega)).2.2.1) ?_
      intro x34 x35 x235 x236 x237 x238 x239 x240 x241 x242 x243 x244 x245 x246 x247 W6 hh
      obtain ⟨h, rfl, h0, h1, hP, hX, hN⟩ := hh
      have P6 := Lib.hid hP; have X6 := Lib.hid hX; have N6 := Lib.hid hN
      clear hP hX hN P5 X5 N5
      have dh : decide (1 < h) = false := by simp; omega
      obtain ⟨q5, q6, q7⟩ := xcells567 X6.out
      have xl := X6.out.lt
      cases gi
      · go_wp2_with fail
        go_roundw
        case rel => exact ⟨k + 1, t + dd, last, gv2, ck1, rd1, _, _, us2, la, by have := hk9.out; omega, by omega, rfl, rfl, by go_num, hrd1, P6, II, L5, S5⟩
        case measure => have := hk9.out; simp [intOf]; omega
      · obtain ⟨U, hU⟩ : ∃ U, unt n (us2 who) = U := ⟨_, rfl⟩
        obtain ⟨N9, E9, l9, hst⟩ := st_of (la who) (lo who) (hi who) [] U
        have hU1 := linv_unt L5.out hn1 hn5 HW3.out
        rw [hU] at hU1
        have HUU := Lib.hid hU; have HST := Lib.hid hst; have hul := Lib.hid (L5.out.l who HW3.out)
        clear hU hst
        go_wp2_with fail
        refine play60 P6.out X6.out N6.out HW3.out hn1 hn5 hul.out HUU.out hU1 HST.out ?_
        intro x36 x37 x252 x253 x254 x255 x256 x257 x258 x259 x260 x261 x262 x263 x264 W7 hh
        obtain ⟨rfl, rfl, hP, hX, hN⟩ := hh
        have P7 := Lib.hid hP; have X7 := Lib.hid hX; have N7 := Lib.hid hN
        clear hP hX hN P6 X6 N6
        by_cases h9 : E9 = 0
        · subst h9
          obtain ⟨sa, sb, sc, e9, el⟩ : isS (lo who) (hi who) = true ∧ hi who < U ∧ max (la who) (hi who) < U - 1 ∧ max (la who) (hi who) + 1 = N9 ∧ l9 = max (la who) (hi who) + 1 := by
            rcases HST.out with ⟨_, _, e, _⟩ | ⟨_, _, _, e, _⟩ | ⟨_, _, _, _, e, _⟩ | ⟨a, b, c, d, _, e⟩
            · cases e
            · cases e
            · cases e
            · exact ⟨a, b, c, d.symm, e⟩
          have ht : (isS (lo who) (hi who) && decide (hi who < unt n (us2 who))) = true := by rw [HUU.out, sa, decide_eq_true sb]; rfl
          obtain ⟨a1, a2, S6⟩ := sinv_give L5.out S5.out hn1 hn5 HW3.out (SS.out who (by have := HW3.out; omega)).2.2.1 (by omega) (by rw [HUU.out]; exact sb) (by rw [HUU.out]; exact sc)
          rw [e9] at el a1 a2 S6
          subst el
          have S7 := Lib.hid S6
          clear S6 e9 sa sb sc
          have HT := Lib.hid ht
          clear ht
          go_wp2_with fail
          refine play62 P7.out X7.out N7.out HW3.out hn1 hn5 hul.out a1 a2 HT.out ?_
          intro x267 x268 x269 x270 x271 x272 x273 x274 x275 x276 x277 x278 x279 x280 x281 x282 x283 x284 W8 hh
          obtain ⟨rfl, hP, hX, hN⟩ := hh
          have P8 := Lib.hid hP
          clear hP hX hN P7 X7 N7
          go_wp2_with fail
          go_roundw
          case rel => exact ⟨k + 1, t + dd, _, gv2, ck1, rd1, _, _, us2, _, by have := hk9.out; omega, by omega, rfl, rfl, by go_num, hrd1, P8, II, L5, S7⟩
          case measure => have := hk9.out; simp [intOf]; omega
        · have hl9 : l9 = la who := by
            rcases HST.out with ⟨_, _, _, e⟩ | ⟨_, _, _, _, e⟩ | ⟨_, _, _, _, _, e⟩ | ⟨_, _, _, _, e, _⟩
            · exact e
            · exact e
            · exact e
            · exact absurd e h9
          subst hl9
          have S7 := Lib.hid (sinv_same S5.out who)
          have hE : (E9 == 0) = false := by simp; exact h9
          go_wp2_with fail
          go_roundw
          case rel => exact ⟨k + 1, t + dd, last, gv2, ck1, rd1, _, _, us2, _, by have := hk9.out; omega, by omega, rfl, rfl, by go_num, hrd1, P7, II, L5, S7⟩
          case measure => have := hk9.out; simp [intOf]; omega
    · rcases (show decide (k < xs.length) = false ∨ (k < xs.length ∧ decide ((k : Int) < 60) = false) by simp; omega) with hd | ⟨hd0, hd⟩
      all_goals
        go_wp2_with fail
        exact HE.out _ _ _ _ _ _ _ _ _ _ _ _ _ _ _ _ _ _ _ _ _ _ _ _ _ _ _ _ _ _ _ _ _ _ _ _ _ _ _ _ _ _ _ _ _ _ _ _ _ _ _ _ _ _ _ _ _ _ _ _ _ _ _ _ _ _ _ _ _ _ _ _ _ _ _ _ _ _ _ _ _ _ _ _ _ _ _ _ _ _ _ _ _ _ _ _ _ _ _ _ _ _ _ _ _ _ _ _ _ _ _ _ _ _ _ _ _ _ _ _ _ _ _ _ _ _ _ _ _ _ _ _ _ _ _ _ _ _ _ _ _ _ _ _ _ _ _ _ _ _ _ _ _ _ _ _ _ _ _ _ _ _ _ _ _ _ _ _ _ _ _ _ _ _ _ _ _ _ _ _ _ _ _ _ _ _ _ _ _ _ _ _ _ _ _ _ _ _ P.out.b
end Go.Proofs.Ytajojpfenlafbaa
