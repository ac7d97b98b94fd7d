/- Leases in plays: how many hold. -/
import Derived.Test.YtajojpfenlafbaaLpR55
set_option linter.unusedSimpArgs false
set_option linter.unusedVariables false
namespace Go.Proofs.Ytajojpfenlafbaa
open Go.RowKit Mo
attribute [local go_sem ↓] Go.wp_at_zero Go.wp_at_succ
noncomputable def lp53 : Code := ((Try.f25.body.bind (loopOf 53)).getD .skip)
set_option maxRecDepth 100000 in
set_option maxHeartbeats 8000000 in
theorem playL53 {Q : Exit → Act → World → Prop} {W : World} {v0 v1 v2 v3 v4 v5 v6 v7 v8 v9 v10 v12 v13 v14 v15 v16 v17 v18 v19 v20 v21 v22 v23 v25 v26 v27 v28 v29 v30 v31 v32 v33 v36 v37 v38 v39 v40 v41 v42 v43 v44 v45 v46 v47 v48 v49 v50 v51 v52 v53 v54 v55 v56 v57 v58 v59 v60 v61 v62 v63 v64 v65 v66 v67 v68 v69 v70 v71 v72 v73 v74 v75 v76 v77 v78 v79 v80 v81 v82 v83 v84 v85 v86 v87 v88 v89 v90 v91 v92 v93 v94 v95 v96 v97 v98 v99 v100 v101 v102 v103 v104 v105 v106 v107 v108 v109 v110 v111 v112 v113 v114 v115 v116 v117 v118 v119 v120 v121 v122 v123 v124 v125 v126 v127 v128 v129 v130 v131 v132 v133 v134 v135 v136 v137 v138 v139 v140 v141 v142 v143 v144 v145 v146 v147 v148 v149 v150 v151 v152 v153 v154 v155 v156 v157 v158 v159 v160 v161 v162 v163 v164 v165 v166 v167 v168 v169 v170 v171 v172 v173 v174 v175 v176 v177 v178 v179 v180 v181 v182 v183 v184 v185 v186 v187 v188 v189 v190 v191 v192 v193 v194 v195 v196 v197 v198 v199 v200 v201 v202 v203 v204 v205 v206 v207 v208 v209 v210 v211 v212 v213 v214 v215 v216 v217 v218 v219 v220 v221 v222 v223 v224 v225 v226 v227 v228 v229 v230 v231 v232 v233 v234 v235 v236 v237 v238 v239 v240 v241 v242 v243 v244 v245 v246 v247 v248 v249 v250 v251 v252 v253 v254 v255 v256 v257 v258 v259 v260 v261 v262 v263 v264 v265 v266 v267 v268 v269 v270 v271 v272 v273 v274 v275 v276 v277 v278 v279 v280 v281 v282 v283 v284 v285 : Value} {w : World} {n bd bv bh bs : Nat} {gc gv gh gs : Nat → Nat} {ck : Nat → Ck} {rd : List Int} {vL vU : Nat → Int} {us : Nat → List Int} {la : Nat → Int} {dd ln s0 s1 s2 s3 s4 s5 s6 s7 ld vo : Int} {hd ag gi : Bool} {lo hi : Nat → Int} {gx gn : Nat} {t : Int}
    (P0 : PSt w W n w.heap.size bd bv bh bs gc gv gh gs ck rd vL vU us la) (X0 : Blk W gx 69 #[.int .u16 dd, .int .u16 ln, .int .i8 s0, .int .i8 s1, .int .i8 s2, .int .i8 s3, .int .i8 s4, .int .i8 s5, .int .i8 s6, .int .i8 s7, .int .u8 ld, .int .u8 vo, .bool hd, .bool ag, .bool gi]) (N0 : Blk W gn 91 (narr lo hi)) (hn1 : 1 ≤ n) (hn5 : n ≤ 5) (L0 : LInv n t vL vU us) (hH : ∀ i, i < 3 → t ≤ hi i)
    (hexit : ∀ (x34 x35 x235 x236 x237 x238 x239 x240 x241 x242 x243 x244 x245 x246 x247 : Value) (W' : World), (∃ h : Int, x34 = .int .i64 h ∧ 0 ≤ h ∧ h ≤ 1 ∧ PSt w W' n w.heap.size bd bv bh bs gc gv gh gs ck rd vL vU us la ∧ Blk W' gx 69 #[.int .u16 dd, .int .u16 ln, .int .i8 s0, .int .i8 s1, .int .i8 s2, .int .i8 s3, .int .i8 s4, .int .i8 s5, .int .i8 s6, .int .i8 s7, .int .u8 ld, .int .u8 vo, .bool hd, .bool ag, .bool gi] ∧ Blk W' gn 91 (narr lo hi)) → Q (.exit 10) ⟨(List.toArray (v0 :: v1 :: v2 :: v3 :: v4 :: v5 :: v6 :: v7 :: v8 :: v9 :: v10 :: (.pointer (some ⟨bh, 0, none⟩)) :: v12 :: v13 :: v14 :: v15 :: v16 :: v17 :: v18 :: v19 :: v20 :: v21 :: v22 :: v23 :: (.pointer (some ⟨gn, 0, none⟩)) :: v25 :: v26 :: v27 :: v28 :: v29 :: v30 :: v31 :: v32 :: v33 :: x34 :: x35 :: v36 :: v37 :: v38 :: v39 :: v40 :: v41 :: v42 :: v43 :: v44 :: v45 :: v46 :: v47 :: v48 :: v49 :: v50 :: v51 :: v52 :: v53 :: v54 :: v55 :: v56 :: v57 :: v58 :: v59 :: v60 :: v61 :: v62 :: v63 :: v64 :: v65 :: v66 :: v67 :: v68 :: v69 :: v70 :: v71 :: v72 :: v73 :: v74 :: v75 :: v76 :: v77 :: v78 :: v79 :: v80 :: v81 :: v82 :: v83 :: v84 :: v85 :: v86 :: v87 :: v88 :: v89 :: v90 :: v91 :: v92 :: v93 :: v94 :: v95 :: v96 :: v97 :: v98 :: v99 :: v100 :: v101 :: v102 :: v103 :: v104 :: v105 :: v106 :: v107 :: v108 :: v109 :: v110 :: v111 :: v112 :: v113 :: v114 :: v115 :: v116 :: v117 :: v118 :: v119 :: v120 :: v121 :: v122 :: v123 :: v124 :: v125 :: v126 :: v127 :: v128 :: v129 :: v130 :: v131 :: v132 :: v133 :: v134 :: v135 :: v136 :: v137 :: v138 :: v139 :: v140 :: v141 :: v142 :: v143 :: v144 :: v145 :: v146 :: v147 :: v148 :: v149 :: v150 :: v151 :: v152 :: v153 :: v154 :: v155 :: v156 :: v157 :: v158 :: v159 :: v160 :: v161 :: v162 :: v163 :: v164 :: v165 :: v166 :: v167 :: v168 :: v169 :: v170 :: v171 :: v172 :: v173 :: v174 :: v175 :: v176 :: v177 :: v178 :: v179 :: v180 :: v181 :: v182 :: v183 :: v184 :: v185 :: v186 :: v187 :: v188 :: v189 :: v190 :: v191 :: v192 :: v193 :: v194 :: v195 :: v196 :: v197 :: v198 :: v199 :: v200 :: v201 :: v202 :: v203 :: v204 :: v205 :: v206 :: v207 :: v208 :: v209 :: v210 :: v211 :: v212 :: v213 :: v214 :: v215 :: v216 :: v217 :: v218 :: v219 :: v220 :: v221 :: v222 :: v223 :: v224 :: v225 :: v226 :: v227 :: v228 :: v229 :: v230 :: v231 :: v232 :: v233 :: v234 :: x235 :: x236 :: x237 :: x238 :: x239 :: x240 :: x241 :: x242 :: x243 :: x244 :: x245 :: x246 :: x247 :: v248 :: v249 :: v250 :: v251 :: v252 :: v253 :: v254 :: v255 :: v256 :: v257 :: v258 :: v259 :: v260 :: v261 :: v262 :: v263 :: v264 :: v265 :: v266 :: v267 :: v268 :: v269 :: v270 :: v271 :: v272 :: v273 :: v274 :: v275 :: v276 :: v277 :: v278 :: v279 :: v280 :: v281 :: v282 :: v283 :: v284 :: v285 :: [])), []⟩ W') :
    Code.wp Try.prog lp53 Q ⟨(List.toArray (v0 :: v1 :: v2 :: v3 :: v4 :: v5 :: v6 :: v7 :: v8 :: v9 :: v10 :: (.pointer (some ⟨bh, 0, none⟩)) :: v12 :: v13 :: v14 :: v15 :: v16 :: v17 :: v18 :: v19 :: v20 :: v21 :: v22 :: v23 :: (.pointer (some ⟨gn, 0, none⟩)) :: v25 :: v26 :: v27 :: v28 :: v29 :: v30 :: v31 :: v32 :: v33 :: (.int .i64 (0)) :: (.int .i64 (0)) :: v36 :: v37 :: v38 :: v39 :: v40 :: v41 :: v42 :: v43 :: v44 :: v45 :: v46 :: v47 :: v48 :: v49 :: v50 :: v51 :: v52 :: v53 :: v54 :: v55 :: v56 :: v57 :: v58 :: v59 :: v60 :: v61 :: v62 :: v63 :: v64 :: v65 :: v66 :: v67 :: v68 :: v69 :: v70 :: v71 :: v72 :: v73 :: v74 :: v75 :: v76 :: v77 :: v78 :: v79 :: v80 :: v81 :: v82 :: v83 :: v84 :: v85 :: v86 :: v87 :: v88 :: v89 :: v90 :: v91 :: v92 :: v93 :: v94 :: v95 :: v96 :: v97 :: v98 :: v99 :: v100 :: v101 :: v102 :: v103 :: v104 :: v105 :: v106 :: v107 :: v108 :: v109 :: v110 :: v111 :: v112 :: v113 :: v114 :: v115 :: v116 :: v117 :: v118 :: v119 :: v120 :: v121 :: v122 :: v123 :: v124 :: v125 :: v126 :: v127 :: v128 :: v129 :: v130 :: v131 :: v132 :: v133 :: v134 :: v135 :: v136 :: v137 :: v138 :: v139 :: v140 :: v141 :: v142 :: v143 :: v144 :: v145 :: v146 :: v147 :: v148 :: v149 :: v150 :: v151 :: v152 :: v153 :: v154 :: v155 :: v156 :: v157 :: v158 :: v159 :: v160 :: v161 :: v162 :: v163 :: v164 :: v165 :: v166 :: v167 :: v168 :: v169 :: v170 :: v171 :: v172 :: v173 :: v174 :: v175 :: v176 :: v177 :: v178 :: v179 :: v180 :: v181 :: v182 :: v183 :: v184 :: v185 :: v186 :: v187 :: v188 :: v189 :: v190 :: v191 :: v192 :: v193 :: v194 :: v195 :: v196 :: v197 :: v198 :: v199 :: v200 :: v201 :: v202 :: v203 :: v204 :: v205 :: v206 :: v207 :: v208 :: v209 :: v210 :: v211 :: v212 :: v213 :: v214 :: v215 :: v216 :: v217 :: v218 :: v219 :: v220 :: v221 :: v222 :: v223 :: v224 :: v225 :: v226 :: v227 :: v228 :: v229 :: v230 :: v231 :: v232 :: v233 :: v234 :: v235 :: v236 :: v237 :: v238 :: v239 :: v240 :: v241 :: v242 :: v243 :: v244 :: v245 :: v246 :: v247 :: v248 :: v249 :: v250 :: v251 :: v252 :: v253 :: v254 :: v255 :: v256 :: v257 :: v258 :: v259 :: v260 :: v261 :: v262 :: v263 :: v264 :: v265 :: v266 :: v267 :: v268 :: v269 :: v270 :: v271 :: v272 :: v273 :: v274 :: v275 :: v276 :: v277 :: v278 :: v279 :: v280 :: v281 :: v282 :: v283 :: v284 :: v285 :: [])), []⟩ W := by
  conv => arg 2; whnf
  have HX := Lib.hid hexit; have LL := Lib.hid L0; have HH := Lib.hid hH
  have P := Lib.hid P0; have XB := Lib.hid X0; have NB := Lib.hid N0
  clear P0 X0 N0 L0 hH
  clear hexit
  go_loopw [34, 35] (fun sh sj wr => ∃ (j : Nat) (h : Int), j ≤ 3 ∧ sj = .int .i64 j ∧ sh = .int .i64 h ∧ 0 ≤ h ∧ h ≤ 1 ∧ Hid (h = 1 → ∃ l, l < j ∧ hi l < unt n (us l)) ∧ Hid (PSt w wr n w.heap.size bd bv bh bs gc gv gh gs ck rd vL vU us la) ∧ Hid (Blk wr gx 69 #[.int .u16 dd, .int .u16 ln, .int .i8 s0, .int .i8 s1, .int .i8 s2, .int .i8 s3, .int .i8 s4, .int .i8 s5, .int .i8 s6, .int .i8 s7, .int .u8 ld, .int .u8 vo, .bool hd, .bool ag, .bool gi]) ∧ Hid (Blk wr gn 91 (narr lo hi))) (fun _ sj _ => 3 - (intOf sj).toNat)
  case atStart => exact ⟨0, 0, Nat.zero_le _, rfl, rfl, by omega, by omega, Lib.hid (fun h => by omega), P, XB, NB⟩
  case round =>
    clear P XB NB
    obtain ⟨j, h, hj, rfl, rfl, h0, h1, H1, P, XB, N⟩ := hrel
    rename World => wq
    by_cases hj3 : j < 3
    · have d0 : decide ((j : Int) < 3) = true := by simp; omega
      have w1 : IntKind.i64.wrap (h + 1) = h + 1 := IntWalk.i64_in _ (by omega)
      have hul := Lib.hid (LL.out.l j hj3)
      go_wp2_with fail
      refine play55 P.out XB.out N.out hj3 hn1 hn5 hul.out ?_
      intro x239 x240 x241 x242 x243 x244 x245 W6 hh
      obtain ⟨rfl, hP, hX, hN⟩ := hh
      have P6 := Lib.hid hP; have X6 := Lib.hid hX; have N6 := Lib.hid hN
      clear hP hX hN P XB N
      obtain ⟨bb, hbb⟩ : ∃ bb, (isS (lo j) (hi j) && decide (hi j < unt n (us j))) = bb := ⟨_, rfl⟩
      rw [hbb]
      have HB := Lib.hid hbb
      clear hbb
      cases bb
      · go_wp2_with fail
        go_roundw
        case rel => exact ⟨j + 1, h, by omega, by go_num, rfl, h0, h1, Lib.hid (fun e => by obtain ⟨l, a, b⟩ := H1.out e; exact ⟨l, by omega, b⟩), P6, X6, N6⟩
        case measure => simp [intOf]; omega
      · have hz : h = 0 := by
          have b := HB.out
          simp only [Bool.and_eq_true, decide_eq_true_eq] at b
          by_cases e : h = 0
          · exact e
          · obtain ⟨l, a, c⟩ := H1.out (by omega)
            exact absurd ⟨c, b.2⟩ (linv_one LL.out hn1 hn5 (by omega) hj3 (by omega) (HH.out l (by omega)) (HH.out j hj3))
        subst hz
        go_wp2_with fail
        go_roundw
        case rel => exact ⟨j + 1, 1, by omega, by go_num, by go_num, by omega, by omega, Lib.hid (fun e => ⟨j, by omega, by have b := HB.out; simp only [Bool.and_eq_true, decide_eq_true_eq] at b; exact b.2⟩), P6, X6, N6⟩
        case measure => simp [intOf]; omega
    · obtain rfl : j = 3 := by omega
      have d9 : decide (((3 : Nat) : Int) < 3) = false := by decide
      rw [show ((3 : Nat) : Int) = 3 from rfl]
      go_wp2_with fail
      exact HX.out _ _ _ _ _ _ _ _ _ _ _ _ _ _ _ _ ⟨h, rfl, h0, h1, P.out, XB.out, N.out⟩
end Go.Proofs.Ytajojpfenlafbaa
