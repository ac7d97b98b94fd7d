/- Leases in plays: the eight clocks go on. -/
import Derived.Test.YtajojpfenlafbaaLpR37
import Derived.Test.YtajojpfenlafbaaLpR38
set_option linter.unusedSimpArgs false
set_option linter.unusedVariables false
namespace Go.Proofs.Ytajojpfenlafbaa
open Go.RowKit Mo
attribute [local go_sem ↓] Go.wp_at_zero Go.wp_at_succ
noncomputable def lp35 : Code := ((Try.f25.body.bind (loopOf 35)).getD .skip)
set_option maxRecDepth 100000 in
set_option maxHeartbeats 8000000 in
theorem playL35 {Q : Exit → Act → World → Prop} {W : World} {v1 v2 v3 v4 v5 v6 v7 v10 v11 v12 v13 v14 v15 v16 v17 v18 v19 v20 v21 v26 v27 v28 v29 v30 v31 v32 v33 v34 v35 v36 v37 v38 v39 v40 v41 v42 v43 v44 v45 v46 v47 v48 v49 v50 v51 v52 v53 v54 v55 v56 v57 v58 v59 v60 v61 v62 v63 v64 v65 v66 v67 v68 v69 v70 v71 v72 v73 v74 v75 v76 v77 v78 v79 v80 v81 v82 v83 v84 v85 v86 v87 v88 v89 v90 v91 v92 v93 v94 v95 v96 v97 v98 v99 v100 v101 v102 v103 v104 v105 v106 v107 v108 v109 v110 v111 v112 v113 v114 v115 v116 v117 v118 v119 v120 v121 v122 v123 v124 v125 v126 v127 v128 v129 v130 v131 v132 v133 v134 v135 v136 v137 v138 v139 v140 v141 v142 v143 v144 v145 v146 v147 v148 v149 v150 v151 v152 v153 v154 v155 v156 v157 v158 v159 v160 v161 v162 v163 v164 v165 v166 v167 v168 v169 v170 v171 v172 v173 v174 v175 v176 v177 v178 v179 v180 v181 v182 v183 v184 v185 v186 v187 v188 v189 v190 v191 v192 v193 v194 v195 v196 v197 v198 v199 v200 v201 v202 v203 v204 v205 v206 v207 v208 v209 v210 v211 v212 v213 v214 v215 v216 v217 v218 v219 v220 v221 v222 v223 v224 v225 v226 v227 v228 v229 v230 v231 v232 v233 v234 v235 v236 v237 v238 v239 v240 v241 v242 v243 v244 v245 v246 v247 v248 v249 v250 v251 v252 v253 v254 v255 v256 v257 v258 v259 v260 v261 v262 v263 v264 v265 v266 v267 v268 v269 v270 v271 v272 v273 v274 v275 v276 v277 v278 v279 v280 v281 v282 v283 v284 v285 : Value} {w : World} {n bd bv bh bs : Nat} {gc gv gh gs : Nat → Nat} {ck : Nat → Ck} {rd : List Int} {vL vU : Nat → Int} {us : Nat → List Int} {la : Nat → Int} {dd ln s0 s1 s2 s3 s4 s5 s6 s7 ld vo : Int} {hd ag gi : Bool} {lo hi : Nat → Int} {gx gn : Nat} {t : Int} {k : Nat}
    (hrd : rd.length = 8) (P0 : PSt w W n w.heap.size bd bv bh bs gc gv gh gs ck rd vL vU us la) (X0 : Blk W gx 69 #[.int .u16 dd, .int .u16 ln, .int .i8 s0, .int .i8 s1, .int .i8 s2, .int .i8 s3, .int .i8 s4, .int .i8 s5, .int .i8 s6, .int .i8 s7, .int .u8 ld, .int .u8 vo, .bool hd, .bool ag, .bool gi]) (N0 : Blk W gn 91 (narr lo hi)) (hgn : w.heap.size ≤ gn) (h60 : k < 60) (I0 : ∀ i, i < 8 → HInv 4575657221408423936 (ck i) (rd.getD i 0) t k) (d0 : 0 ≤ dd) (d1 : dd ≤ 65535) (t0 : 0 ≤ t) (t1 : t ≤ 4398046511104) (hSK : ∀ i, i < 8 → -128 ≤ ([s0, s1, s2, s3, s4, s5, s6, s7] : List Int).getD i 0 ∧ ([s0, s1, s2, s3, s4, s5, s6, s7] : List Int).getD i 0 ≤ 127)
    (hexit : ∀ (x6 x25 x26 x27 x129 x130 x131 x132 x133 x134 x135 x136 x137 x138 x139 x140 x141 x142 x143 x144 x145 x146 x147 x148 x149 x150 x151 x152 x153 x154 x155 x156 x157 x158 x159 x160 x161 x162 x163 x164 x165 x166 x167 x168 x169 x170 x171 x172 x173 x174 : Value) (W' : World), (∃ (ck' : Nat → Ck) (rd' : List Int) (lo' hi' : Nat → Int), x25 = .int .i64 8 ∧ rd'.length = 8 ∧ PSt w W' n w.heap.size bd bv bh bs gc gv gh gs ck' rd' vL vU us la ∧ Blk W' gx 69 #[.int .u16 dd, .int .u16 ln, .int .i8 s0, .int .i8 s1, .int .i8 s2, .int .i8 s3, .int .i8 s4, .int .i8 s5, .int .i8 s6, .int .i8 s7, .int .u8 ld, .int .u8 vo, .bool hd, .bool ag, .bool gi] ∧ Blk W' gn 91 (narr lo' hi') ∧ (∀ i, i < 8 → HInv 4575657221408423936 (ck' i) (rd'.getD i 0) (t + dd) (k + 1) ∧ 0 ≤ lo' i ∧ lo' i ≤ t + dd ∧ t + dd ≤ hi' i ∧ hi' i ≤ 4398046511104)) → Q (.exit 8) ⟨(List.toArray ((.int .i64 (t + dd)) :: v1 :: v2 :: v3 :: v4 :: v5 :: x6 :: v7 :: (.pointer (some ⟨w.heap.size, 0, none⟩)) :: (.pointer (some ⟨bd, 0, none⟩)) :: v10 :: v11 :: v12 :: v13 :: v14 :: v15 :: v16 :: v17 :: v18 :: v19 :: v20 :: v21 :: (.pointer (some ⟨gx, 0, none⟩)) :: (.int .i64 (dd)) :: (.pointer (some ⟨gn, 0, none⟩)) :: x25 :: x26 :: x27 :: v28 :: v29 :: v30 :: v31 :: v32 :: v33 :: v34 :: v35 :: v36 :: v37 :: v38 :: v39 :: v40 :: v41 :: v42 :: v43 :: v44 :: v45 :: v46 :: v47 :: v48 :: v49 :: v50 :: v51 :: v52 :: v53 :: v54 :: v55 :: v56 :: v57 :: v58 :: v59 :: v60 :: v61 :: v62 :: v63 :: v64 :: v65 :: v66 :: v67 :: v68 :: v69 :: v70 :: v71 :: v72 :: v73 :: v74 :: v75 :: v76 :: v77 :: v78 :: v79 :: v80 :: v81 :: v82 :: v83 :: v84 :: v85 :: v86 :: v87 :: v88 :: v89 :: v90 :: v91 :: v92 :: v93 :: v94 :: v95 :: v96 :: v97 :: v98 :: v99 :: v100 :: v101 :: v102 :: v103 :: v104 :: v105 :: v106 :: v107 :: v108 :: v109 :: v110 :: v111 :: v112 :: v113 :: v114 :: v115 :: v116 :: v117 :: v118 :: v119 :: v120 :: v121 :: v122 :: v123 :: v124 :: v125 :: v126 :: v127 :: v128 :: x129 :: x130 :: x131 :: x132 :: x133 :: x134 :: x135 :: x136 :: x137 :: x138 :: x139 :: x140 :: x141 :: x142 :: x143 :: x144 :: x145 :: x146 :: x147 :: x148 :: x149 :: x150 :: x151 :: x152 :: x153 :: x154 :: x155 :: x156 :: x157 :: x158 :: x159 :: x160 :: x161 :: x162 :: x163 :: x164 :: x165 :: x166 :: x167 :: x168 :: x169 :: x170 :: x171 :: x172 :: x173 :: x174 :: v175 :: v176 :: v177 :: v178 :: v179 :: v180 :: v181 :: v182 :: v183 :: v184 :: v185 :: v186 :: v187 :: v188 :: v189 :: v190 :: v191 :: v192 :: v193 :: v194 :: v195 :: v196 :: v197 :: v198 :: v199 :: v200 :: v201 :: v202 :: v203 :: v204 :: v205 :: v206 :: v207 :: v208 :: v209 :: v210 :: v211 :: v212 :: v213 :: v214 :: v215 :: v216 :: v217 :: v218 :: v219 :: v220 :: v221 :: v222 :: v223 :: v224 :: v225 :: v226 :: v227 :: v228 :: v229 :: v230 :: v231 :: v232 :: v233 :: v234 :: v235 :: v236 :: v237 :: v238 :: v239 :: v240 :: v241 :: v242 :: v243 :: v244 :: v245 :: v246 :: v247 :: v248 :: v249 :: v250 :: v251 :: v252 :: v253 :: v254 :: v255 :: v256 :: v257 :: v258 :: v259 :: v260 :: v261 :: v262 :: v263 :: v264 :: v265 :: v266 :: v267 :: v268 :: v269 :: v270 :: v271 :: v272 :: v273 :: v274 :: v275 :: v276 :: v277 :: v278 :: v279 :: v280 :: v281 :: v282 :: v283 :: v284 :: v285 :: [])), []⟩ W') :
    Code.wp Try.prog lp35 Q ⟨(List.toArray ((.int .i64 (t + dd)) :: v1 :: v2 :: v3 :: v4 :: v5 :: v6 :: v7 :: (.pointer (some ⟨w.heap.size, 0, none⟩)) :: (.pointer (some ⟨bd, 0, none⟩)) :: v10 :: v11 :: v12 :: v13 :: v14 :: v15 :: v16 :: v17 :: v18 :: v19 :: v20 :: v21 :: (.pointer (some ⟨gx, 0, none⟩)) :: (.int .i64 (dd)) :: (.pointer (some ⟨gn, 0, none⟩)) :: (.int .i64 (0)) :: v26 :: v27 :: v28 :: v29 :: v30 :: v31 :: v32 :: v33 :: v34 :: v35 :: v36 :: v37 :: v38 :: v39 :: v40 :: v41 :: v42 :: v43 :: v44 :: v45 :: v46 :: v47 :: v48 :: v49 :: v50 :: v51 :: v52 :: v53 :: v54 :: v55 :: v56 :: v57 :: v58 :: v59 :: v60 :: v61 :: v62 :: v63 :: v64 :: v65 :: v66 :: v67 :: v68 :: v69 :: v70 :: v71 :: v72 :: v73 :: v74 :: v75 :: v76 :: v77 :: v78 :: v79 :: v80 :: v81 :: v82 :: v83 :: v84 :: v85 :: v86 :: v87 :: v88 :: v89 :: v90 :: v91 :: v92 :: v93 :: v94 :: v95 :: v96 :: v97 :: v98 :: v99 :: v100 :: v101 :: v102 :: v103 :: v104 :: v105 :: v106 :: v107 :: v108 :: v109 :: v110 :: v111 :: v112 :: v113 :: v114 :: v115 :: v116 :: v117 :: v118 :: v119 :: v120 :: v121 :: v122 :: v123 :: v124 :: v125 :: v126 :: v127 :: v128 :: v129 :: v130 :: v131 :: v132 :: v133 :: v134 :: v135 :: v136 :: v137 :: v138 :: v139 :: v140 :: v141 :: v142 :: v143 :: v144 :: v145 :: v146 :: v147 :: v148 :: v149 :: v150 :: v151 :: v152 :: v153 :: v154 :: v155 :: v156 :: v157 :: v158 :: v159 :: v160 :: v161 :: v162 :: v163 :: v164 :: v165 :: v166 :: v167 :: v168 :: v169 :: v170 :: v171 :: v172 :: v173 :: v174 :: v175 :: v176 :: v177 :: v178 :: v179 :: v180 :: v181 :: v182 :: v183 :: v184 :: v185 :: v186 :: v187 :: v188 :: v189 :: v190 :: v191 :: v192 :: v193 :: v194 :: v195 :: v196 :: v197 :: v198 :: v199 :: v200 :: v201 :: v202 :: v203 :: v204 :: v205 :: v206 :: v207 :: v208 :: v209 :: v210 :: v211 :: v212 :: v213 :: v214 :: v215 :: v216 :: v217 :: v218 :: v219 :: v220 :: v221 :: v222 :: v223 :: v224 :: v225 :: v226 :: v227 :: v228 :: v229 :: v230 :: v231 :: v232 :: v233 :: v234 :: v235 :: v236 :: v237 :: v238 :: v239 :: v240 :: v241 :: v242 :: v243 :: v244 :: v245 :: v246 :: v247 :: v248 :: v249 :: v250 :: v251 :: v252 :: v253 :: v254 :: v255 :: v256 :: v257 :: v258 :: v259 :: v260 :: v261 :: v262 :: v263 :: v264 :: v265 :: v266 :: v267 :: v268 :: v269 :: v270 :: v271 :: v272 :: v273 :: v274 :: v275 :: v276 :: v277 :: v278 :: v279 :: v280 :: v281 :: v282 :: v283 :: v284 :: v285 :: [])), []⟩ W := by
  conv => arg 2; whnf
  have SK := Lib.hid hSK; have HX := Lib.hid hexit
  have P := Lib.hid P0; have XB := Lib.hid X0; have NB := Lib.hid N0; have II := Lib.hid I0; have HRD := Lib.hid hrd
  clear hSK P0 X0 N0 I0 hrd
  clear hexit
  go_loopw [25] (fun sj wr => ∃ (j : Nat) (ck' : Nat → Ck) (rd' : List Int) (lo' hi' : Nat → Int), j ≤ 8 ∧ sj = .int .i64 j ∧ Hid (rd'.length = 8) ∧ Hid (PSt w wr n w.heap.size bd bv bh bs gc gv gh gs ck' rd' vL vU us la) ∧ Hid (Blk wr gx 69 #[.int .u16 dd, .int .u16 ln, .int .i8 s0, .int .i8 s1, .int .i8 s2, .int .i8 s3, .int .i8 s4, .int .i8 s5, .int .i8 s6, .int .i8 s7, .int .u8 ld, .int .u8 vo, .bool hd, .bool ag, .bool gi]) ∧ Hid (Blk wr gn 91 (narr lo' hi')) ∧ Hid (∀ i, i < j → HInv 4575657221408423936 (ck' i) (rd'.getD i 0) (t + dd) (k + 1) ∧ 0 ≤ lo' i ∧ lo' i ≤ t + dd ∧ t + dd ≤ hi' i ∧ hi' i ≤ 4398046511104) ∧ Hid (∀ i, j ≤ i → i < 8 → HInv 4575657221408423936 (ck' i) (rd'.getD i 0) t k)) (fun sj _ => 8 - (intOf sj).toNat)
  case atStart => exact ⟨0, ck, rd, lo, hi, Nat.zero_le _, rfl, HRD, P, XB, NB, Lib.hid (fun i h => absurd h (Nat.not_lt_zero _)), Lib.hid (fun i _ h => II.out i h)⟩
  case round =>
    clear P XB NB II HRD
    obtain ⟨j, ck', rd', lo', hi', hj, rfl, hrd, P, XB, N, I1, I2⟩ := hrel
    rename World => wq
    by_cases hj8 : j < 8
    · have hI := I2.out j (Nat.le_refl _) hj8
      have hsk := SK.out j hj8
      obtain ⟨sk, hskk⟩ : ∃ sk, ([s0, s1, s2, s3, s4, s5, s6, s7] : List Int).getD j 0 = sk := ⟨_, rfl⟩
      rw [hskk] at hsk
      obtain ⟨h, hh⟩ : ∃ h, rd'.getD j 0 = h := ⟨_, rfl⟩
      rw [hh] at hI
      obtain ⟨a1, a2, a3, a4, J2⟩ := hold_turn hI h60 dd sk d0 d1
      obtain ⟨mq, hmq⟩ : ∃ mq, dd / 256 = mq := ⟨_, rfl⟩
      rw [hmq] at a3 a4 J2
      obtain ⟨B, hB⟩ : ∃ B, bro sk mq = B := ⟨_, rfl⟩
      rw [hB] at a3 a4 J2
      obtain ⟨E1, E2, E3, J3⟩ := hold_now J2 (by omega)
      have E4 := hold_hi J2 (by omega)
      have hb2 : 0 ≤ h ∧ h ≤ 4398046511104 := by
        obtain ⟨S, _, _, _, b0, b1, _, _⟩ := hI
        have : (k : Int) * 8589934590 ≤ 60 * 8589934590 := by omega
        exact ⟨b0, by omega⟩
      obtain ⟨h0, h1⟩ := hb2
      obtain ⟨al, hal⟩ : ∃ al, ckLo (ck' j) (h + (dd - B)) = al := ⟨_, rfl⟩
      obtain ⟨ah, hah⟩ : ∃ ah, ckHi (ck' j) (h + (dd - B)) = ah := ⟨_, rfl⟩
      obtain ⟨c', hc'⟩ : ∃ c', ckNow (ck' j) (h + (dd - B)) = c' := ⟨_, rfl⟩
      rw [hal] at E2; rw [hah] at E3 E4; rw [hc'] at J3
      have al0 : 0 ≤ al := by rw [← hal]; exact ckLo_nonneg _ _
      have K1 := Lib.hid (show (ck' j).ok by obtain ⟨S, RR, _⟩ := J2; exact RR.ok)
      have HBB := Lib.hid hB; have AL := Lib.hid hal; have AH := Lib.hid hah; have EE := Lib.hid E1; have J4 := Lib.hid J3; have HH := Lib.hid hh; have HSK := Lib.hid hskk; have HMQ := Lib.hid hmq; have HC := Lib.hid hc'
      have t3 : decide (t + dd < al) = false := by simp; omega
      have t4 : decide (ah < t + dd) = false := by simp; omega
      obtain ⟨sk0, sk1⟩ := hsk
      clear hB hal hah E1 J3 J2 hI hh hskk hmq hc'
      go_wp2_with fail
      refine play37 hj8 hrd.out P.out XB.out N.out HSK.out sk0 sk1 HH.out h0 h1 d0 d1 HMQ.out HBB.out ?_
      intro x133 x134 x135 x136 x137 x138 x139 x140 x141 x142 x143 x144 x145 x146 x147 W6 P6 X6 N6
      have HP6 := Lib.hid P6; have HX6 := Lib.hid X6; have HN6 := Lib.hid N6
      clear P6 X6 N6 P XB N
      have e1 : Hid ((rd'.set j (h + (dd - B))).length = 8) := Lib.hid (by rw [List.length_set]; exact hrd.out)
      have e2 : Hid ((rd'.set j (h + (dd - B))).getD j 0 = h + (dd - B)) := Lib.hid (by rw [getD_st _ _ _ _ (by rw [hrd.out]; exact hj8), if_pos rfl])
      go_wp2_with fail
      refine play38 hj8 e1.out HP6.out HX6.out HN6.out e2.out K1.out EE.out AL.out AH.out HC.out ?_
      intro y26 y27 y148 y149 y150 y151 y152 y153 y154 y155 y156 y157 W8 hh
      obtain ⟨rfl, g, rfl, hg, hS, hP, hX, hN⟩ := hh
      have S8 := Lib.hid hS; have P8 := Lib.hid hP; have X8 := Lib.hid hX; have N8 := Lib.hid hN
      clear hS hP hX hN HP6 HX6 HN6
      obtain ⟨q0, q1⟩ := S8.out.c2
      obtain ⟨n0, n1⟩ := narr_at N8.out j hj8
      have nf0 := N8.out.frozen (j * 2); have nf1 := N8.out.frozen (j * 2 + 1)
      have sl := S8.out.lt; have nl := N8.out.lt
      have i0 : (0 : Int) ≤ (j : Int) := by omega
      have i1 : (j : Int) < 8 := by omega
      go_wp2_with fail
      go_roundw
      case rel => exact ⟨j + 1, _, _, upd lo' j al, upd hi' j ah, by omega, by go_num, e1, Lib.hid ((P8.out.far N8.out (by decide) hgn _ _).far (N8.out.set_ _ _) (by decide) hgn _ _), Lib.hid (Blk.far (Blk.far X8.out (Blk.ne_type X8.out N8.out (by decide)) _) (Blk.ne_type X8.out N8.out (by decide)) _), Lib.hid (by rw [← narr_set lo' hi' j hj8 al ah]; exact (N8.out.set_ _ _).set_ _ _), Lib.hid (fun i hi9 => by
        by_cases e : i = j
        · subst e
          rw [upd_same, upd_same, upd_same, e2.out]
          exact ⟨J4.out, al0, E2, E3, E4⟩
        · rw [upd_ne _ _ _ _ e, upd_ne _ _ _ _ e, upd_ne _ _ _ _ e, getD_st _ _ _ _ (by rw [hrd.out]; exact hj8), if_neg e]
          exact I1.out i (by omega)), Lib.hid (fun i h8 h9 => by
        rw [upd_ne _ _ _ _ (by omega), getD_st _ _ _ _ (by rw [hrd.out]; exact hj8), if_neg (by omega)]
        exact I2.out i (by omega) h9)⟩
      case measure => simp [intOf]; omega
    · obtain rfl : j = 8 := by omega
      have d9 : decide (((8 : Nat) : Int) < 8) = false := by decide
      rw [show ((8 : Nat) : Int) = 8 from rfl]
      go_wp2_with fail
      exact HX.out _ _ _ _ _ _ _ _ _ _ _ _ _ _ _ _ _ _ _ _ _ _ _ _ _ _ _ _ _ _ _ _ _ _ _ _ _ _ _ _ _ _ _ _ _ _ _ _ _ _ _ ⟨ck', rd', lo', hi', rfl, hrd.out, P.out, XB.out, N.out, fun i hi => I1.out i hi⟩
end Go.Proofs.Ytajojpfenlafbaa
