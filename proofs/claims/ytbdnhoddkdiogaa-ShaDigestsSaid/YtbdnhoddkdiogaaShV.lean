/- The last part of the document's digest's walk, as a theorem of its own: from region 48 on. -/
import Derived.Test.YtbdnhoddkdiogaaShF
import Derived.Test.YtbdnhoddkdiogaaSh5
set_option linter.unusedSimpArgs false
set_option linter.unusedVariables false
namespace Go.Proofs.Ytbdnhoddkdiogaa
open Go.RowKit

noncomputable def rights : Nat → Code → Code
  | n + 1, .seq _ b => rights n b
  | _, c => c
noncomputable def leftOf : Code → Code
  | .seq a _ => a
  | c => c
noncomputable def refBody : Code := Try.f17.body.getD .ret

set_option maxRecDepth 100000 in
set_option maxHeartbeats 100000000 in
theorem ref_tail {v0 v1 v3 v5 v6 v7 v8 v9 v10 v11 v12 v13 v14 v15 v16 v17 v18 v19 v20 v21 v22 v23 v24 v25 v26 v27 v28 v29 v30 v31 v32 v33 v34 v35 v36 v37 v38 v39 v40 v41 v42 v43 v44 v45 v46 v47 v48 v49 v50 v51 v52 v53 v54 v55 v56 v57 v58 v59 v60 v61 v62 v63 v64 v65 v66 v67 v68 v69 v70 v71 v72 v73 v74 v75 v76 v77 v78 v79 v80 v81 v82 v83 v84 v85 v86 v87 v88 v89 v90 v91 v92 v93 v94 v95 v96 v97 v98 v99 v100 v101 v102 v103 v104 v105 v106 v107 v108 v109 v110 v111 v112 v113 v114 v115 v116 v117 v118 v119 v120 v121 v122 v123 v124 v125 v126 v127 v128 v129 v130 v131 v132 v133 v134 v135 v136 v137 v138 v139 v140 v141 v142 v143 v144 v145 v146 v147 v148 v149 v150 v151 v152 v153 v154 v155 v156 v157 v158 v159 v160 v161 v162 v163 v164 v165 v166 v167 v168 v169 v170 v171 v172 v173 v174 v175 v176 v177 v178 v179 v180 v181 v182 v183 v184 v185 v186 v187 v188 v189 v190 v191 v192 v193 v194 v195 v196 v197 v198 v199 v200 v201 v202 v203 v204 v205 v206 v207 v208 v209 v210 v211 v212 v213 v214 v215 v216 v217 v218 v219 v220 v221 v222 v223 v224 v225 v226 v227 v228 v229 v230 v231 v232 v233 v234 v235 v236 v237 v238 v239 v240 v241 v242 v243 v244 v245 v246 v247 v248 v249 v250 v251 v252 v253 v254 v255 v256 v257 v258 v259 v260 v261 v262 v263 v264 v265 v266 v267 v268 v269 v270 v271 v272 v273 v274 v275 v276 v277 v278 v279 v280 v281 v282 v283 v284 v285 v286 v287 v288 v289 v290 v291 v292 v293 v294 v295 v296 v297 v298 v299 v300 v301 v302 v303 v304 v305 v306 v307 v308 v309 v310 v311 : Value} {w wr : World} {g4 c4 g5 g7 : Nat} {t hs D : List Int} (R1 : RefRel 25 57 w g4 g5 g7 t wr hs) (h8 : hs.length = 8) (hsb : ∀ x ∈ hs, 0 ≤ x ∧ x < 4294967296) (hd2 : D = Sha.outs hs 32)
    (KK : Act → World → Prop) (hKK : ∀ a w', Code.wp Try.prog (rights 11 refBody) (bodyPost Try.prog Try.f17 fun e w' => e = .returned (.agg (Sha.bytes D)) ∧ Below w.heap.size w w') a w' → KK a w') :
    Code.wp Try.prog (leftOf (rights 10 refBody)) (Exit.then KK (bodyPost Try.prog Try.f17 fun e w' => e = .returned (.agg (Sha.bytes D)) ∧ Below w.heap.size w w')) ⟨#[v0, v1, Value.pointer (some ⟨w.heap.size, 0, none⟩), v3, .slice (some ⟨g4, 0, none⟩) 8 c4, v5, v6, v7, v8, v9, v10, v11, v12, v13, v14, v15, v16, v17, v18, v19, v20, v21, v22, v23, v24, v25, v26, v27, v28, v29, v30, v31, v32, v33, v34, v35, v36, v37, v38, v39, v40, v41, v42, v43, v44, v45, v46, v47, v48, v49, v50, v51, v52, v53, v54, v55, v56, v57, v58, v59, v60, v61, v62, v63, v64, v65, v66, v67, v68, v69, v70, v71, v72, v73, v74, v75, v76, v77, v78, v79, v80, v81, v82, v83, v84, v85, v86, v87, v88, v89, v90, v91, v92, v93, v94, v95, v96, v97, v98, v99, v100, v101, v102, v103, v104, v105, v106, v107, v108, v109, v110, v111, v112, v113, v114, v115, v116, v117, v118, v119, v120, v121, v122, v123, v124, v125, v126, v127, v128, v129, v130, v131, v132, v133, v134, v135, v136, v137, v138, v139, v140, v141, v142, v143, v144, v145, v146, v147, v148, v149, v150, v151, v152, v153, v154, v155, v156, v157, v158, v159, v160, v161, v162, v163, v164, v165, v166, v167, v168, v169, v170, v171, v172, v173, v174, v175, v176, v177, v178, v179, v180, v181, v182, v183, v184, v185, v186, v187, v188, v189, v190, v191, v192, v193, v194, v195, v196, v197, v198, v199, v200, v201, v202, v203, v204, v205, v206, v207, v208, v209, v210, v211, v212, v213, v214, v215, v216, v217, v218, v219, v220, v221, v222, v223, v224, v225, v226, v227, v228, v229, v230, v231, v232, v233, v234, v235, v236, v237, v238, v239, v240, v241, v242, v243, v244, v245, v246, v247, v248, v249, v250, v251, v252, v253, v254, v255, v256, v257, v258, v259, v260, v261, v262, v263, v264, v265, v266, v267, v268, v269, v270, v271, v272, v273, v274, v275, v276, v277, v278, v279, v280, v281, v282, v283, v284, v285, v286, v287, v288, v289, v290, v291, v292, v293, v294, v295, v296, v297, v298, v299, v300, v301, v302, v303, v304, v305, v306, v307, v308, v309, v310, v311], []⟩ wr := by
  unfold refBody Try.f17 at *
  dsimp only [Option.getD, rights, leftOf] at *
  have HD2 := Lib.hid hd2
  clear hd2
  have HSB := Lib.hid hsb
  have Z32 := zero32
  have R2 := Lib.hid R1
  have hne4 : g4 ≠ wr.heap.size := by have := R1.hi4; omega
  clear R1 hsb
  have I32 : Hid ((Try.prog.info? 25).map (·.size) = some (Sha.bytes (List.replicate 32 0)).size) := Lib.hid (by rw [Sha.bytes_size]; kernel_rfl)
  go_wp2_with (refine wpList_store_block (o := ⟨none, _, _, _, _, _⟩) rfl 25 (.tmp 24) (.tmp 292) rfl wr.heap.size rfl (Sha.bytes (List.replicate 32 0)) rfl (Sha.bytes (List.replicate 32 0)) 25 (heap_alloc_new _ _) I32.out rfl (Sha.bytes_one _) ?_)
  have O0 : Hid (OutRel 25 57 w g4 wr.heap.size (Sha.pad (Sha.outs hs 0) 32) ((wr.alloc (.cells (Sha.bytes (List.replicate 32 0)) 25)).setRow wr.heap.size (Sha.bytes (List.replicate 32 0))) hs) := Lib.hid (by
    obtain ⟨cur, k1, k2⟩ := R2.out.h4
    have hlo := R2.out.lo
    have hhi := R2.out.hi4
    exact ⟨⟨cur, (setRow_other _ _ _ _ (by omega)).trans ((Below.heap_alloc _ _ _ hhi).trans k1), k2⟩, setRow_heap _ _ _ _ _ _ (heap_alloc_new _ _), (setRow_other _ _ _ _ (by omega)).trans ((Below.heap_alloc _ _ _ (by omega)).trans R2.out.zero),
      (R2.out.below.alloc R2.out.below.size _).setRow' R2.out.below.size _, by omega, hne4⟩)
  clear R2 Z32
  generalize wr.heap.size = B at O0 hne4 ⊢
  go_loopw [293] (fun i wr => ∃ q : Nat, q ≤ 32 ∧ i = .int .i64 q ∧ OutRel 25 57 w g4 B (Sha.pad (Sha.outs hs q) 32) wr hs) (fun i _ => 32 - (intOf i).toNat)
  case atStart => exact ⟨0, by omega, rfl, O0.out⟩
  case round =>
    clear O0
    obtain ⟨q, hq, rfl, O1⟩ := hrel
    by_cases hlt9 : q < 32
    · obtain ⟨l, hl⟩ : ∃ l, l = Sha.pad (Sha.outs hs q) 32 := ⟨_, rfl⟩
      have hl32 : l.length = 32 := by rw [hl, Sha.pad_length _ _ (by rw [Sha.outs_length]; omega)]
      rw [← hl] at O1
      obtain ⟨x, hx⟩ : ∃ x, x = hs.getD (q / 4) 0 := ⟨_, rfl⟩
      have cx := O1.cell4 (q / 4) (by omega)
      rw [← hx] at cx
      obtain ⟨x0, x1⟩ := Sha.getD_bound HSB.out (q / 4) (by omega)
      rw [← hx] at x0 x1
      have cB := O1.cellB q (by omega)
      have fB := O1.freeB q
      have r1 : (q : Int).tdiv 4 = ((q / 4 : Nat) : Int) := by rw [Int.tdiv_eq_ediv_of_nonneg (by omega)]; omega
      have r2 : (q : Int).tmod 4 = ((q % 4 : Nat) : Int) := by rw [Int.tmod_eq_emod_of_nonneg (by omega)]; omega
      have r3 : IntKind.i64.wrap ((q / 4 : Nat) : Int) = ((q / 4 : Nat) : Int) := IntWalk.i64_in _ (by omega)
      have r4 : IntKind.i64.wrap ((q % 4 : Nat) : Int) = ((q % 4 : Nat) : Int) := IntWalk.i64_in _ (by omega)
      have r5 : IntKind.i64.wrap (8 * ((q % 4 : Nat) : Int)) = 8 * ((q % 4 : Nat) : Int) := IntWalk.i64_in _ (by omega)
      have r6 : IntKind.i64.wrap (24 - 8 * ((q % 4 : Nat) : Int)) = ((24 - 8 * (q % 4) : Nat) : Int) := by rw [show 24 - 8 * ((q % 4 : Nat) : Int) = ((24 - 8 * (q % 4) : Nat) : Int) by omega]; exact IntWalk.i64_in _ (by omega)
      have r7 : IntKind.u64.wrap ((24 - 8 * (q % 4) : Nat) : Int) = ((24 - 8 * (q % 4) : Nat) : Int) := by unfold IntKind.wrap; simp [IntKind.signed, IntKind.bits]; omega
      have r8 : ((q / 4 : Nat) : Int) < 8 := by omega
      have HL := Lib.hid hl
      have HX := Lib.hid hx
      have O2 := Lib.hid O1
      generalize hk4 : q / 4 = k4 at *
      generalize hm4 : q % 4 = m4 at *
      generalize hs4 : 24 - 8 * m4 = sh at *
      have hshb : sh ≤ 24 := by omega
      clear O1 hl hx
      go_wp2
      refine ⟨⟨q + 1, by omega, by go_num, ?_⟩, by simp [intOf]; omega⟩
      have O3 := O2.out.set q (x / 2 ^ sh % 256)
      have e := Sha.pad_set (Sha.outs hs q) 32 (Sha.outByte hs q) (by rw [Sha.outs_length]; omega)
      rw [Sha.outs_length] at e
      have eo : Sha.outByte hs q = x / 2 ^ sh % 256 := by
        unfold Sha.outByte
        rw [hk4, hm4, hs4, ← HX.out]
      rw [HL.out, ← eo, e] at O3
      exact eo ▸ O3
    · have hq32 : decide ((q : Int) < 32) = false := by simp; omega
      have hD : D.length = 32 := by rw [HD2.out, Sha.outs_length]
      have O2 : OutRel 25 57 w g4 B D wr hs := by
        obtain rfl : q = 32 := by omega
        rw [show Sha.pad (Sha.outs hs 32) 32 = Sha.outs hs 32 by unfold Sha.pad; rw [Sha.outs_length]; simp, ← HD2.out] at O1
        exact O1
      have hD1 : (Sha.bytes D).size = 32 := by rw [Sha.bytes_size, hD]
      have hD0 : (Sha.bytes (List.replicate 32 0)).size = 32 := by rw [Sha.bytes_size]; rfl
      have IDD : Hid ((Try.prog.info? 25).map (·.size) = some (Sha.bytes D).size) := Lib.hid (by rw [hD1]; kernel_rfl)
      obtain ⟨zs, hzs⟩ : ∃ zs, zs = Sha.bytes (List.replicate 32 0) := ⟨_, rfl⟩
      have zz := O2.zero
      rw [← hzs] at zz hD0
      have HZZ := Lib.hid zz
      have HSZ := Lib.hid (hD0.trans hD1.symm)
      have O3 := Lib.hid O2
      clear O1 O2 zz hzs hD1 hD0
      go_wp2_with (first | (with_reducible refine wpList_load_row (o := ⟨some 311, _, _, _, _, _⟩) rfl 25 (.tmp 24) rfl B rfl 25 (Sha.bytes D) (0, 0) _ O3.out.out Try.underlying25 rfl IDD.out ?_) | (with_reducible refine wpList_store_block (o := ⟨none, _, _, _, _, _⟩) rfl 25 (.tmp 2) (.tmp 311) rfl w.heap.size rfl (Sha.bytes D) rfl zs 25 HZZ.out IDD.out HSZ.out (Sha.bytes_one _) ?_))
      exact bodyPost_ret (results_cell_row rfl _ _ w.heap.size 25 (Sha.bytes D) (0, 0) _ rfl (setRow_heap _ _ _ _ _ _ HZZ.out) Try.underlying25 rfl IDD.out) rfl ⟨rfl, O3.out.below.setRow' (Nat.le_refl _) _⟩
end Go.Proofs.Ytbdnhoddkdiogaa
