/- The blocks of the document's digest's walk, as a theorem of its own. -/
import Derived.Test.YtbdnhoddkdiogaaSh20
import Derived.Test.YtbdnhoddkdiogaaShT
import Derived.Test.YtbdnhoddkdiogaaShG
import Derived.Test.YtbdnhoddkdiogaaShF
import Derived.Test.YtbdnhoddkdiogaaShU
import Derived.Test.YtbdnhoddkdiogaaShV
import Derived.Test.YtbdnhoddkdiogaaShK
import Derived.Test.YtbdnhoddkdiogaaSh6
import Derived.StillTailTactics
set_option linter.unusedSimpArgs false
set_option linter.unusedVariables false
namespace Go.Proofs.Ytbdnhoddkdiogaa
open Go.RowKit

theorem u32_info : ∃ i, Try.prog.info? 57 = some i ∧ i.zero = some (.int .u32 0) ∧ i.size = 1 ∧ i.bytes = 4 :=
  info_parts (by kernel_rfl)
theorem one_word (w : World) (x : Int) : ∀ j, j < [x].length → (w.alloc (.cells #[.int .u32 x] 57)).cell? ⟨w.heap.size, 0 + j, none⟩ = some (.int .u32 ([x].getD j 0)) := by
  intro j hj
  obtain rfl : j = 0 := by simp at hj; omega
  exact cell_of_row _ _ 0 #[.int .u32 x] _ _ (heap_alloc_new _ _)
theorem take_succ_getD (l : List Int) (k : Nat) (h : k < l.length) : l.take (k + 1) = l.take k ++ [l.getD k 0] := by
  rw [List.take_add_one, List.getElem?_eq_getElem h, List.getD_eq_getElem?_getD, List.getElem?_eq_getElem h]
  rfl

noncomputable def rightOf : Code → Code
  | .seq _ b => b
  | c => c
set_option maxRecDepth 100000 in
set_option maxHeartbeats 100000000 in
theorem ref_blocks {v0 v1 v3 v6 v8 v9 v10 v11 v12 v13 v14 v15 v16 v17 v18 v19 v20 v21 v22 v23 v24 v25 v26 v27 v28 v29 v30 v31 v32 v33 v34 v35 v36 v37 v38 v39 v40 v41 v42 v43 v44 v45 v46 v47 v48 v49 v50 v51 v52 v53 v54 v55 v56 v57 v58 v59 v60 v61 v62 v63 v64 v65 v66 v67 v68 v69 v70 v71 v72 v73 v74 v75 v76 v77 v78 v79 v80 v81 v82 v83 v84 v85 v86 v87 v88 v89 v90 v91 v92 v93 v94 v95 v96 v97 v98 v99 v100 v101 v102 v103 v104 v105 v106 v107 v108 v109 v110 v111 v112 v113 v114 v115 v116 v117 v118 v119 v120 v121 v122 v123 v124 v125 v126 v127 v128 v129 v130 v131 v132 v133 v134 v135 v136 v137 v138 v139 v140 v141 v142 v143 v144 v145 v146 v147 v148 v149 v150 v151 v152 v153 v154 v155 v156 v157 v158 v159 v160 v161 v162 v163 v164 v165 v166 v167 v168 v169 v170 v171 v172 v173 v174 v175 v176 v177 v178 v179 v180 v181 v182 v183 v184 v185 v186 v187 v188 v189 v190 v191 v192 v193 v194 v195 v196 v197 v198 v199 v200 v201 v202 v203 v204 v205 v206 v207 v208 v209 v210 v211 v212 v213 v214 v215 v216 v217 v218 v219 v220 v221 v222 v223 v224 v225 v226 v227 v228 v229 v230 v231 v232 v233 v234 v235 v236 v237 v238 v239 v240 v241 v242 v243 v244 v245 v246 v247 v248 v249 v250 v251 v252 v253 v254 v255 v256 v257 v258 v259 v260 v261 v262 v263 v264 v265 v266 v267 v268 v269 v270 v271 v272 v273 v274 v275 v276 v277 v278 v279 v280 v281 v282 v283 v284 v285 v286 v287 v288 v289 v290 v291 v292 v293 v294 v295 v296 v297 v298 v299 v300 v301 v302 v303 v304 v305 v306 v307 v308 v309 v310 v311 : Value} {w wr : World} {g4 c4 g5 c5 g7 N cap2 : Nat} {xs D : List Int} (r0 : RefRel 25 57 w g4 g5 g7 (Sha.text xs) wr (Sha.hashes (Sha.text xs) 0)) (hTb : N % 64 = 0) (htn : (Sha.text xs).length = N) (hg7c : N ≤ cap2)
    (hN0 : N ≤ 2199023255552) (hb : ∀ x ∈ xs, 0 ≤ x ∧ x < 256) (hd : D = Sha.of xs)
    (KK : Act → World → Prop) (hKK : ∀ a w', Code.wp Try.prog (rights 10 refBody) (bodyPost Try.prog Try.f17 fun e w' => e = .returned (.agg (Sha.bytes D)) ∧ Below w.heap.size w w') a w' → KK a w') (K1 : Act → World → Prop) (hK1 : ∀ a w', Code.wp Try.prog (rightOf (leftOf (rights 9 refBody))) (Exit.then KK (bodyPost Try.prog Try.f17 fun e w' => e = .returned (.agg (Sha.bytes D)) ∧ Below w.heap.size w w')) a w' → K1 a w') :
    Code.wp Try.prog (leftOf (leftOf (rights 9 refBody))) (Exit.then K1 (Exit.then KK (bodyPost Try.prog Try.f17 fun e w' => e = .returned (.agg (Sha.bytes D)) ∧ Below w.heap.size w w'))) ⟨#[v0, v1, Value.pointer (some ⟨w.heap.size, 0, none⟩), v3, .slice (some ⟨g4, 0, none⟩) 8 c4, .slice (some ⟨g5, 0, none⟩) 64 c5, v6, .slice (some ⟨g7, 0, none⟩) N cap2, v8, v9, v10, v11, v12, v13, v14, v15, v16, v17, v18, v19, v20, v21, v22, v23, v24, v25, v26, v27, v28, v29, v30, v31, v32, v33, v34, v35, v36, v37, v38, v39, v40, v41, v42, v43, v44, v45, v46, v47, v48, v49, v50, v51, v52, v53, v54, v55, v56, v57, v58, v59, v60, v61, v62, v63, v64, v65, v66, v67, v68, v69, v70, v71, v72, v73, v74, v75, v76, v77, v78, v79, v80, v81, v82, v83, v84, v85, v86, v87, v88, v89, v90, v91, v92, v93, v94, v95, v96, v97, v98, v99, v100, v101, v102, v103, v104, v105, v106, v107, v108, v109, v110, v111, v112, v113, v114, v115, v116, v117, v118, v119, v120, v121, v122, v123, v124, v125, v126, v127, v128, v129, v130, v131, v132, v133, v134, v135, v136, v137, v138, v139, v140, v141, v142, v143, v144, v145, v146, v147, v148, v149, v150, v151, v152, v153, v154, v155, v156, v157, v158, v159, v160, v161, v162, v163, v164, v165, v166, v167, v168, v169, v170, v171, v172, v173, v174, v175, v176, v177, v178, v179, v180, v181, v182, v183, v184, v185, v186, v187, v188, v189, v190, v191, v192, v193, v194, v195, v196, v197, v198, v199, v200, v201, v202, v203, v204, v205, v206, v207, v208, v209, v210, v211, v212, v213, v214, v215, v216, v217, v218, v219, v220, v221, v222, v223, v224, v225, v226, v227, v228, v229, v230, v231, v232, v233, v234, v235, v236, v237, v238, v239, v240, v241, v242, v243, v244, v245, v246, v247, v248, v249, v250, v251, v252, v253, v254, v255, v256, v257, v258, v259, v260, v261, v262, v263, v264, v265, v266, v267, v268, v269, v270, v271, v272, v273, v274, v275, v276, v277, v278, v279, v280, v281, v282, v283, v284, v285, v286, v287, v288, v289, v290, v291, v292, v293, v294, v295, v296, v297, v298, v299, v300, v301, v302, v303, v304, v305, v306, v307, v308, v309, v310, v311], []⟩ wr := by
  have R0 := Lib.hid r0
  have HTN := Lib.hid htn
  have HB := Lib.hid hb
  have HD := Lib.hid hd
  clear r0 htn hb hd
  unfold refBody Try.f17 at *
  dsimp only [Option.getD, rights, leftOf, rightOf] at *
  go_wp2
  go_loopw [10] (fun i wr => ∃ m : Nat, 64 * m ≤ N ∧ i = .int .i64 (64 * (m : Int)) ∧ RefRel 25 57 w g4 g5 g7 (Sha.text xs) wr (Sha.hashes (Sha.text xs) m)) (fun i _ => N - (intOf i).toNat)
  case atStart => exact ⟨0, by omega, rfl, R0.out⟩
  case round =>
    clear R0
    obtain ⟨m, hm, rfl, R1⟩ := hrel
    by_cases hlt : 64 * m < N
    · obtain ⟨wC, hwC⟩ : ∃ x, x = wr := ⟨_, rfl⟩
      subst hwC
      have R2 := Lib.hid R1
      clear R1
      go_wp2
      have K0 := Lib.hid (RowK.nil .u32 57 wC)
      obtain ⟨T, hT⟩ : ∃ T, T = (Sha.text xs).drop (64 * m) := ⟨_, rfl⟩
      have HT := Lib.hid hT
      clear hT
      go_loopw [11, 12] (fun v i wr => ∃ (q : Nat) (a : Option Addr) (cap : Nat), q ≤ 16 ∧ v = .slice a q cap ∧ i = .int .i64 q ∧ RowK .u32 57 wC wr v (Sha.sched T q)) (fun _ i _ => 16 - (intOf i).toNat)
      case atStart => exact ⟨0, none, 0, by omega, rfl, rfl, K0.out⟩
      case round =>
        clear K0
        obtain ⟨q, a3, cap3', hq, rfl, rfl, K1⟩ := hrel
        by_cases hlt2 : q < 16
        · obtain ⟨P0, hP0⟩ : ∃ P0, P0 = 64 * m + 4 * q := ⟨_, rfl⟩
          have hPN : P0 + 4 ≤ N := by omega
          have e1 : IntKind.i64.wrap (4 * (q : Int)) = 4 * (q : Int) := IntWalk.i64_in _ (by omega)
          have e2 : IntKind.i64.wrap (64 * (m : Int) + 4 * (q : Int)) = (P0 : Int) := by rw [show 64 * (m : Int) + 4 * (q : Int) = (P0 : Int) by omega]; exact IntWalk.i64_in _ (by omega)
          have htb := Sha.text_bound xs HB.out
          have hc : ∀ c, P0 + c < N → ∀ W, Below wC.heap.size wC W → W.cell? ⟨g7, 0 + (P0 + c), none⟩ = some (.int .u8 ((Sha.text xs).getD (P0 + c) 0)) := fun c hc W hW => by
            rw [Nat.zero_add]
            exact (R2.out.past hW).t7 _ (by rw [HTN.out]; exact hc)
          have hy : ∀ c, P0 + c < N → 0 ≤ (Sha.text xs).getD (P0 + c) 0 ∧ (Sha.text xs).getD (P0 + c) 0 < 256 := fun c hc => Sha.getD_bound8 htb _ (by rw [HTN.out]; exact hc)
          have hw : ∀ c, T.getD (4 * q + c) 0 = (Sha.text xs).getD (P0 + c) 0 := fun c => by rw [HT.out, List.getD_eq_getElem?_getD, List.getElem?_drop, List.getD_eq_getElem?_getD, show 64 * m + (4 * q + c) = P0 + c by omega]
          have c0 := hc 0 (by omega)
          have c1 := hc 1 (by omega)
          have c2 := hc 2 (by omega)
          have c3 := hc 3 (by omega)
          obtain ⟨b00, b01⟩ := hy 0 (by omega)
          obtain ⟨b10, b11⟩ := hy 1 (by omega)
          obtain ⟨b20, b21⟩ := hy 2 (by omega)
          obtain ⟨b30, b31⟩ := hy 3 (by omega)
          have HW : Hid (Sha.next T (Sha.sched T q) q = (((Sha.text xs).getD (P0 + 0) 0 * 256 + (Sha.text xs).getD (P0 + 1) 0) * 256 + (Sha.text xs).getD (P0 + 2) 0) * 256 + (Sha.text xs).getD (P0 + 3) 0) := Lib.hid (by
            unfold Sha.next
            rw [if_pos hlt2]
            unfold Sha.word
            rw [← hw 0, ← hw 1, ← hw 2, ← hw 3]
            rfl)
          generalize (Sha.text xs).getD (P0 + 0) 0 = y0 at *
          generalize (Sha.text xs).getD (P0 + 1) 0 = y1 at *
          generalize (Sha.text xs).getD (P0 + 2) 0 = y2 at *
          generalize (Sha.text xs).getD (P0 + 3) 0 = y3 at *
          have HC0 := Lib.hid c0
          have HC1 := Lib.hid c1
          have HC2 := Lib.hid c2
          have HC3 := Lib.hid c3
          have B1 : Hid (bits .or .u32 (y0 * 16777216) (y1 * 65536) = (y0 * 256 + y1) * 65536) := Lib.hid (by rw [or_24 _ _ b00 b01 b10 b11]; omega)
          have B2 : Hid (bits .or .u32 ((y0 * 256 + y1) * 65536) (y2 * 256) = ((y0 * 256 + y1) * 256 + y2) * 256) := Lib.hid (by rw [or_16 _ _ (by omega) (by omega) b20 b21]; omega)
          have B3 : Hid (bits .or .u32 (((y0 * 256 + y1) * 256 + y2) * 256) y3 = ((y0 * 256 + y1) * 256 + y2) * 256 + y3) := Lib.hid (or_8 _ _ (by omega) (by omega) b30 b31)
          have K2 := Lib.hid K1
          have hl3 : (Sha.sched T q).length = q := Sha.sched_length T q
          have HL3 := Lib.hid hl3
          clear c0 c1 c2 c3 hc hy hw htb K1 hl3 hP0
          go_wp2
          refine frame_letter (fun A => A.tmps.size = 312 ∧ A.eval (.tmp 7) = .slice (some ⟨g7, 0, none⟩) N cap2 ∧ A.eval (.tmp 11) = .slice a3 q cap3' ∧ A.eval (.tmp 13) = .int .i64 (P0 : Int)) ⟨by rfl, rfl, rfl, rfl⟩ (fun A hC hA => ?_)
          obtain ⟨hsz, h7, h11, h13⟩ := hC
          refine wp_region_noPanic ?_
          refine wp_region_E 32 (Below wC.heap.size wC) (by as_aux_lemma => kernel_rfl) ?_
          refine wpAnyE_takeD (i := 0) (d := 93) (oi := _) (v := .slice a3 q cap3') rfl (by as_aux_lemma => kernel_rfl) (by as_aux_lemma => kernel_rfl) (by as_aux_lemma => kernel_rfl) (by as_aux_lemma => kernel_rfl) (by decide) (by as_aux_lemma => kernel_rfl) rfl (fun _ _ _ h => h) (yieldsMove (.tmp 11) rfl rfl (by simp [eval_put, eval_const', size_put, hsz, h7, h11, h13])) K2.out.below.drew ?_
          refine wpAnyE_takeD (i := 1) (d := 94) (oi := _) (v := .slice (some ⟨g7, 0, none⟩) N cap2) rfl (by as_aux_lemma => kernel_rfl) (by as_aux_lemma => kernel_rfl) (by as_aux_lemma => kernel_rfl) (by as_aux_lemma => kernel_rfl) (by decide) (by as_aux_lemma => kernel_rfl) rfl (fun _ _ _ h => h) (yieldsMove (.tmp 7) rfl rfl (by simp [eval_put, eval_const', size_put, hsz, h7, h11, h13])) K2.out.below.drew ?_
          refine wpAnyE_takeD (i := 2) (d := 95) (oi := _) (v := .int .i64 (P0 : Int)) rfl (by as_aux_lemma => kernel_rfl) (by as_aux_lemma => kernel_rfl) (by as_aux_lemma => kernel_rfl) (by as_aux_lemma => kernel_rfl) (by decide) (by as_aux_lemma => kernel_rfl) rfl (fun _ _ _ h => h) (yieldsMove (.tmp 13) rfl rfl (by simp [eval_put, eval_const', size_put, hsz, h7, h11, h13])) K2.out.below.drew ?_
          refine wpAnyE_takeD (i := 3) (d := 96) (oi := _) (v := .pointer (some ⟨g7, 0 + (P0 + 0), none⟩)) rfl (by as_aux_lemma => kernel_rfl) (by as_aux_lemma => kernel_rfl) (by as_aux_lemma => kernel_rfl) (by as_aux_lemma => kernel_rfl) (by decide) (by as_aux_lemma => kernel_rfl) rfl (fun _ _ _ h => h) (yieldsIdx 22 5 (.tmp 94) (.tmp 95) g7 0 N cap2 (P0 + 0) rfl rfl (by simp [eval_put, eval_const', size_put, hsz, h7, h11, h13]) (by simp [eval_put, eval_const', size_put, hsz, h7, h11, h13]) (by omega) Try.underlying22 Try.sizeOf5 rfl) K2.out.below.drew ?_
          refine wpAnyE_takeD (i := 4) (d := 97) (oi := _) (v := .int .u8 y0) rfl (by as_aux_lemma => kernel_rfl) (by as_aux_lemma => kernel_rfl) (by as_aux_lemma => kernel_rfl) (by as_aux_lemma => kernel_rfl) (by decide) (by as_aux_lemma => kernel_rfl) rfl (fun _ _ _ h => h) (yieldsLoad 5 .u8 (.tmp 96) g7 (0 + (P0 + 0)) y0 rfl rfl (by simp [eval_put, eval_const', size_put, hsz, h7, h11, h13]) Try.underlying5 HC0.out rfl) K2.out.below.drew ?_
          refine wpAnyE_takeD (i := 5) (d := 98) (oi := _) (v := .int .u32 y0) rfl (by as_aux_lemma => kernel_rfl) (by as_aux_lemma => kernel_rfl) (by as_aux_lemma => kernel_rfl) (by as_aux_lemma => kernel_rfl) (by decide) (by as_aux_lemma => kernel_rfl) rfl (fun _ _ _ h => h) (yieldsConv 5 57 (.tmp 97) (.int .u8 y0) rfl rfl (by simp [eval_put, eval_const', size_put, hsz, h7, h11, h13]) (run_conv8 _ _ _ Try.underlying5 Try.underlying57 b00 b01)) K2.out.below.drew ?_
          refine wpAnyE_takeD (i := 6) (d := 99) (oi := _) (v := .int .u32 (y0 * 16777216)) rfl (by as_aux_lemma => kernel_rfl) (by as_aux_lemma => kernel_rfl) (by as_aux_lemma => kernel_rfl) (by as_aux_lemma => kernel_rfl) (by decide) (by as_aux_lemma => kernel_rfl) rfl (fun _ _ _ h => h) (yieldsBin .shl 57 68 (.tmp 98) (.const (.int .u64 24)) (.int .u32 y0) (.int .u64 24) rfl rfl (by simp [eval_put, eval_const', size_put, hsz, h7, h11, h13]) (by simp [eval_put, eval_const', size_put, hsz, h7, h11, h13]) (guardInt _ _ _ _ _ _ _) (run_shl32 _ _ _ 24 (by omega) (by omega))) K2.out.below.drew ?_
          refine wpAnyE_takeD (i := 7) (d := 100) (oi := _) (v := .slice (some ⟨g7, 0, none⟩) N cap2) rfl (by as_aux_lemma => kernel_rfl) (by as_aux_lemma => kernel_rfl) (by as_aux_lemma => kernel_rfl) (by as_aux_lemma => kernel_rfl) (by decide) (by as_aux_lemma => kernel_rfl) rfl (fun _ _ _ h => h) (yieldsMove (.tmp 7) rfl rfl (by simp [eval_put, eval_const', size_put, hsz, h7, h11, h13])) K2.out.below.drew ?_
          refine wpAnyE_takeD (i := 8) (d := 101) (oi := _) (v := .int .i64 (P0 : Int)) rfl (by as_aux_lemma => kernel_rfl) (by as_aux_lemma => kernel_rfl) (by as_aux_lemma => kernel_rfl) (by as_aux_lemma => kernel_rfl) (by decide) (by as_aux_lemma => kernel_rfl) rfl (fun _ _ _ h => h) (yieldsMove (.tmp 13) rfl rfl (by simp [eval_put, eval_const', size_put, hsz, h7, h11, h13])) K2.out.below.drew ?_
          refine wpAnyE_takeD (i := 9) (d := 102) (oi := _) (v := .int .i64 ((P0 + 1 : Nat) : Int)) rfl (by as_aux_lemma => kernel_rfl) (by as_aux_lemma => kernel_rfl) (by as_aux_lemma => kernel_rfl) (by as_aux_lemma => kernel_rfl) (by decide) (by as_aux_lemma => kernel_rfl) rfl (fun _ _ _ h => h) (yieldsBin .add 3 3 (.tmp 101) (.const (.int .i64 1)) (.int .i64 (P0 : Int)) (.int .i64 1) rfl rfl (by simp [eval_put, eval_const', size_put, hsz, h7, h11, h13]) (by simp [eval_put, eval_const', size_put, hsz, h7, h11, h13]) (guardInt _ _ _ _ _ _ _) (run_addI _ _ _ _ (by omega) (by omega) (by omega))) K2.out.below.drew ?_
          refine wpAnyE_takeD (i := 10) (d := 103) (oi := _) (v := .pointer (some ⟨g7, 0 + (P0 + 1), none⟩)) rfl (by as_aux_lemma => kernel_rfl) (by as_aux_lemma => kernel_rfl) (by as_aux_lemma => kernel_rfl) (by as_aux_lemma => kernel_rfl) (by decide) (by as_aux_lemma => kernel_rfl) rfl (fun _ _ _ h => h) (yieldsIdx 22 5 (.tmp 100) (.tmp 102) g7 0 N cap2 (P0 + 1) rfl rfl (by simp [eval_put, eval_const', size_put, hsz, h7, h11, h13]) (by simp [eval_put, eval_const', size_put, hsz, h7, h11, h13]) (by omega) Try.underlying22 Try.sizeOf5 rfl) K2.out.below.drew ?_
          refine wpAnyE_takeD (i := 11) (d := 104) (oi := _) (v := .int .u8 y1) rfl (by as_aux_lemma => kernel_rfl) (by as_aux_lemma => kernel_rfl) (by as_aux_lemma => kernel_rfl) (by as_aux_lemma => kernel_rfl) (by decide) (by as_aux_lemma => kernel_rfl) rfl (fun _ _ _ h => h) (yieldsLoad 5 .u8 (.tmp 103) g7 (0 + (P0 + 1)) y1 rfl rfl (by simp [eval_put, eval_const', size_put, hsz, h7, h11, h13]) Try.underlying5 HC1.out rfl) K2.out.below.drew ?_
          refine wpAnyE_takeD (i := 12) (d := 105) (oi := _) (v := .int .u32 y1) rfl (by as_aux_lemma => kernel_rfl) (by as_aux_lemma => kernel_rfl) (by as_aux_lemma => kernel_rfl) (by as_aux_lemma => kernel_rfl) (by decide) (by as_aux_lemma => kernel_rfl) rfl (fun _ _ _ h => h) (yieldsConv 5 57 (.tmp 104) (.int .u8 y1) rfl rfl (by simp [eval_put, eval_const', size_put, hsz, h7, h11, h13]) (run_conv8 _ _ _ Try.underlying5 Try.underlying57 b10 b11)) K2.out.below.drew ?_
          refine wpAnyE_takeD (i := 13) (d := 106) (oi := _) (v := .int .u32 (y1 * 65536)) rfl (by as_aux_lemma => kernel_rfl) (by as_aux_lemma => kernel_rfl) (by as_aux_lemma => kernel_rfl) (by as_aux_lemma => kernel_rfl) (by decide) (by as_aux_lemma => kernel_rfl) rfl (fun _ _ _ h => h) (yieldsBin .shl 57 68 (.tmp 105) (.const (.int .u64 16)) (.int .u32 y1) (.int .u64 16) rfl rfl (by simp [eval_put, eval_const', size_put, hsz, h7, h11, h13]) (by simp [eval_put, eval_const', size_put, hsz, h7, h11, h13]) (guardInt _ _ _ _ _ _ _) (run_shl32 _ _ _ 16 (by omega) (by omega))) K2.out.below.drew ?_
          refine wpAnyE_takeD (i := 14) (d := 107) (oi := _) (v := .int .u32 ((y0 * 256 + y1) * 65536)) rfl (by as_aux_lemma => kernel_rfl) (by as_aux_lemma => kernel_rfl) (by as_aux_lemma => kernel_rfl) (by as_aux_lemma => kernel_rfl) (by decide) (by as_aux_lemma => kernel_rfl) rfl (fun _ _ _ h => h) (yieldsBin .or 57 57 (.tmp 99) (.tmp 106) (.int .u32 (y0 * 16777216)) (.int .u32 (y1 * 65536)) rfl rfl (by simp [eval_put, eval_const', size_put, hsz, h7, h11, h13]) (by simp [eval_put, eval_const', size_put, hsz, h7, h11, h13]) (guardInt _ _ _ _ _ _ _) (run_or32 _ _ _ _ B1.out)) K2.out.below.drew ?_
          refine wpAnyE_takeD (i := 15) (d := 108) (oi := _) (v := .slice (some ⟨g7, 0, none⟩) N cap2) rfl (by as_aux_lemma => kernel_rfl) (by as_aux_lemma => kernel_rfl) (by as_aux_lemma => kernel_rfl) (by as_aux_lemma => kernel_rfl) (by decide) (by as_aux_lemma => kernel_rfl) rfl (fun _ _ _ h => h) (yieldsMove (.tmp 7) rfl rfl (by simp [eval_put, eval_const', size_put, hsz, h7, h11, h13])) K2.out.below.drew ?_
          refine wpAnyE_takeD (i := 16) (d := 109) (oi := _) (v := .int .i64 (P0 : Int)) rfl (by as_aux_lemma => kernel_rfl) (by as_aux_lemma => kernel_rfl) (by as_aux_lemma => kernel_rfl) (by as_aux_lemma => kernel_rfl) (by decide) (by as_aux_lemma => kernel_rfl) rfl (fun _ _ _ h => h) (yieldsMove (.tmp 13) rfl rfl (by simp [eval_put, eval_const', size_put, hsz, h7, h11, h13])) K2.out.below.drew ?_
          refine wpAnyE_takeD (i := 17) (d := 110) (oi := _) (v := .int .i64 ((P0 + 2 : Nat) : Int)) rfl (by as_aux_lemma => kernel_rfl) (by as_aux_lemma => kernel_rfl) (by as_aux_lemma => kernel_rfl) (by as_aux_lemma => kernel_rfl) (by decide) (by as_aux_lemma => kernel_rfl) rfl (fun _ _ _ h => h) (yieldsBin .add 3 3 (.tmp 109) (.const (.int .i64 2)) (.int .i64 (P0 : Int)) (.int .i64 2) rfl rfl (by simp [eval_put, eval_const', size_put, hsz, h7, h11, h13]) (by simp [eval_put, eval_const', size_put, hsz, h7, h11, h13]) (guardInt _ _ _ _ _ _ _) (run_addI _ _ _ _ (by omega) (by omega) (by omega))) K2.out.below.drew ?_
          refine wpAnyE_takeD (i := 18) (d := 111) (oi := _) (v := .pointer (some ⟨g7, 0 + (P0 + 2), none⟩)) rfl (by as_aux_lemma => kernel_rfl) (by as_aux_lemma => kernel_rfl) (by as_aux_lemma => kernel_rfl) (by as_aux_lemma => kernel_rfl) (by decide) (by as_aux_lemma => kernel_rfl) rfl (fun _ _ _ h => h) (yieldsIdx 22 5 (.tmp 108) (.tmp 110) g7 0 N cap2 (P0 + 2) rfl rfl (by simp [eval_put, eval_const', size_put, hsz, h7, h11, h13]) (by simp [eval_put, eval_const', size_put, hsz, h7, h11, h13]) (by omega) Try.underlying22 Try.sizeOf5 rfl) K2.out.below.drew ?_
          refine wpAnyE_takeD (i := 19) (d := 112) (oi := _) (v := .int .u8 y2) rfl (by as_aux_lemma => kernel_rfl) (by as_aux_lemma => kernel_rfl) (by as_aux_lemma => kernel_rfl) (by as_aux_lemma => kernel_rfl) (by decide) (by as_aux_lemma => kernel_rfl) rfl (fun _ _ _ h => h) (yieldsLoad 5 .u8 (.tmp 111) g7 (0 + (P0 + 2)) y2 rfl rfl (by simp [eval_put, eval_const', size_put, hsz, h7, h11, h13]) Try.underlying5 HC2.out rfl) K2.out.below.drew ?_
          refine wpAnyE_takeD (i := 20) (d := 113) (oi := _) (v := .int .u32 y2) rfl (by as_aux_lemma => kernel_rfl) (by as_aux_lemma => kernel_rfl) (by as_aux_lemma => kernel_rfl) (by as_aux_lemma => kernel_rfl) (by decide) (by as_aux_lemma => kernel_rfl) rfl (fun _ _ _ h => h) (yieldsConv 5 57 (.tmp 112) (.int .u8 y2) rfl rfl (by simp [eval_put, eval_const', size_put, hsz, h7, h11, h13]) (run_conv8 _ _ _ Try.underlying5 Try.underlying57 b20 b21)) K2.out.below.drew ?_
          refine wpAnyE_takeD (i := 21) (d := 114) (oi := _) (v := .int .u32 (y2 * 256)) rfl (by as_aux_lemma => kernel_rfl) (by as_aux_lemma => kernel_rfl) (by as_aux_lemma => kernel_rfl) (by as_aux_lemma => kernel_rfl) (by decide) (by as_aux_lemma => kernel_rfl) rfl (fun _ _ _ h => h) (yieldsBin .shl 57 68 (.tmp 113) (.const (.int .u64 8)) (.int .u32 y2) (.int .u64 8) rfl rfl (by simp [eval_put, eval_const', size_put, hsz, h7, h11, h13]) (by simp [eval_put, eval_const', size_put, hsz, h7, h11, h13]) (guardInt _ _ _ _ _ _ _) (run_shl32 _ _ _ 8 (by omega) (by omega))) K2.out.below.drew ?_
          refine wpAnyE_takeD (i := 22) (d := 115) (oi := _) (v := .int .u32 (((y0 * 256 + y1) * 256 + y2) * 256)) rfl (by as_aux_lemma => kernel_rfl) (by as_aux_lemma => kernel_rfl) (by as_aux_lemma => kernel_rfl) (by as_aux_lemma => kernel_rfl) (by decide) (by as_aux_lemma => kernel_rfl) rfl (fun _ _ _ h => h) (yieldsBin .or 57 57 (.tmp 107) (.tmp 114) (.int .u32 ((y0 * 256 + y1) * 65536)) (.int .u32 (y2 * 256)) rfl rfl (by simp [eval_put, eval_const', size_put, hsz, h7, h11, h13]) (by simp [eval_put, eval_const', size_put, hsz, h7, h11, h13]) (guardInt _ _ _ _ _ _ _) (run_or32 _ _ _ _ B2.out)) K2.out.below.drew ?_
          refine wpAnyE_takeD (i := 23) (d := 116) (oi := _) (v := .slice (some ⟨g7, 0, none⟩) N cap2) rfl (by as_aux_lemma => kernel_rfl) (by as_aux_lemma => kernel_rfl) (by as_aux_lemma => kernel_rfl) (by as_aux_lemma => kernel_rfl) (by decide) (by as_aux_lemma => kernel_rfl) rfl (fun _ _ _ h => h) (yieldsMove (.tmp 7) rfl rfl (by simp [eval_put, eval_const', size_put, hsz, h7, h11, h13])) K2.out.below.drew ?_
          refine wpAnyE_takeD (i := 24) (d := 117) (oi := _) (v := .int .i64 (P0 : Int)) rfl (by as_aux_lemma => kernel_rfl) (by as_aux_lemma => kernel_rfl) (by as_aux_lemma => kernel_rfl) (by as_aux_lemma => kernel_rfl) (by decide) (by as_aux_lemma => kernel_rfl) rfl (fun _ _ _ h => h) (yieldsMove (.tmp 13) rfl rfl (by simp [eval_put, eval_const', size_put, hsz, h7, h11, h13])) K2.out.below.drew ?_
          refine wpAnyE_takeD (i := 25) (d := 118) (oi := _) (v := .int .i64 ((P0 + 3 : Nat) : Int)) rfl (by as_aux_lemma => kernel_rfl) (by as_aux_lemma => kernel_rfl) (by as_aux_lemma => kernel_rfl) (by as_aux_lemma => kernel_rfl) (by decide) (by as_aux_lemma => kernel_rfl) rfl (fun _ _ _ h => h) (yieldsBin .add 3 3 (.tmp 117) (.const (.int .i64 3)) (.int .i64 (P0 : Int)) (.int .i64 3) rfl rfl (by simp [eval_put, eval_const', size_put, hsz, h7, h11, h13]) (by simp [eval_put, eval_const', size_put, hsz, h7, h11, h13]) (guardInt _ _ _ _ _ _ _) (run_addI _ _ _ _ (by omega) (by omega) (by omega))) K2.out.below.drew ?_
          refine wpAnyE_takeD (i := 26) (d := 119) (oi := _) (v := .pointer (some ⟨g7, 0 + (P0 + 3), none⟩)) rfl (by as_aux_lemma => kernel_rfl) (by as_aux_lemma => kernel_rfl) (by as_aux_lemma => kernel_rfl) (by as_aux_lemma => kernel_rfl) (by decide) (by as_aux_lemma => kernel_rfl) rfl (fun _ _ _ h => h) (yieldsIdx 22 5 (.tmp 116) (.tmp 118) g7 0 N cap2 (P0 + 3) rfl rfl (by simp [eval_put, eval_const', size_put, hsz, h7, h11, h13]) (by simp [eval_put, eval_const', size_put, hsz, h7, h11, h13]) (by omega) Try.underlying22 Try.sizeOf5 rfl) K2.out.below.drew ?_
          refine wpAnyE_takeD (i := 27) (d := 120) (oi := _) (v := .int .u8 y3) rfl (by as_aux_lemma => kernel_rfl) (by as_aux_lemma => kernel_rfl) (by as_aux_lemma => kernel_rfl) (by as_aux_lemma => kernel_rfl) (by decide) (by as_aux_lemma => kernel_rfl) rfl (fun _ _ _ h => h) (yieldsLoad 5 .u8 (.tmp 119) g7 (0 + (P0 + 3)) y3 rfl rfl (by simp [eval_put, eval_const', size_put, hsz, h7, h11, h13]) Try.underlying5 HC3.out rfl) K2.out.below.drew ?_
          refine wpAnyE_takeD (i := 28) (d := 121) (oi := _) (v := .int .u32 y3) rfl (by as_aux_lemma => kernel_rfl) (by as_aux_lemma => kernel_rfl) (by as_aux_lemma => kernel_rfl) (by as_aux_lemma => kernel_rfl) (by decide) (by as_aux_lemma => kernel_rfl) rfl (fun _ _ _ h => h) (yieldsConv 5 57 (.tmp 120) (.int .u8 y3) rfl rfl (by simp [eval_put, eval_const', size_put, hsz, h7, h11, h13]) (run_conv8 _ _ _ Try.underlying5 Try.underlying57 b30 b31)) K2.out.below.drew ?_
          refine wpAnyE_takeD (i := 29) (d := 122) (oi := _) (v := .int .u32 (((y0 * 256 + y1) * 256 + y2) * 256 + y3)) rfl (by as_aux_lemma => kernel_rfl) (by as_aux_lemma => kernel_rfl) (by as_aux_lemma => kernel_rfl) (by as_aux_lemma => kernel_rfl) (by decide) (by as_aux_lemma => kernel_rfl) rfl (fun _ _ _ h => h) (yieldsBin .or 57 57 (.tmp 115) (.tmp 121) (.int .u32 (((y0 * 256 + y1) * 256 + y2) * 256)) (.int .u32 y3) rfl rfl (by simp [eval_put, eval_const', size_put, hsz, h7, h11, h13]) (by simp [eval_put, eval_const', size_put, hsz, h7, h11, h13]) (guardInt _ _ _ _ _ _ _) (run_or32 _ _ _ _ B3.out)) K2.out.below.drew ?_
          subst hA
          simp only [put_lit, List.set_cons_zero, List.set_cons_succ]
          refine wpAnyE_one (i := 30) (o := _) (by as_aux_lemma => kernel_rfl) rfl (fun K hK => ?_)
          go_simp
          refine hK _ _ (fun _ => (K2.out.below.drew.alloc (by have := K2.out.below.size; simpa using this) _)) ?_
          clear hK K
          refine wpAnyE_one (i := 31) (o := _) (by as_aux_lemma => kernel_rfl) rfl (fun K hK => ?_)
          refine step_append_k _ rfl (.tmp 93) (.tmp 123) 66 rfl .u32 wC.heap.size 57 4 Try.underlying66 u32_info _ (Sha.sched T q) rfl ((OwnK.past K2.out.own (Below.refl _ _).drew).alloc _) _ 0 1 [((y0 * 256 + y1) * 256 + y2) * 256 + y3] rfl (one_word wr.drew _) (by rw [HL3.out]; show (q + 1) * 4 ≤ 140737488351232; omega) (by rw [HL3.out]; show q + 1 ≤ 140737488351232; omega) (Nat.le_trans K2.out.below.size (by simp)) (by simp) (fun v8 w8 hown8 hgrow8 hkeep8 => ?_)
          have K3 : Hid (RowK .u32 57 wC w8 v8 (Sha.sched T (q + 1))) := Lib.hid (by
            have := (K2.out.past (Below.refl _ _).drew).app _ hown8 hgrow8
            rw [← HW.out] at this
            exact this)
          refine hK _ _ (fun _ => K3.out.below) ?_
          clear hK K hown8 hgrow8 hkeep8
          refine wpAnyE_one (i := 32) (o := _) (by as_aux_lemma => kernel_rfl) rfl (fun K hK => ?_)
          go_simp
          refine hK _ _ (fun h => by cases h) ?_
          clear hK K
          refine wpAnyE_done (by as_aux_lemma => kernel_rfl) (NoPanic.normal ?_) _
          obtain ⟨a8, cap8, hs8⟩ := K3.out.own.shape
          rw [Sha.sched_length] at hs8
          subst hs8
          go_wp2
          exact ⟨⟨q + 1, by omega, rfl, by omega, K3.out⟩, by simp [intOf]; omega⟩
        · have hq16 : q = 16 := by omega
          have hf16 : decide ((q : Int) < 16) = false := by simp; omega
          have K2 : Hid (RowK .u32 57 wC wr (.slice a3 q cap3') (Sha.sched T q)) := Lib.hid K1
          clear K1
          go_wp2
          go_loopw [11, 14] (fun v i wr => ∃ (q : Nat) (a : Option Addr) (cap : Nat), 16 ≤ q ∧ q ≤ 64 ∧ v = .slice a q cap ∧ i = .int .i64 q ∧ RowK .u32 57 wC wr v (Sha.sched T q)) (fun _ i _ => 64 - (intOf i).toNat)
          case atStart => exact ⟨q, a3, cap3', by omega, by omega, rfl, by rw [hq16]; rfl, K2.out⟩
          case round =>
            clear K2 hf16 hlt2
            obtain ⟨q, a3, cap3', hq1, hq2, rfl, rfl, K1⟩ := hrel
            by_cases hlt2 : q < 64
            · have hTb : ∀ i, 0 ≤ T.getD i 0 ∧ T.getD i 0 < 256 := fun i => by
                have := Sha.text_bound xs HB.out
                by_cases hi : i < T.length
                · exact Sha.getD_bound8 (fun x hx => this x (List.mem_of_mem_drop (HT.out ▸ hx))) i hi
                · rw [List.getD_eq_getElem?_getD, List.getElem?_eq_none (by omega)]; simp
              have hsl : (Sha.sched T q).length = q := Sha.sched_length T q
              obtain ⟨g11, c11, hs11, hg11, hg11b, hg11c, hg11d, hr11⟩ := K1.own.reads (by omega)
              rw [hsl] at hs11 hg11c hr11
              simp only [Value.slice.injEq] at hs11
              obtain ⟨rfl, -, rfl⟩ := hs11
              have sb := Sha.sched_bound T hTb q
              obtain ⟨d150, d151⟩ := sb (q - 15)
              obtain ⟨d20, d21⟩ := sb (q - 2)
              have k15 := hr11 (q - 15) (by omega)
              have k2 := hr11 (q - 2) (by omega)
              have k16 := hr11 (q - 16) (by omega)
              have k7 := hr11 (q - 7) (by omega)
              have HXN : Hid ((((((Sha.sched T q).getD (q - 16) 0 + (Sha.sched T q).getD (q - 7) 0) % 4294967296 + Sha.sig0 ((Sha.sched T q).getD (q - 15) 0)) % 4294967296) + Sha.sig1 ((Sha.sched T q).getD (q - 2) 0)) % 4294967296 = Sha.next T (Sha.sched T q) q) := Lib.hid (by
                unfold Sha.next
                rw [if_neg (by omega)]
                omega)
              have SS : Hid ((fun W => Below wC.heap.size wC W ∧ ∀ j, j < q → W.cell? ⟨g11, j, none⟩ = some (.int .u32 ((Sha.sched T q).getD j 0))) wr.drew) := Lib.hid ⟨K1.below.drew, hr11⟩
              have C16 : Hid (∀ W, (Below wC.heap.size wC W ∧ ∀ j, j < q → W.cell? ⟨g11, j, none⟩ = some (.int .u32 ((Sha.sched T q).getD j 0))) → W.cell? ⟨g11, 0 + (q - 16), none⟩ = some (.int .u32 ((Sha.sched T q).getD (q - 16) 0))) := Lib.hid fun W hW => by rw [Nat.zero_add]; exact hW.2 _ (by omega)
              have C7 : Hid (∀ W, (Below wC.heap.size wC W ∧ ∀ j, j < q → W.cell? ⟨g11, j, none⟩ = some (.int .u32 ((Sha.sched T q).getD j 0))) → W.cell? ⟨g11, 0 + (q - 7), none⟩ = some (.int .u32 ((Sha.sched T q).getD (q - 7) 0))) := Lib.hid fun W hW => by rw [Nat.zero_add]; exact hW.2 _ (by omega)
              obtain ⟨L, hL⟩ : ∃ L, L = Sha.sched T q := ⟨_, rfl⟩
              rw [← hL] at k15 k2 k16 k7 HXN SS C16 C7 d150 d151 d20 d21 K1
              obtain ⟨xn, hxn⟩ : ∃ x, x = Sha.next T L q := ⟨_, rfl⟩
              rw [← hxn] at HXN
              obtain ⟨x15, hx15⟩ : ∃ x, x = L.getD (q - 15) 0 := ⟨_, rfl⟩
              obtain ⟨x2, hx2⟩ : ∃ x, x = L.getD (q - 2) 0 := ⟨_, rfl⟩
              obtain ⟨x16, hx16⟩ : ∃ x, x = L.getD (q - 16) 0 := ⟨_, rfl⟩
              obtain ⟨x7, hx7⟩ : ∃ x, x = L.getD (q - 7) 0 := ⟨_, rfl⟩
              rw [← hx15] at k15 d150 d151 HXN
              rw [← hx2] at k2 d20 d21 HXN
              rw [← hx16] at k16 HXN C16
              rw [← hx7] at k7 HXN C7
              have HL : Hid (Sha.sched T (q + 1) = L ++ [xn]) := Lib.hid (by show Sha.sched T q ++ [Sha.next T (Sha.sched T q) q] = _; rw [← hL, hxn])
              have HLL : Hid (L.length = q) := Lib.hid (by rw [hL]; exact hsl)
              have K2 := Lib.hid K1
              have u15 : IntKind.i64.wrap ((q : Int) - 15) = ((q - 15 : Nat) : Int) := by rw [show (q : Int) - 15 = ((q - 15 : Nat) : Int) by omega]; exact IntWalk.i64_in _ (by omega)
              have u2 : IntKind.i64.wrap ((q : Int) - 2) = ((q - 2 : Nat) : Int) := by rw [show (q : Int) - 2 = ((q - 2 : Nat) : Int) by omega]; exact IntWalk.i64_in _ (by omega)
              have p15 : ((q - 15 : Nat) : Int) < (q : Int) := by omega
              have p2 : ((q - 2 : Nat) : Int) < (q : Int) := by omega
              clear hL hxn hx15 hx2 hx16 hx7 K1 hsl sb hTb hr11
              go_wp2
              refine frame_letter (fun A => A.tmps.size = 312 ∧ A.eval (.tmp 11) = .slice (some ⟨g11, 0, none⟩) q cap3' ∧ A.eval (.tmp 14) = .int .i64 (q : Int) ∧ A.eval (.tmp 15) = .int .u32 x15 ∧ A.eval (.tmp 16) = .int .u32 x2) ⟨by rfl, rfl, rfl, rfl, rfl⟩ (fun A hC hA => ?_)
              obtain ⟨hsz, h11, h14, h15, h16⟩ := hC
              refine wp_region_noPanic ?_
              refine wp_region_E 32 (fun W => Below wC.heap.size wC W ∧ ∀ j, j < q → W.cell? ⟨g11, j, none⟩ = some (.int .u32 (L.getD j 0))) (by as_aux_lemma => kernel_rfl) ?_
              refine wpAnyE_takeD (i := 0) (d := 139) (oi := _) (v := .slice (some ⟨g11, 0, none⟩) q cap3') rfl (by as_aux_lemma => kernel_rfl) (by as_aux_lemma => kernel_rfl) (by as_aux_lemma => kernel_rfl) (by as_aux_lemma => kernel_rfl) (by decide) (by as_aux_lemma => kernel_rfl) rfl (fun _ _ _ h => h) (yieldsMove (.tmp 11) rfl rfl (by simp [eval_put, eval_const', size_put, hsz, h11, h14, h15, h16])) SS.out ?_
              refine wpAnyE_takeD (i := 1) (d := 140) (oi := _) (v := .slice (some ⟨g11, 0, none⟩) q cap3') rfl (by as_aux_lemma => kernel_rfl) (by as_aux_lemma => kernel_rfl) (by as_aux_lemma => kernel_rfl) (by as_aux_lemma => kernel_rfl) (by decide) (by as_aux_lemma => kernel_rfl) rfl (fun _ _ _ h => h) (yieldsMove (.tmp 11) rfl rfl (by simp [eval_put, eval_const', size_put, hsz, h11, h14, h15, h16])) SS.out ?_
              refine wpAnyE_takeD (i := 2) (d := 141) (oi := _) (v := .int .i64 (q : Int)) rfl (by as_aux_lemma => kernel_rfl) (by as_aux_lemma => kernel_rfl) (by as_aux_lemma => kernel_rfl) (by as_aux_lemma => kernel_rfl) (by decide) (by as_aux_lemma => kernel_rfl) rfl (fun _ _ _ h => h) (yieldsMove (.tmp 14) rfl rfl (by simp [eval_put, eval_const', size_put, hsz, h11, h14, h15, h16])) SS.out ?_
              refine wpAnyE_takeD (i := 3) (d := 142) (oi := _) (v := .int .i64 ((q - 16 : Nat) : Int)) rfl (by as_aux_lemma => kernel_rfl) (by as_aux_lemma => kernel_rfl) (by as_aux_lemma => kernel_rfl) (by as_aux_lemma => kernel_rfl) (by decide) (by as_aux_lemma => kernel_rfl) rfl (fun _ _ _ h => h) (yieldsBin .sub 3 3 (.tmp 141) (.const (.int .i64 16)) (.int .i64 (q : Int)) (.int .i64 16) rfl rfl (by simp [eval_put, eval_const', size_put, hsz, h11, h14, h15, h16]) (by simp [eval_put, eval_const', size_put, hsz, h11, h14, h15, h16]) (guardInt _ _ _ _ _ _ _) (run_subI _ _ _ _ (by omega) (by omega) (by omega))) SS.out ?_
              refine wpAnyE_takeD (i := 4) (d := 143) (oi := _) (v := .pointer (some ⟨g11, 0 + (q - 16), none⟩)) rfl (by as_aux_lemma => kernel_rfl) (by as_aux_lemma => kernel_rfl) (by as_aux_lemma => kernel_rfl) (by as_aux_lemma => kernel_rfl) (by decide) (by as_aux_lemma => kernel_rfl) rfl (fun _ _ _ h => h) (yieldsIdx 66 57 (.tmp 140) (.tmp 142) g11 0 q cap3' (q - 16) rfl rfl (by simp [eval_put, eval_const', size_put, hsz, h11, h14, h15, h16]) (by simp [eval_put, eval_const', size_put, hsz, h11, h14, h15, h16]) (by omega) Try.underlying66 Try.sizeOf57 rfl) SS.out ?_
              refine wpAnyE_takeD (i := 5) (d := 144) (oi := _) (v := .int .u32 x16) rfl (by as_aux_lemma => kernel_rfl) (by as_aux_lemma => kernel_rfl) (by as_aux_lemma => kernel_rfl) (by as_aux_lemma => kernel_rfl) (by decide) (by as_aux_lemma => kernel_rfl) rfl (fun _ _ _ h => h) (yieldsLoad 57 .u32 (.tmp 143) g11 (0 + (q - 16)) x16 rfl rfl (by simp [eval_put, eval_const', size_put, hsz, h11, h14, h15, h16]) Try.underlying57 C16.out rfl) SS.out ?_
              refine wpAnyE_takeD (i := 6) (d := 145) (oi := _) (v := .slice (some ⟨g11, 0, none⟩) q cap3') rfl (by as_aux_lemma => kernel_rfl) (by as_aux_lemma => kernel_rfl) (by as_aux_lemma => kernel_rfl) (by as_aux_lemma => kernel_rfl) (by decide) (by as_aux_lemma => kernel_rfl) rfl (fun _ _ _ h => h) (yieldsMove (.tmp 11) rfl rfl (by simp [eval_put, eval_const', size_put, hsz, h11, h14, h15, h16])) SS.out ?_
              refine wpAnyE_takeD (i := 7) (d := 146) (oi := _) (v := .int .i64 (q : Int)) rfl (by as_aux_lemma => kernel_rfl) (by as_aux_lemma => kernel_rfl) (by as_aux_lemma => kernel_rfl) (by as_aux_lemma => kernel_rfl) (by decide) (by as_aux_lemma => kernel_rfl) rfl (fun _ _ _ h => h) (yieldsMove (.tmp 14) rfl rfl (by simp [eval_put, eval_const', size_put, hsz, h11, h14, h15, h16])) SS.out ?_
              refine wpAnyE_takeD (i := 8) (d := 147) (oi := _) (v := .int .i64 ((q - 7 : Nat) : Int)) rfl (by as_aux_lemma => kernel_rfl) (by as_aux_lemma => kernel_rfl) (by as_aux_lemma => kernel_rfl) (by as_aux_lemma => kernel_rfl) (by decide) (by as_aux_lemma => kernel_rfl) rfl (fun _ _ _ h => h) (yieldsBin .sub 3 3 (.tmp 146) (.const (.int .i64 7)) (.int .i64 (q : Int)) (.int .i64 7) rfl rfl (by simp [eval_put, eval_const', size_put, hsz, h11, h14, h15, h16]) (by simp [eval_put, eval_const', size_put, hsz, h11, h14, h15, h16]) (guardInt _ _ _ _ _ _ _) (run_subI _ _ _ _ (by omega) (by omega) (by omega))) SS.out ?_
              refine wpAnyE_takeD (i := 9) (d := 148) (oi := _) (v := .pointer (some ⟨g11, 0 + (q - 7), none⟩)) rfl (by as_aux_lemma => kernel_rfl) (by as_aux_lemma => kernel_rfl) (by as_aux_lemma => kernel_rfl) (by as_aux_lemma => kernel_rfl) (by decide) (by as_aux_lemma => kernel_rfl) rfl (fun _ _ _ h => h) (yieldsIdx 66 57 (.tmp 145) (.tmp 147) g11 0 q cap3' (q - 7) rfl rfl (by simp [eval_put, eval_const', size_put, hsz, h11, h14, h15, h16]) (by simp [eval_put, eval_const', size_put, hsz, h11, h14, h15, h16]) (by omega) Try.underlying66 Try.sizeOf57 rfl) SS.out ?_
              refine wpAnyE_takeD (i := 10) (d := 149) (oi := _) (v := .int .u32 x7) rfl (by as_aux_lemma => kernel_rfl) (by as_aux_lemma => kernel_rfl) (by as_aux_lemma => kernel_rfl) (by as_aux_lemma => kernel_rfl) (by decide) (by as_aux_lemma => kernel_rfl) rfl (fun _ _ _ h => h) (yieldsLoad 57 .u32 (.tmp 148) g11 (0 + (q - 7)) x7 rfl rfl (by simp [eval_put, eval_const', size_put, hsz, h11, h14, h15, h16]) Try.underlying57 C7.out rfl) SS.out ?_
              refine wpAnyE_takeD (i := 11) (d := 150) (oi := _) (v := .int .u32 ((x16 + x7) % 4294967296)) rfl (by as_aux_lemma => kernel_rfl) (by as_aux_lemma => kernel_rfl) (by as_aux_lemma => kernel_rfl) (by as_aux_lemma => kernel_rfl) (by decide) (by as_aux_lemma => kernel_rfl) rfl (fun _ _ _ h => h) (yieldsBin .add 57 57 (.tmp 144) (.tmp 149) (.int .u32 (x16)) (.int .u32 (x7)) rfl rfl (by simp [eval_put, eval_const', size_put, hsz, h11, h14, h15, h16]) (by simp [eval_put, eval_const', size_put, hsz, h11, h14, h15, h16]) (guardInt _ _ _ _ _ _ _) (run_add32 _ _ _)) SS.out ?_
              refine wpAnyE_takeD (i := 12) (d := 151) (oi := _) (v := .int .u32 (x15)) rfl (by as_aux_lemma => kernel_rfl) (by as_aux_lemma => kernel_rfl) (by as_aux_lemma => kernel_rfl) (by as_aux_lemma => kernel_rfl) (by decide) (by as_aux_lemma => kernel_rfl) rfl (fun _ _ _ h => h) (yieldsMove (.tmp 15) rfl rfl (by simp [eval_put, eval_const', size_put, hsz, h11, h14, h15, h16])) SS.out ?_
              refine wpAnyE_takeD (i := 14) (d := 153) (oi := _) (v := .int .u32 (x15)) rfl (by as_aux_lemma => kernel_rfl) (by as_aux_lemma => kernel_rfl) (by as_aux_lemma => kernel_rfl) (by as_aux_lemma => kernel_rfl) (by decide) (by as_aux_lemma => kernel_rfl) rfl (fun _ _ _ h => h) (yieldsMove (.tmp 15) rfl rfl (by simp [eval_put, eval_const', size_put, hsz, h11, h14, h15, h16])) SS.out ?_
              refine wpAnyE_takeD (i := 17) (d := 156) (oi := _) (v := .int .u32 (x15)) rfl (by as_aux_lemma => kernel_rfl) (by as_aux_lemma => kernel_rfl) (by as_aux_lemma => kernel_rfl) (by as_aux_lemma => kernel_rfl) (by decide) (by as_aux_lemma => kernel_rfl) rfl (fun _ _ _ h => h) (yieldsMove (.tmp 15) rfl rfl (by simp [eval_put, eval_const', size_put, hsz, h11, h14, h15, h16])) SS.out ?_
              refine wpAnyE_takeD (i := 18) (d := 157) (oi := _) (v := .int .u32 (x15 / 8)) rfl (by as_aux_lemma => kernel_rfl) (by as_aux_lemma => kernel_rfl) (by as_aux_lemma => kernel_rfl) (by as_aux_lemma => kernel_rfl) (by decide) (by as_aux_lemma => kernel_rfl) rfl (fun _ _ _ h => h) (yieldsBin .shr 57 68 (.tmp 156) (.const (.int .u64 3)) (.int .u32 (x15)) (.int .u64 3) rfl rfl (by simp [eval_put, eval_const', size_put, hsz, h11, h14, h15, h16]) (by simp [eval_put, eval_const', size_put, hsz, h11, h14, h15, h16]) (guardInt _ _ _ _ _ _ _) (run_shr32 _ _ _ 3 rfl (by omega))) SS.out ?_
              refine wpAnyE_takeD (i := 21) (d := 160) (oi := _) (v := .int .u32 (x2)) rfl (by as_aux_lemma => kernel_rfl) (by as_aux_lemma => kernel_rfl) (by as_aux_lemma => kernel_rfl) (by as_aux_lemma => kernel_rfl) (by decide) (by as_aux_lemma => kernel_rfl) rfl (fun _ _ _ h => h) (yieldsMove (.tmp 16) rfl rfl (by simp [eval_put, eval_const', size_put, hsz, h11, h14, h15, h16])) SS.out ?_
              refine wpAnyE_takeD (i := 23) (d := 162) (oi := _) (v := .int .u32 (x2)) rfl (by as_aux_lemma => kernel_rfl) (by as_aux_lemma => kernel_rfl) (by as_aux_lemma => kernel_rfl) (by as_aux_lemma => kernel_rfl) (by decide) (by as_aux_lemma => kernel_rfl) rfl (fun _ _ _ h => h) (yieldsMove (.tmp 16) rfl rfl (by simp [eval_put, eval_const', size_put, hsz, h11, h14, h15, h16])) SS.out ?_
              refine wpAnyE_takeD (i := 26) (d := 165) (oi := _) (v := .int .u32 (x2)) rfl (by as_aux_lemma => kernel_rfl) (by as_aux_lemma => kernel_rfl) (by as_aux_lemma => kernel_rfl) (by as_aux_lemma => kernel_rfl) (by decide) (by as_aux_lemma => kernel_rfl) rfl (fun _ _ _ h => h) (yieldsMove (.tmp 16) rfl rfl (by simp [eval_put, eval_const', size_put, hsz, h11, h14, h15, h16])) SS.out ?_
              refine wpAnyE_takeD (i := 27) (d := 166) (oi := _) (v := .int .u32 (x2 / 1024)) rfl (by as_aux_lemma => kernel_rfl) (by as_aux_lemma => kernel_rfl) (by as_aux_lemma => kernel_rfl) (by as_aux_lemma => kernel_rfl) (by decide) (by as_aux_lemma => kernel_rfl) rfl (fun _ _ _ h => h) (yieldsBin .shr 57 68 (.tmp 165) (.const (.int .u64 10)) (.int .u32 (x2)) (.int .u64 10) rfl rfl (by simp [eval_put, eval_const', size_put, hsz, h11, h14, h15, h16]) (by simp [eval_put, eval_const', size_put, hsz, h11, h14, h15, h16]) (guardInt _ _ _ _ _ _ _) (run_shr32 _ _ _ 10 rfl (by omega))) SS.out ?_
              refine wpAnyE_one (i := 13) (o := _) (by as_aux_lemma => kernel_rfl) rfl (fun K hK => ?_)
              refine step_turn (.tmp 151) 7 x15 (Sha.rot 33554432 128 x15) _ rfl rfl (by simp [eval_put, eval_const', size_put, hsz, h11, h14, h15, h16]) (rturn7 x15 d150 d151 _) 152 rfl ?_
              refine hK _ _ (fun _ => SS.out) ?_
              clear hK K
              refine wpAnyE_one (i := 15) (o := _) (by as_aux_lemma => kernel_rfl) rfl (fun K hK => ?_)
              refine step_turn (.tmp 153) 18 x15 (Sha.rot 16384 262144 x15) _ rfl rfl (by simp [eval_put, eval_const', size_put, hsz, h11, h14, h15, h16]) (rturn18 x15 d150 d151 _) 154 rfl ?_
              refine hK _ _ (fun _ => SS.out) ?_
              clear hK K
              refine wpAnyE_takeD (i := 16) (d := 155) (oi := _) (v := .int .u32 (bits .xor .u32 (Sha.rot 33554432 128 x15) (Sha.rot 16384 262144 x15))) rfl (by as_aux_lemma => kernel_rfl) (by as_aux_lemma => kernel_rfl) (by as_aux_lemma => kernel_rfl) (by as_aux_lemma => kernel_rfl) (by decide) (by as_aux_lemma => kernel_rfl) rfl (fun _ _ _ h => h) (yieldsBin .xor 57 57 (.tmp 152) (.tmp 154) (.int .u32 (Sha.rot 33554432 128 x15)) (.int .u32 (Sha.rot 16384 262144 x15)) rfl rfl (by simp [eval_put, eval_const', size_put, hsz, h11, h14, h15, h16]) (by simp [eval_put, eval_const', size_put, hsz, h11, h14, h15, h16]) (guardInt _ _ _ _ _ _ _) (run_xor32 _ _ _ _ rfl)) SS.out ?_
              refine wpAnyE_takeD (i := 19) (d := 158) (oi := _) (v := .int .u32 (Sha.sig0 x15)) rfl (by as_aux_lemma => kernel_rfl) (by as_aux_lemma => kernel_rfl) (by as_aux_lemma => kernel_rfl) (by as_aux_lemma => kernel_rfl) (by decide) (by as_aux_lemma => kernel_rfl) rfl (fun _ _ _ h => h) (yieldsBin .xor 57 57 (.tmp 155) (.tmp 157) (.int .u32 (bits .xor .u32 (Sha.rot 33554432 128 x15) (Sha.rot 16384 262144 x15))) (.int .u32 (x15 / 8)) rfl rfl (by simp [eval_put, eval_const', size_put, hsz, h11, h14, h15, h16]) (by simp [eval_put, eval_const', size_put, hsz, h11, h14, h15, h16]) (guardInt _ _ _ _ _ _ _) (run_xor32 _ _ _ _ rfl)) SS.out ?_
              refine wpAnyE_takeD (i := 20) (d := 159) (oi := _) (v := .int .u32 (((x16 + x7) % 4294967296 + Sha.sig0 x15) % 4294967296)) rfl (by as_aux_lemma => kernel_rfl) (by as_aux_lemma => kernel_rfl) (by as_aux_lemma => kernel_rfl) (by as_aux_lemma => kernel_rfl) (by decide) (by as_aux_lemma => kernel_rfl) rfl (fun _ _ _ h => h) (yieldsBin .add 57 57 (.tmp 150) (.tmp 158) (.int .u32 ((x16 + x7) % 4294967296)) (.int .u32 (Sha.sig0 x15)) rfl rfl (by simp [eval_put, eval_const', size_put, hsz, h11, h14, h15, h16]) (by simp [eval_put, eval_const', size_put, hsz, h11, h14, h15, h16]) (guardInt _ _ _ _ _ _ _) (run_add32 _ _ _)) SS.out ?_
              refine wpAnyE_one (i := 22) (o := _) (by as_aux_lemma => kernel_rfl) rfl (fun K hK => ?_)
              refine step_turn (.tmp 160) 17 x2 (Sha.rot 32768 131072 x2) _ rfl rfl (by simp [eval_put, eval_const', size_put, hsz, h11, h14, h15, h16]) (rturn17 x2 d20 d21 _) 161 rfl ?_
              refine hK _ _ (fun _ => SS.out) ?_
              clear hK K
              refine wpAnyE_one (i := 24) (o := _) (by as_aux_lemma => kernel_rfl) rfl (fun K hK => ?_)
              refine step_turn (.tmp 162) 19 x2 (Sha.rot 8192 524288 x2) _ rfl rfl (by simp [eval_put, eval_const', size_put, hsz, h11, h14, h15, h16]) (rturn19 x2 d20 d21 _) 163 rfl ?_
              refine hK _ _ (fun _ => SS.out) ?_
              clear hK K
              refine wpAnyE_takeD (i := 25) (d := 164) (oi := _) (v := .int .u32 (bits .xor .u32 (Sha.rot 32768 131072 x2) (Sha.rot 8192 524288 x2))) rfl (by as_aux_lemma => kernel_rfl) (by as_aux_lemma => kernel_rfl) (by as_aux_lemma => kernel_rfl) (by as_aux_lemma => kernel_rfl) (by decide) (by as_aux_lemma => kernel_rfl) rfl (fun _ _ _ h => h) (yieldsBin .xor 57 57 (.tmp 161) (.tmp 163) (.int .u32 (Sha.rot 32768 131072 x2)) (.int .u32 (Sha.rot 8192 524288 x2)) rfl rfl (by simp [eval_put, eval_const', size_put, hsz, h11, h14, h15, h16]) (by simp [eval_put, eval_const', size_put, hsz, h11, h14, h15, h16]) (guardInt _ _ _ _ _ _ _) (run_xor32 _ _ _ _ rfl)) SS.out ?_
              refine wpAnyE_takeD (i := 28) (d := 167) (oi := _) (v := .int .u32 (Sha.sig1 x2)) rfl (by as_aux_lemma => kernel_rfl) (by as_aux_lemma => kernel_rfl) (by as_aux_lemma => kernel_rfl) (by as_aux_lemma => kernel_rfl) (by decide) (by as_aux_lemma => kernel_rfl) rfl (fun _ _ _ h => h) (yieldsBin .xor 57 57 (.tmp 164) (.tmp 166) (.int .u32 (bits .xor .u32 (Sha.rot 32768 131072 x2) (Sha.rot 8192 524288 x2))) (.int .u32 (x2 / 1024)) rfl rfl (by simp [eval_put, eval_const', size_put, hsz, h11, h14, h15, h16]) (by simp [eval_put, eval_const', size_put, hsz, h11, h14, h15, h16]) (guardInt _ _ _ _ _ _ _) (run_xor32 _ _ _ _ rfl)) SS.out ?_
              refine wpAnyE_takeD (i := 29) (d := 168) (oi := _) (v := .int .u32 (xn)) rfl (by as_aux_lemma => kernel_rfl) (by as_aux_lemma => kernel_rfl) (by as_aux_lemma => kernel_rfl) (by as_aux_lemma => kernel_rfl) (by decide) (by as_aux_lemma => kernel_rfl) rfl (fun _ _ _ h => h) (yieldsBin .add 57 57 (.tmp 159) (.tmp 167) (.int .u32 (((x16 + x7) % 4294967296 + Sha.sig0 x15) % 4294967296)) (.int .u32 (Sha.sig1 x2)) rfl rfl (by simp [eval_put, eval_const', size_put, hsz, h11, h14, h15, h16]) (by simp [eval_put, eval_const', size_put, hsz, h11, h14, h15, h16]) (guardInt _ _ _ _ _ _ _) (run_sum32 _ _ _ _ HXN.out)) SS.out ?_
              subst hA
              simp only [put_lit, List.set_cons_zero, List.set_cons_succ]
              refine wpAnyE_one (i := 30) (o := _) (by as_aux_lemma => kernel_rfl) rfl (fun K hK => ?_)
              go_simp
              refine hK _ _ (fun _ => ⟨K2.out.below.drew.alloc (by have := K2.out.below.size; simpa using this) _, fun j hj => (World.cell?_alloc_past _ _ _ (by exact hg11b)).trans (SS.out.2 j hj)⟩) ?_
              clear hK K
              refine wpAnyE_one (i := 31) (o := _) (by as_aux_lemma => kernel_rfl) rfl (fun K hK => ?_)
              refine step_append_k _ rfl (.tmp 139) (.tmp 169) 66 rfl .u32 wC.heap.size 57 4 Try.underlying66 u32_info _ L rfl ((OwnK.past K2.out.own (Below.refl _ _).drew).alloc _) _ 0 1 [xn] rfl (one_word wr.drew _) (by rw [HLL.out]; show (q + 1) * 4 ≤ 140737488351232; omega) (by rw [HLL.out]; show q + 1 ≤ 140737488351232; omega) (Nat.le_trans K2.out.below.size (by simp)) (by simp) (fun v8 w8 hown8 hgrow8 hkeep8 => ?_)
              have K3 : Hid (RowK .u32 57 wC w8 v8 (Sha.sched T (q + 1))) := Lib.hid (by
                have := (K2.out.past (Below.refl _ _).drew).app _ hown8 hgrow8
                rw [← HL.out] at this
                exact this)
              refine hK _ _ (fun _ => ⟨K3.out.below, fun j hj => hkeep8 g11 cap3' (by rw [HLL.out]; rfl) j (by rw [HLL.out]; exact hj)⟩) ?_
              clear hK K hown8 hgrow8 hkeep8
              refine wpAnyE_one (i := 32) (o := _) (by as_aux_lemma => kernel_rfl) rfl (fun K hK => ?_)
              go_simp
              refine hK _ _ (fun h => by cases h) ?_
              clear hK K
              refine wpAnyE_done (by as_aux_lemma => kernel_rfl) (NoPanic.normal ?_) _
              obtain ⟨a8, cap8, hs8⟩ := K3.out.own.shape
              rw [Sha.sched_length] at hs8
              subst hs8
              go_wp2
              exact ⟨⟨q + 1, by omega, by omega, rfl, by omega, K3.out⟩, by simp [intOf]; omega⟩
            · have hq64 : q = 64 := by omega
              have hf64b : decide ((q : Int) < 64) = false := by simp; omega
              obtain ⟨wl, hwl⟩ : ∃ l, l = Sha.sched T 64 := ⟨_, rfl⟩
              have K2 : RowK .u32 57 wC wr (.slice a3 q cap3') wl := by
                have e : Sha.sched T q = wl := by rw [hwl, hq64]
                rw [← e]; exact K1
              have wl64 : wl.length = 64 := by rw [hwl, Sha.sched_length]
              obtain ⟨g11, c11, hs11, hg11, hg11b, hg11c, hg11d, hr11⟩ := K2.own.reads (by omega)
              rw [wl64] at hs11 hg11c hr11
              simp only [Value.slice.injEq] at hs11
              obtain ⟨rfl, rfl, rfl⟩ := hs11
              obtain ⟨wE, hwE⟩ : ∃ x, x = wr := ⟨_, rfl⟩
              subst hwE
              have R3 := R2.out.past K2.below
              have hs8 : (Sha.hashes (Sha.text xs) m).length = 8 := Sha.hashes_length _ _
              have hsb := Sha.hashes_bound (Sha.text xs) m
              obtain ⟨hs, hhs⟩ : ∃ h, h = Sha.hashes (Sha.text xs) m := ⟨_, rfl⟩
              rw [← hhs] at R3 hs8 hsb
              have HHS : Hid (Sha.hashes (Sha.text xs) (m + 1) = Sha.add (Sha.mixed hs wl Sha.rounds 64) hs) := Lib.hid (by
                show Sha.mix (Sha.hashes (Sha.text xs) m) (Sha.hashes (Sha.text xs) m) (Sha.sched ((Sha.text xs).drop (64 * m)) 64) Sha.rounds = _
                rw [← hhs, ← HT.out, ← hwl]
                rfl)
              obtain ⟨z0, z1, z2, z3, z4, z5, z6, z7, hz8⟩ := of_length_eight hs8
              have n4 : Hid (∀ j, j < [z0, z1, z2, z3, z4, z5, z6, z7].length → (wE.alloc (.cells #[] 57)).cell? ⟨g4, 0 + j, none⟩ = some (.int .u32 ([z0, z1, z2, z3, z4, z5, z6, z7].getD j 0))) := Lib.hid fun j hj => by
                rw [Nat.zero_add, ← hz8]
                exact (World.cell?_alloc_past _ _ _ (by exact R3.hi4)).trans (R3.cell4 j (by simpa using hj))
              have R4 := Lib.hid R3
              have HR11 := Lib.hid hr11
              have HSB := Lib.hid hsb
              have HZ8 := Lib.hid hz8
              have Y0 := Lib.hid (RowK.lit .u32 57 wE [] (by simp))
              have hgC : wC.heap.size ≤ wE.heap.size := K2.below.size
              clear K1 K2 R3 hr11 hsb hz8 hhs hwl hs8 wl64
              go_wp2_with (at_builtin; refine wpList_append_k _ rfl (.tmp 171) (.tmp 172) 66 rfl .u32 wE.heap.size 57 4 Try.underlying66 u32_info _ [] rfl Y0.out.own _ 0 c4 [z0, z1, z2, z3, z4, z5, z6, z7] rfl n4.out (by simp) (by simp) (by simp) ?_; intro v9 w9 hown9 hgrow9 hat9; have Y1 := Lib.hid (Y0.out.app0 hown9 hgrow9); clear hown9 hgrow9 hat9)
              have Y2 : RowK .u32 57 wE w9 v9 hs := by have := Y1.out; rw [List.nil_append, ← HZ8.out] at this; exact this
              have hs8 : hs.length = 8 := by rw [HZ8.out]; rfl
              obtain ⟨g17, c17, hs17, hg17, hg17b, hg17c, hg17d, hr17⟩ := Y2.own.reads (by omega)
              rw [hs8] at hs17 hg17c hr17
              subst hs17
              have E0 : Hid (Eight wE w9 g17 (Sha.mixed hs wl Sha.rounds 0)) := Lib.hid ⟨hr17, hg17b, Y2.below⟩
              clear Y0 Y1 Y2 hr17 n4 HZ8
              go_loopw [17, 18] (fun v i wr => ∃ (q g c : Nat), q ≤ 64 ∧ v = .slice (some ⟨g, 0, none⟩) 8 c ∧ i = .int .i64 q ∧ wE.heap.size ≤ g ∧ Eight wE wr g (Sha.mixed hs wl Sha.rounds q)) (fun _ i _ => 64 - (intOf i).toNat)
              case atStart => exact ⟨0, g17, c17, by omega, rfl, rfl, hg17, E0.out⟩
              case round =>
                clear E0 hg17 hg17b hg17c hg17d
                obtain ⟨q, g17, c17, hq, rfl, rfl, hg17, X0⟩ := hrel
                by_cases hlt3 : q < 64
                · have m8 := Sha.mixed_length hs wl Sha.rounds hs8 q
                  have mb := Sha.mixed_bound hs wl Sha.rounds HSB.out q
                  obtain ⟨M, hM⟩ : ∃ M, M = Sha.mixed hs wl Sha.rounds q := ⟨_, rfl⟩
                  rw [← hM] at m8 mb X0
                  obtain ⟨sa, s1, s2, s3, se, s5, s6, s7, rfl⟩ := of_length_eight m8
                  obtain ⟨a0, a1⟩ := mb sa (by simp)
                  obtain ⟨e0, e1⟩ := mb se (by simp)
                  obtain ⟨kk, hkk⟩ : ∃ x, x = Sha.rounds.getD q 0 := ⟨_, rfl⟩
                  obtain ⟨ww, hww⟩ : ∃ x, x = wl.getD q 0 := ⟨_, rfl⟩
                  obtain ⟨o1, ho1⟩ : ∃ x, x = Sha.one [sa, s1, s2, s3, se, s5, s6, s7] kk ww := ⟨_, rfl⟩
                  obtain ⟨o2, ho2⟩ : ∃ x, x = Sha.two [sa, s1, s2, s3, se, s5, s6, s7] := ⟨_, rfl⟩
                  have HNX : Hid (Sha.mixed hs wl Sha.rounds (q + 1) = [(o1 + o2) % 4294967296, sa, s1, s2, (s3 + o1) % 4294967296, se, s5, s6]) := Lib.hid (by
                    show Sha.step (Sha.mixed hs wl Sha.rounds q) (Sha.rounds.getD q 0) (wl.getD q 0) = _
                    rw [← hM, ← hkk, ← hww, ho1, ho2]
                    rfl)
                  obtain ⟨A1, hA1⟩ : ∃ x, bits .xor .u32 (bits .xor .u32 (Sha.rot 67108864 64 se) (Sha.rot 2097152 2048 se)) (Sha.rot 128 33554432 se) = x := ⟨_, rfl⟩
                  obtain ⟨A2, hA2⟩ : ∃ x, bits .xor .u32 (bits .and .u32 (se) (s5)) (bits .and .u32 (4294967295 - se) (s6)) = x := ⟨_, rfl⟩
                  have HO1 : Hid (((((s7 + A1) % 4294967296 + A2) % 4294967296 + kk) % 4294967296 + ww) % 4294967296 = o1) := Lib.hid (by
                    rw [ho1]
                    show _ = (s7 + bits .xor .u32 (bits .xor .u32 (Sha.rot 67108864 64 se) (Sha.rot 2097152 2048 se)) (Sha.rot 128 33554432 se) + bits .xor .u32 (bits .and .u32 se s5) (bits .and .u32 (bits .xor .u32 IntKind.u32.max se) s6) + kk + ww) % 4294967296
                    rw [not_xor se e0 e1, hA1, hA2]
                    omega)
                  have HA1 := Lib.hid hA1
                  have HA2 := Lib.hid hA2
                  have HO2 := Lib.hid ho2
                  have EE := Lib.hid X0
                  have EK : Hid (∀ W, Below wr.heap.size wr W → W.cell? ⟨g5, 0 + q, none⟩ = some (.int .u32 kk)) := Lib.hid fun W hW => by
                    rw [Nat.zero_add, hkk]; exact ((R4.out.past X0.below).past hW).k5 q hlt3
                  have EW : Hid (∀ W, Below wr.heap.size wr W → W.cell? ⟨g11, 0 + q, none⟩ = some (.int .u32 ww)) := Lib.hid fun W hW => by
                    rw [Nat.zero_add, hww]; exact (hW.cell (p := ⟨g11, q, none⟩) (by have := X0.below.size; show g11 < _; omega)).trans ((X0.below.cell (p := ⟨g11, q, none⟩) hg11b).trans (HR11.out q hlt3))
                  have E5 : Hid (∀ W, Below wr.heap.size wr W → W.cell? ⟨g17, 0 + 5, none⟩ = some (.int .u32 s5)) := Lib.hid fun W hW => (X0.past hW).cell 5 (by omega)
                  have E6 : Hid (∀ W, Below wr.heap.size wr W → W.cell? ⟨g17, 0 + 6, none⟩ = some (.int .u32 s6)) := Lib.hid fun W hW => (X0.past hW).cell 6 (by omega)
                  have E7 : Hid (∀ W, Below wr.heap.size wr W → W.cell? ⟨g17, 0 + 7, none⟩ = some (.int .u32 s7)) := Lib.hid fun W hW => (X0.past hW).cell 7 (by omega)
                  have l4 : wr.cell? ⟨g17, 4, none⟩ = some (.int .u32 se) := X0.cell 4 (by omega)
                  have l0 : wr.cell? ⟨g17, 0, none⟩ = some (.int .u32 sa) := X0.cell 0 (by omega)
                  clear X0 m8 mb hM hkk hww ho1 ho2 hA1 hA2
                  go_wp2
                  refine frame_letter (fun A => A.tmps.size = 312 ∧ A.eval (.tmp 5) = .slice (some ⟨g5, 0, none⟩) 64 c5 ∧ A.eval (.tmp 11) = .slice (some ⟨g11, 0, none⟩) 64 cap3' ∧ A.eval (.tmp 17) = .slice (some ⟨g17, 0, none⟩) 8 c17 ∧ A.eval (.tmp 18) = .int .i64 (q : Int) ∧ A.eval (.tmp 19) = .int .u32 se) ⟨by rfl, rfl, rfl, rfl, rfl, rfl⟩ (fun A hC hA => ?_)
                  obtain ⟨hsz, h5, h11, h17, h18, h19⟩ := hC
                  refine wp_region_quietB (by as_aux_lemma => kernel_rfl) (by as_aux_lemma => kernel_rfl) ?_
                  refine quiet_gen (fun a' => a' = ((((((((((((((((((((((((((((((((((((A.put (some 184) (.slice (some ⟨g17, 0, none⟩) 8 c17)).put (some 185) (.pointer (some ⟨g17, 0 + 7, none⟩))).put (some 186) (.int .u32 s7)).put (some 187) (.int .u32 (se))).put (some 188) (.int .u32 (Sha.rot 67108864 64 se))).put (some 189) (.int .u32 (se))).put (some 190) (.int .u32 (Sha.rot 2097152 2048 se))).put (some 191) (.int .u32 (bits .xor .u32 (Sha.rot 67108864 64 se) (Sha.rot 2097152 2048 se)))).put (some 192) (.int .u32 (se))).put (some 193) (.int .u32 (Sha.rot 128 33554432 se))).put (some 194) (.int .u32 (A1))).put (some 195) (.int .u32 ((s7 + A1) % 4294967296))).put (some 196) (.int .u32 (se))).put (some 197) (.slice (some ⟨g17, 0, none⟩) 8 c17)).put (some 198) (.pointer (some ⟨g17, 0 + 5, none⟩))).put (some 199) (.int .u32 s5)).put (some 200) (.int .u32 (bits .and .u32 (se) (s5)))).put (some 201) (.int .u32 (se))).put (some 202) (.int .u32 (4294967295 - se))).put (some 203) (.slice (some ⟨g17, 0, none⟩) 8 c17)).put (some 204) (.pointer (some ⟨g17, 0 + 6, none⟩))).put (some 205) (.int .u32 s6)).put (some 206) (.int .u32 (bits .and .u32 (4294967295 - se) (s6)))).put (some 207) (.int .u32 (A2))).put (some 208) (.int .u32 (((s7 + A1) % 4294967296 + A2) % 4294967296))).put (some 209) (.slice (some ⟨g5, 0, none⟩) 64 c5)).put (some 210) (.int .i64 (q : Int))).put (some 211) (.pointer (some ⟨g5, 0 + q, none⟩))).put (some 212) (.int .u32 kk)).put (some 213) (.int .u32 ((((s7 + A1) % 4294967296 + A2) % 4294967296 + kk) % 4294967296))).put (some 214) (.slice (some ⟨g11, 0, none⟩) 64 cap3')).put (some 215) (.int .i64 (q : Int))).put (some 216) (.pointer (some ⟨g11, 0 + q, none⟩))).put (some 217) (.int .u32 ww)).put (some 218) (.int .u32 (o1))).put (some 21) (.int .u32 o1))) ?_ ?_
                  · as_aux_lemma =>
                      intro Ψ hΨ
                      refine BigFrame.wpQuiet_want rfl (fun K hK => quietY (ops := #[]) (v := .slice (some ⟨g17, 0, none⟩) 8 c17) 184 (yieldsMove (.tmp 17) rfl rfl (by simp [eval_put, eval_const', size_put, hsz, h5, h11, h17, h18, h19])) rfl rfl (hK _ ?_))
                      clear hK K
                      refine BigFrame.wpQuiet_want rfl (fun K hK => quietY (ops := #[]) (v := .pointer (some ⟨g17, 0 + 7, none⟩)) 185 (yieldsIdx 66 57 (.tmp 184) (.const (.int .i64 7)) g17 0 8 c17 7 rfl rfl (by simp [eval_put, eval_const', size_put, hsz, h5, h11, h17, h18, h19]) (by simp [eval_put, eval_const', size_put, hsz, h5, h11, h17, h18, h19]) (by omega) Try.underlying66 Try.sizeOf57 rfl) rfl rfl (hK _ ?_))
                      clear hK K
                      refine BigFrame.wpQuiet_want rfl (fun K hK => quietY (ops := #[]) (v := .int .u32 s7) 186 (yieldsLoad 57 .u32 (.tmp 185) g17 (0 + 7) s7 rfl rfl (by simp [eval_put, eval_const', size_put, hsz, h5, h11, h17, h18, h19]) Try.underlying57 E7.out rfl) rfl rfl (hK _ ?_))
                      clear hK K
                      refine BigFrame.wpQuiet_want rfl (fun K hK => quietY (ops := #[]) (v := .int .u32 (se)) 187 (yieldsMove (.tmp 19) rfl rfl (by simp [eval_put, eval_const', size_put, hsz, h5, h11, h17, h18, h19])) rfl rfl (hK _ ?_))
                      clear hK K
                      refine BigFrame.wpQuiet_want rfl (fun K hK => quietTurn (.tmp 187) 6 se (Sha.rot 67108864 64 se) _ rfl (by simp [eval_put, eval_const', size_put, hsz, h5, h11, h17, h18, h19]) (fun W => rturn6 se e0 e1 W) 188 rfl (hK _ ?_))
                      clear hK K
                      refine BigFrame.wpQuiet_want rfl (fun K hK => quietY (ops := #[]) (v := .int .u32 (se)) 189 (yieldsMove (.tmp 19) rfl rfl (by simp [eval_put, eval_const', size_put, hsz, h5, h11, h17, h18, h19])) rfl rfl (hK _ ?_))
                      clear hK K
                      refine BigFrame.wpQuiet_want rfl (fun K hK => quietTurn (.tmp 189) 11 se (Sha.rot 2097152 2048 se) _ rfl (by simp [eval_put, eval_const', size_put, hsz, h5, h11, h17, h18, h19]) (fun W => rturn11 se e0 e1 W) 190 rfl (hK _ ?_))
                      clear hK K
                      refine BigFrame.wpQuiet_want rfl (fun K hK => quietY (ops := #[]) (v := .int .u32 (bits .xor .u32 (Sha.rot 67108864 64 se) (Sha.rot 2097152 2048 se))) 191 (yieldsBin .xor 57 57 (.tmp 188) (.tmp 190) (.int .u32 (Sha.rot 67108864 64 se)) (.int .u32 (Sha.rot 2097152 2048 se)) rfl rfl (by simp [eval_put, eval_const', size_put, hsz, h5, h11, h17, h18, h19]) (by simp [eval_put, eval_const', size_put, hsz, h5, h11, h17, h18, h19]) (guardInt _ _ _ _ _ _ _) (run_xor32 _ _ _ _ rfl)) rfl rfl (hK _ ?_))
                      clear hK K
                      refine BigFrame.wpQuiet_want rfl (fun K hK => quietY (ops := #[]) (v := .int .u32 (se)) 192 (yieldsMove (.tmp 19) rfl rfl (by simp [eval_put, eval_const', size_put, hsz, h5, h11, h17, h18, h19])) rfl rfl (hK _ ?_))
                      clear hK K
                      refine BigFrame.wpQuiet_want rfl (fun K hK => quietTurn (.tmp 192) 25 se (Sha.rot 128 33554432 se) _ rfl (by simp [eval_put, eval_const', size_put, hsz, h5, h11, h17, h18, h19]) (fun W => rturn25 se e0 e1 W) 193 rfl (hK _ ?_))
                      clear hK K
                      refine BigFrame.wpQuiet_want rfl (fun K hK => quietY (ops := #[]) (v := .int .u32 (A1)) 194 (yieldsBin .xor 57 57 (.tmp 191) (.tmp 193) (.int .u32 (bits .xor .u32 (Sha.rot 67108864 64 se) (Sha.rot 2097152 2048 se))) (.int .u32 (Sha.rot 128 33554432 se)) rfl rfl (by simp [eval_put, eval_const', size_put, hsz, h5, h11, h17, h18, h19]) (by simp [eval_put, eval_const', size_put, hsz, h5, h11, h17, h18, h19]) (guardInt _ _ _ _ _ _ _) (run_xor32 _ _ _ _ HA1.out)) rfl rfl (hK _ ?_))
                      clear hK K
                      refine BigFrame.wpQuiet_want rfl (fun K hK => quietY (ops := #[]) (v := .int .u32 ((s7 + A1) % 4294967296)) 195 (yieldsBin .add 57 57 (.tmp 186) (.tmp 194) (.int .u32 (s7)) (.int .u32 (A1)) rfl rfl (by simp [eval_put, eval_const', size_put, hsz, h5, h11, h17, h18, h19]) (by simp [eval_put, eval_const', size_put, hsz, h5, h11, h17, h18, h19]) (guardInt _ _ _ _ _ _ _) (run_add32 _ _ _)) rfl rfl (hK _ ?_))
                      clear hK K
                      refine BigFrame.wpQuiet_want rfl (fun K hK => quietY (ops := #[]) (v := .int .u32 (se)) 196 (yieldsMove (.tmp 19) rfl rfl (by simp [eval_put, eval_const', size_put, hsz, h5, h11, h17, h18, h19])) rfl rfl (hK _ ?_))
                      clear hK K
                      refine BigFrame.wpQuiet_want rfl (fun K hK => quietY (ops := #[]) (v := .slice (some ⟨g17, 0, none⟩) 8 c17) 197 (yieldsMove (.tmp 17) rfl rfl (by simp [eval_put, eval_const', size_put, hsz, h5, h11, h17, h18, h19])) rfl rfl (hK _ ?_))
                      clear hK K
                      refine BigFrame.wpQuiet_want rfl (fun K hK => quietY (ops := #[]) (v := .pointer (some ⟨g17, 0 + 5, none⟩)) 198 (yieldsIdx 66 57 (.tmp 197) (.const (.int .i64 5)) g17 0 8 c17 5 rfl rfl (by simp [eval_put, eval_const', size_put, hsz, h5, h11, h17, h18, h19]) (by simp [eval_put, eval_const', size_put, hsz, h5, h11, h17, h18, h19]) (by omega) Try.underlying66 Try.sizeOf57 rfl) rfl rfl (hK _ ?_))
                      clear hK K
                      refine BigFrame.wpQuiet_want rfl (fun K hK => quietY (ops := #[]) (v := .int .u32 s5) 199 (yieldsLoad 57 .u32 (.tmp 198) g17 (0 + 5) s5 rfl rfl (by simp [eval_put, eval_const', size_put, hsz, h5, h11, h17, h18, h19]) Try.underlying57 E5.out rfl) rfl rfl (hK _ ?_))
                      clear hK K
                      refine BigFrame.wpQuiet_want rfl (fun K hK => quietY (ops := #[]) (v := .int .u32 (bits .and .u32 (se) (s5))) 200 (yieldsBin .and 57 57 (.tmp 196) (.tmp 199) (.int .u32 (se)) (.int .u32 (s5)) rfl rfl (by simp [eval_put, eval_const', size_put, hsz, h5, h11, h17, h18, h19]) (by simp [eval_put, eval_const', size_put, hsz, h5, h11, h17, h18, h19]) (guardInt _ _ _ _ _ _ _) (run_and32 _ _ _ _ rfl)) rfl rfl (hK _ ?_))
                      clear hK K
                      refine BigFrame.wpQuiet_want rfl (fun K hK => quietY (ops := #[]) (v := .int .u32 (se)) 201 (yieldsMove (.tmp 19) rfl rfl (by simp [eval_put, eval_const', size_put, hsz, h5, h11, h17, h18, h19])) rfl rfl (hK _ ?_))
                      clear hK K
                      refine BigFrame.wpQuiet_want rfl (fun K hK => quietY (ops := #[]) (v := .int .u32 (4294967295 - se)) 202 (yieldsBin .sub 57 57 (.const (.int .u32 4294967295)) (.tmp 201) (.int .u32 4294967295) (.int .u32 (se)) rfl rfl (by simp [eval_put, eval_const', size_put, hsz, h5, h11, h17, h18, h19]) (by simp [eval_put, eval_const', size_put, hsz, h5, h11, h17, h18, h19]) (guardInt _ _ _ _ _ _ _) (run_sub32 _ _ _ _ rfl (by omega) (by omega))) rfl rfl (hK _ ?_))
                      clear hK K
                      refine BigFrame.wpQuiet_want rfl (fun K hK => quietY (ops := #[]) (v := .slice (some ⟨g17, 0, none⟩) 8 c17) 203 (yieldsMove (.tmp 17) rfl rfl (by simp [eval_put, eval_const', size_put, hsz, h5, h11, h17, h18, h19])) rfl rfl (hK _ ?_))
                      clear hK K
                      refine BigFrame.wpQuiet_want rfl (fun K hK => quietY (ops := #[]) (v := .pointer (some ⟨g17, 0 + 6, none⟩)) 204 (yieldsIdx 66 57 (.tmp 203) (.const (.int .i64 6)) g17 0 8 c17 6 rfl rfl (by simp [eval_put, eval_const', size_put, hsz, h5, h11, h17, h18, h19]) (by simp [eval_put, eval_const', size_put, hsz, h5, h11, h17, h18, h19]) (by omega) Try.underlying66 Try.sizeOf57 rfl) rfl rfl (hK _ ?_))
                      clear hK K
                      refine BigFrame.wpQuiet_want rfl (fun K hK => quietY (ops := #[]) (v := .int .u32 s6) 205 (yieldsLoad 57 .u32 (.tmp 204) g17 (0 + 6) s6 rfl rfl (by simp [eval_put, eval_const', size_put, hsz, h5, h11, h17, h18, h19]) Try.underlying57 E6.out rfl) rfl rfl (hK _ ?_))
                      clear hK K
                      refine BigFrame.wpQuiet_want rfl (fun K hK => quietY (ops := #[]) (v := .int .u32 (bits .and .u32 (4294967295 - se) (s6))) 206 (yieldsBin .and 57 57 (.tmp 202) (.tmp 205) (.int .u32 (4294967295 - se)) (.int .u32 (s6)) rfl rfl (by simp [eval_put, eval_const', size_put, hsz, h5, h11, h17, h18, h19]) (by simp [eval_put, eval_const', size_put, hsz, h5, h11, h17, h18, h19]) (guardInt _ _ _ _ _ _ _) (run_and32 _ _ _ _ rfl)) rfl rfl (hK _ ?_))
                      clear hK K
                      refine BigFrame.wpQuiet_want rfl (fun K hK => quietY (ops := #[]) (v := .int .u32 (A2)) 207 (yieldsBin .xor 57 57 (.tmp 200) (.tmp 206) (.int .u32 (bits .and .u32 (se) (s5))) (.int .u32 (bits .and .u32 (4294967295 - se) (s6))) rfl rfl (by simp [eval_put, eval_const', size_put, hsz, h5, h11, h17, h18, h19]) (by simp [eval_put, eval_const', size_put, hsz, h5, h11, h17, h18, h19]) (guardInt _ _ _ _ _ _ _) (run_xor32 _ _ _ _ HA2.out)) rfl rfl (hK _ ?_))
                      clear hK K
                      refine BigFrame.wpQuiet_want rfl (fun K hK => quietY (ops := #[]) (v := .int .u32 (((s7 + A1) % 4294967296 + A2) % 4294967296)) 208 (yieldsBin .add 57 57 (.tmp 195) (.tmp 207) (.int .u32 ((s7 + A1) % 4294967296)) (.int .u32 (A2)) rfl rfl (by simp [eval_put, eval_const', size_put, hsz, h5, h11, h17, h18, h19]) (by simp [eval_put, eval_const', size_put, hsz, h5, h11, h17, h18, h19]) (guardInt _ _ _ _ _ _ _) (run_add32 _ _ _)) rfl rfl (hK _ ?_))
                      clear hK K
                      refine BigFrame.wpQuiet_want rfl (fun K hK => quietY (ops := #[]) (v := .slice (some ⟨g5, 0, none⟩) 64 c5) 209 (yieldsMove (.tmp 5) rfl rfl (by simp [eval_put, eval_const', size_put, hsz, h5, h11, h17, h18, h19])) rfl rfl (hK _ ?_))
                      clear hK K
                      refine BigFrame.wpQuiet_want rfl (fun K hK => quietY (ops := #[]) (v := .int .i64 (q : Int)) 210 (yieldsMove (.tmp 18) rfl rfl (by simp [eval_put, eval_const', size_put, hsz, h5, h11, h17, h18, h19])) rfl rfl (hK _ ?_))
                      clear hK K
                      refine BigFrame.wpQuiet_want rfl (fun K hK => quietY (ops := #[]) (v := .pointer (some ⟨g5, 0 + q, none⟩)) 211 (yieldsIdx 66 57 (.tmp 209) (.tmp 210) g5 0 64 c5 q rfl rfl (by simp [eval_put, eval_const', size_put, hsz, h5, h11, h17, h18, h19]) (by simp [eval_put, eval_const', size_put, hsz, h5, h11, h17, h18, h19]) (by omega) Try.underlying66 Try.sizeOf57 rfl) rfl rfl (hK _ ?_))
                      clear hK K
                      refine BigFrame.wpQuiet_want rfl (fun K hK => quietY (ops := #[]) (v := .int .u32 kk) 212 (yieldsLoad 57 .u32 (.tmp 211) g5 (0 + q) kk rfl rfl (by simp [eval_put, eval_const', size_put, hsz, h5, h11, h17, h18, h19]) Try.underlying57 EK.out rfl) rfl rfl (hK _ ?_))
                      clear hK K
                      refine BigFrame.wpQuiet_want rfl (fun K hK => quietY (ops := #[]) (v := .int .u32 ((((s7 + A1) % 4294967296 + A2) % 4294967296 + kk) % 4294967296)) 213 (yieldsBin .add 57 57 (.tmp 208) (.tmp 212) (.int .u32 (((s7 + A1) % 4294967296 + A2) % 4294967296)) (.int .u32 (kk)) rfl rfl (by simp [eval_put, eval_const', size_put, hsz, h5, h11, h17, h18, h19]) (by simp [eval_put, eval_const', size_put, hsz, h5, h11, h17, h18, h19]) (guardInt _ _ _ _ _ _ _) (run_add32 _ _ _)) rfl rfl (hK _ ?_))
                      clear hK K
                      refine BigFrame.wpQuiet_want rfl (fun K hK => quietY (ops := #[]) (v := .slice (some ⟨g11, 0, none⟩) 64 cap3') 214 (yieldsMove (.tmp 11) rfl rfl (by simp [eval_put, eval_const', size_put, hsz, h5, h11, h17, h18, h19])) rfl rfl (hK _ ?_))
                      clear hK K
                      refine BigFrame.wpQuiet_want rfl (fun K hK => quietY (ops := #[]) (v := .int .i64 (q : Int)) 215 (yieldsMove (.tmp 18) rfl rfl (by simp [eval_put, eval_const', size_put, hsz, h5, h11, h17, h18, h19])) rfl rfl (hK _ ?_))
                      clear hK K
                      refine BigFrame.wpQuiet_want rfl (fun K hK => quietY (ops := #[]) (v := .pointer (some ⟨g11, 0 + q, none⟩)) 216 (yieldsIdx 66 57 (.tmp 214) (.tmp 215) g11 0 64 cap3' q rfl rfl (by simp [eval_put, eval_const', size_put, hsz, h5, h11, h17, h18, h19]) (by simp [eval_put, eval_const', size_put, hsz, h5, h11, h17, h18, h19]) (by omega) Try.underlying66 Try.sizeOf57 rfl) rfl rfl (hK _ ?_))
                      clear hK K
                      refine BigFrame.wpQuiet_want rfl (fun K hK => quietY (ops := #[]) (v := .int .u32 ww) 217 (yieldsLoad 57 .u32 (.tmp 216) g11 (0 + q) ww rfl rfl (by simp [eval_put, eval_const', size_put, hsz, h5, h11, h17, h18, h19]) Try.underlying57 EW.out rfl) rfl rfl (hK _ ?_))
                      clear hK K
                      refine BigFrame.wpQuiet_want rfl (fun K hK => quietY (ops := #[]) (v := .int .u32 (o1)) 218 (yieldsBin .add 57 57 (.tmp 213) (.tmp 217) (.int .u32 ((((s7 + A1) % 4294967296 + A2) % 4294967296 + kk) % 4294967296)) (.int .u32 (ww)) rfl rfl (by simp [eval_put, eval_const', size_put, hsz, h5, h11, h17, h18, h19]) (by simp [eval_put, eval_const', size_put, hsz, h5, h11, h17, h18, h19]) (guardInt _ _ _ _ _ _ _) (run_sum32 _ _ _ _ HO1.out)) rfl rfl (hK _ ?_))
                      clear hK K
                      refine BigFrame.wpQuiet_want rfl (fun K hK => quiet_assignV (.tmp 218) (.int .u32 o1) rfl (by simp [eval_put, eval_const', size_put, hsz, h5, h11, h17, h18, h19]) (hK _ ?_))
                      clear hK K
                      refine wpQuiet_nil ?_
                      exact hΨ _ rfl
                  rintro _ rfl
                  intro wF hbF
                  subst hA
                  simp only [put_lit, List.set_cons_zero, List.set_cons_succ]
                  have EF := Lib.hid (EE.out.past hbF)
                  clear hbF HA1 HA2 HO1 EK EW E5 E6 E7 l4 l0 EE hsz h5 h11 h17 h18 h19
                  obtain ⟨A1, hA1⟩ : ∃ x, bits .xor .u32 (bits .xor .u32 (Sha.rot 1073741824 4 sa) (Sha.rot 524288 8192 sa)) (Sha.rot 1024 4194304 sa) = x := ⟨_, rfl⟩
                  obtain ⟨A2, hA2⟩ : ∃ x, bits .xor .u32 (bits .xor .u32 (bits .and .u32 (sa) (s1)) (bits .and .u32 (sa) (s2))) (bits .and .u32 (s1) (s2)) = x := ⟨_, rfl⟩
                  have HO3 : Hid ((A1 + A2) % 4294967296 = o2) := Lib.hid (by rw [HO2.out, ← hA1, ← hA2]; rfl)
                  have HA1 := Lib.hid hA1
                  have HA2 := Lib.hid hA2
                  clear HO2 hA1 hA2
                  have HO2 := HO3
                  have E1 : Hid (∀ W, Below wF.heap.size wF W → W.cell? ⟨g17, 0 + 1, none⟩ = some (.int .u32 s1)) := Lib.hid fun W hW => (EF.out.past hW).cell 1 (by omega)
                  have E2 : Hid (∀ W, Below wF.heap.size wF W → W.cell? ⟨g17, 0 + 2, none⟩ = some (.int .u32 s2)) := Lib.hid fun W hW => (EF.out.past hW).cell 2 (by omega)
                  go_wp2
                  refine frame_letter (fun A => A.tmps.size = 312 ∧ A.eval (.tmp 17) = .slice (some ⟨g17, 0, none⟩) 8 c17 ∧ A.eval (.tmp 20) = .int .u32 sa) ⟨by rfl, rfl, rfl⟩ (fun A hC hA => ?_)
                  obtain ⟨hsz, h17, h20⟩ := hC
                  refine wp_region_quietB (by as_aux_lemma => kernel_rfl) (by as_aux_lemma => kernel_rfl) ?_
                  refine quiet_gen (fun a' => a' = (((((((((((((((((((((((((((((A.put (some 219) (.int .u32 (sa))).put (some 220) (.int .u32 (Sha.rot 1073741824 4 sa))).put (some 221) (.int .u32 (sa))).put (some 222) (.int .u32 (Sha.rot 524288 8192 sa))).put (some 223) (.int .u32 (bits .xor .u32 (Sha.rot 1073741824 4 sa) (Sha.rot 524288 8192 sa)))).put (some 224) (.int .u32 (sa))).put (some 225) (.int .u32 (Sha.rot 1024 4194304 sa))).put (some 226) (.int .u32 (A1))).put (some 227) (.int .u32 (sa))).put (some 228) (.slice (some ⟨g17, 0, none⟩) 8 c17)).put (some 229) (.pointer (some ⟨g17, 0 + 1, none⟩))).put (some 230) (.int .u32 s1)).put (some 231) (.int .u32 (bits .and .u32 (sa) (s1)))).put (some 232) (.int .u32 (sa))).put (some 233) (.slice (some ⟨g17, 0, none⟩) 8 c17)).put (some 234) (.pointer (some ⟨g17, 0 + 2, none⟩))).put (some 235) (.int .u32 s2)).put (some 236) (.int .u32 (bits .and .u32 (sa) (s2)))).put (some 237) (.int .u32 (bits .xor .u32 (bits .and .u32 (sa) (s1)) (bits .and .u32 (sa) (s2))))).put (some 238) (.slice (some ⟨g17, 0, none⟩) 8 c17)).put (some 239) (.pointer (some ⟨g17, 0 + 1, none⟩))).put (some 240) (.int .u32 s1)).put (some 241) (.slice (some ⟨g17, 0, none⟩) 8 c17)).put (some 242) (.pointer (some ⟨g17, 0 + 2, none⟩))).put (some 243) (.int .u32 s2)).put (some 244) (.int .u32 (bits .and .u32 (s1) (s2)))).put (some 245) (.int .u32 (A2))).put (some 246) (.int .u32 (o2))).put (some 22) (.int .u32 o2))) ?_ ?_
                  · as_aux_lemma =>
                      intro Ψ hΨ
                      refine BigFrame.wpQuiet_want rfl (fun K hK => quietY (ops := #[]) (v := .int .u32 (sa)) 219 (yieldsMove (.tmp 20) rfl rfl (by simp [eval_put, eval_const', size_put, hsz, h17, h20])) rfl rfl (hK _ ?_))
                      clear hK K
                      refine BigFrame.wpQuiet_want rfl (fun K hK => quietTurn (.tmp 219) 2 sa (Sha.rot 1073741824 4 sa) _ rfl (by simp [eval_put, eval_const', size_put, hsz, h17, h20]) (fun W => rturn2 sa a0 a1 W) 220 rfl (hK _ ?_))
                      clear hK K
                      refine BigFrame.wpQuiet_want rfl (fun K hK => quietY (ops := #[]) (v := .int .u32 (sa)) 221 (yieldsMove (.tmp 20) rfl rfl (by simp [eval_put, eval_const', size_put, hsz, h17, h20])) rfl rfl (hK _ ?_))
                      clear hK K
                      refine BigFrame.wpQuiet_want rfl (fun K hK => quietTurn (.tmp 221) 13 sa (Sha.rot 524288 8192 sa) _ rfl (by simp [eval_put, eval_const', size_put, hsz, h17, h20]) (fun W => rturn13 sa a0 a1 W) 222 rfl (hK _ ?_))
                      clear hK K
                      refine BigFrame.wpQuiet_want rfl (fun K hK => quietY (ops := #[]) (v := .int .u32 (bits .xor .u32 (Sha.rot 1073741824 4 sa) (Sha.rot 524288 8192 sa))) 223 (yieldsBin .xor 57 57 (.tmp 220) (.tmp 222) (.int .u32 (Sha.rot 1073741824 4 sa)) (.int .u32 (Sha.rot 524288 8192 sa)) rfl rfl (by simp [eval_put, eval_const', size_put, hsz, h17, h20]) (by simp [eval_put, eval_const', size_put, hsz, h17, h20]) (guardInt _ _ _ _ _ _ _) (run_xor32 _ _ _ _ rfl)) rfl rfl (hK _ ?_))
                      clear hK K
                      refine BigFrame.wpQuiet_want rfl (fun K hK => quietY (ops := #[]) (v := .int .u32 (sa)) 224 (yieldsMove (.tmp 20) rfl rfl (by simp [eval_put, eval_const', size_put, hsz, h17, h20])) rfl rfl (hK _ ?_))
                      clear hK K
                      refine BigFrame.wpQuiet_want rfl (fun K hK => quietTurn (.tmp 224) 22 sa (Sha.rot 1024 4194304 sa) _ rfl (by simp [eval_put, eval_const', size_put, hsz, h17, h20]) (fun W => rturn22 sa a0 a1 W) 225 rfl (hK _ ?_))
                      clear hK K
                      refine BigFrame.wpQuiet_want rfl (fun K hK => quietY (ops := #[]) (v := .int .u32 (A1)) 226 (yieldsBin .xor 57 57 (.tmp 223) (.tmp 225) (.int .u32 (bits .xor .u32 (Sha.rot 1073741824 4 sa) (Sha.rot 524288 8192 sa))) (.int .u32 (Sha.rot 1024 4194304 sa)) rfl rfl (by simp [eval_put, eval_const', size_put, hsz, h17, h20]) (by simp [eval_put, eval_const', size_put, hsz, h17, h20]) (guardInt _ _ _ _ _ _ _) (run_xor32 _ _ _ _ HA1.out)) rfl rfl (hK _ ?_))
                      clear hK K
                      refine BigFrame.wpQuiet_want rfl (fun K hK => quietY (ops := #[]) (v := .int .u32 (sa)) 227 (yieldsMove (.tmp 20) rfl rfl (by simp [eval_put, eval_const', size_put, hsz, h17, h20])) rfl rfl (hK _ ?_))
                      clear hK K
                      refine BigFrame.wpQuiet_want rfl (fun K hK => quietY (ops := #[]) (v := .slice (some ⟨g17, 0, none⟩) 8 c17) 228 (yieldsMove (.tmp 17) rfl rfl (by simp [eval_put, eval_const', size_put, hsz, h17, h20])) rfl rfl (hK _ ?_))
                      clear hK K
                      refine BigFrame.wpQuiet_want rfl (fun K hK => quietY (ops := #[]) (v := .pointer (some ⟨g17, 0 + 1, none⟩)) 229 (yieldsIdx 66 57 (.tmp 228) (.const (.int .i64 1)) g17 0 8 c17 1 rfl rfl (by simp [eval_put, eval_const', size_put, hsz, h17, h20]) (by simp [eval_put, eval_const', size_put, hsz, h17, h20]) (by omega) Try.underlying66 Try.sizeOf57 rfl) rfl rfl (hK _ ?_))
                      clear hK K
                      refine BigFrame.wpQuiet_want rfl (fun K hK => quietY (ops := #[]) (v := .int .u32 s1) 230 (yieldsLoad 57 .u32 (.tmp 229) g17 (0 + 1) s1 rfl rfl (by simp [eval_put, eval_const', size_put, hsz, h17, h20]) Try.underlying57 E1.out rfl) rfl rfl (hK _ ?_))
                      clear hK K
                      refine BigFrame.wpQuiet_want rfl (fun K hK => quietY (ops := #[]) (v := .int .u32 (bits .and .u32 (sa) (s1))) 231 (yieldsBin .and 57 57 (.tmp 227) (.tmp 230) (.int .u32 (sa)) (.int .u32 (s1)) rfl rfl (by simp [eval_put, eval_const', size_put, hsz, h17, h20]) (by simp [eval_put, eval_const', size_put, hsz, h17, h20]) (guardInt _ _ _ _ _ _ _) (run_and32 _ _ _ _ rfl)) rfl rfl (hK _ ?_))
                      clear hK K
                      refine BigFrame.wpQuiet_want rfl (fun K hK => quietY (ops := #[]) (v := .int .u32 (sa)) 232 (yieldsMove (.tmp 20) rfl rfl (by simp [eval_put, eval_const', size_put, hsz, h17, h20])) rfl rfl (hK _ ?_))
                      clear hK K
                      refine BigFrame.wpQuiet_want rfl (fun K hK => quietY (ops := #[]) (v := .slice (some ⟨g17, 0, none⟩) 8 c17) 233 (yieldsMove (.tmp 17) rfl rfl (by simp [eval_put, eval_const', size_put, hsz, h17, h20])) rfl rfl (hK _ ?_))
                      clear hK K
                      refine BigFrame.wpQuiet_want rfl (fun K hK => quietY (ops := #[]) (v := .pointer (some ⟨g17, 0 + 2, none⟩)) 234 (yieldsIdx 66 57 (.tmp 233) (.const (.int .i64 2)) g17 0 8 c17 2 rfl rfl (by simp [eval_put, eval_const', size_put, hsz, h17, h20]) (by simp [eval_put, eval_const', size_put, hsz, h17, h20]) (by omega) Try.underlying66 Try.sizeOf57 rfl) rfl rfl (hK _ ?_))
                      clear hK K
                      refine BigFrame.wpQuiet_want rfl (fun K hK => quietY (ops := #[]) (v := .int .u32 s2) 235 (yieldsLoad 57 .u32 (.tmp 234) g17 (0 + 2) s2 rfl rfl (by simp [eval_put, eval_const', size_put, hsz, h17, h20]) Try.underlying57 E2.out rfl) rfl rfl (hK _ ?_))
                      clear hK K
                      refine BigFrame.wpQuiet_want rfl (fun K hK => quietY (ops := #[]) (v := .int .u32 (bits .and .u32 (sa) (s2))) 236 (yieldsBin .and 57 57 (.tmp 232) (.tmp 235) (.int .u32 (sa)) (.int .u32 (s2)) rfl rfl (by simp [eval_put, eval_const', size_put, hsz, h17, h20]) (by simp [eval_put, eval_const', size_put, hsz, h17, h20]) (guardInt _ _ _ _ _ _ _) (run_and32 _ _ _ _ rfl)) rfl rfl (hK _ ?_))
                      clear hK K
                      refine BigFrame.wpQuiet_want rfl (fun K hK => quietY (ops := #[]) (v := .int .u32 (bits .xor .u32 (bits .and .u32 (sa) (s1)) (bits .and .u32 (sa) (s2)))) 237 (yieldsBin .xor 57 57 (.tmp 231) (.tmp 236) (.int .u32 (bits .and .u32 (sa) (s1))) (.int .u32 (bits .and .u32 (sa) (s2))) rfl rfl (by simp [eval_put, eval_const', size_put, hsz, h17, h20]) (by simp [eval_put, eval_const', size_put, hsz, h17, h20]) (guardInt _ _ _ _ _ _ _) (run_xor32 _ _ _ _ rfl)) rfl rfl (hK _ ?_))
                      clear hK K
                      refine BigFrame.wpQuiet_want rfl (fun K hK => quietY (ops := #[]) (v := .slice (some ⟨g17, 0, none⟩) 8 c17) 238 (yieldsMove (.tmp 17) rfl rfl (by simp [eval_put, eval_const', size_put, hsz, h17, h20])) rfl rfl (hK _ ?_))
                      clear hK K
                      refine BigFrame.wpQuiet_want rfl (fun K hK => quietY (ops := #[]) (v := .pointer (some ⟨g17, 0 + 1, none⟩)) 239 (yieldsIdx 66 57 (.tmp 238) (.const (.int .i64 1)) g17 0 8 c17 1 rfl rfl (by simp [eval_put, eval_const', size_put, hsz, h17, h20]) (by simp [eval_put, eval_const', size_put, hsz, h17, h20]) (by omega) Try.underlying66 Try.sizeOf57 rfl) rfl rfl (hK _ ?_))
                      clear hK K
                      refine BigFrame.wpQuiet_want rfl (fun K hK => quietY (ops := #[]) (v := .int .u32 s1) 240 (yieldsLoad 57 .u32 (.tmp 239) g17 (0 + 1) s1 rfl rfl (by simp [eval_put, eval_const', size_put, hsz, h17, h20]) Try.underlying57 E1.out rfl) rfl rfl (hK _ ?_))
                      clear hK K
                      refine BigFrame.wpQuiet_want rfl (fun K hK => quietY (ops := #[]) (v := .slice (some ⟨g17, 0, none⟩) 8 c17) 241 (yieldsMove (.tmp 17) rfl rfl (by simp [eval_put, eval_const', size_put, hsz, h17, h20])) rfl rfl (hK _ ?_))
                      clear hK K
                      refine BigFrame.wpQuiet_want rfl (fun K hK => quietY (ops := #[]) (v := .pointer (some ⟨g17, 0 + 2, none⟩)) 242 (yieldsIdx 66 57 (.tmp 241) (.const (.int .i64 2)) g17 0 8 c17 2 rfl rfl (by simp [eval_put, eval_const', size_put, hsz, h17, h20]) (by simp [eval_put, eval_const', size_put, hsz, h17, h20]) (by omega) Try.underlying66 Try.sizeOf57 rfl) rfl rfl (hK _ ?_))
                      clear hK K
                      refine BigFrame.wpQuiet_want rfl (fun K hK => quietY (ops := #[]) (v := .int .u32 s2) 243 (yieldsLoad 57 .u32 (.tmp 242) g17 (0 + 2) s2 rfl rfl (by simp [eval_put, eval_const', size_put, hsz, h17, h20]) Try.underlying57 E2.out rfl) rfl rfl (hK _ ?_))
                      clear hK K
                      refine BigFrame.wpQuiet_want rfl (fun K hK => quietY (ops := #[]) (v := .int .u32 (bits .and .u32 (s1) (s2))) 244 (yieldsBin .and 57 57 (.tmp 240) (.tmp 243) (.int .u32 (s1)) (.int .u32 (s2)) rfl rfl (by simp [eval_put, eval_const', size_put, hsz, h17, h20]) (by simp [eval_put, eval_const', size_put, hsz, h17, h20]) (guardInt _ _ _ _ _ _ _) (run_and32 _ _ _ _ rfl)) rfl rfl (hK _ ?_))
                      clear hK K
                      refine BigFrame.wpQuiet_want rfl (fun K hK => quietY (ops := #[]) (v := .int .u32 (A2)) 245 (yieldsBin .xor 57 57 (.tmp 237) (.tmp 244) (.int .u32 (bits .xor .u32 (bits .and .u32 (sa) (s1)) (bits .and .u32 (sa) (s2)))) (.int .u32 (bits .and .u32 (s1) (s2))) rfl rfl (by simp [eval_put, eval_const', size_put, hsz, h17, h20]) (by simp [eval_put, eval_const', size_put, hsz, h17, h20]) (guardInt _ _ _ _ _ _ _) (run_xor32 _ _ _ _ HA2.out)) rfl rfl (hK _ ?_))
                      clear hK K
                      refine BigFrame.wpQuiet_want rfl (fun K hK => quietY (ops := #[]) (v := .int .u32 (o2)) 246 (yieldsBin .add 57 57 (.tmp 226) (.tmp 245) (.int .u32 (A1)) (.int .u32 (A2)) rfl rfl (by simp [eval_put, eval_const', size_put, hsz, h17, h20]) (by simp [eval_put, eval_const', size_put, hsz, h17, h20]) (guardInt _ _ _ _ _ _ _) (run_sum32 _ _ _ _ HO2.out)) rfl rfl (hK _ ?_))
                      clear hK K
                      refine BigFrame.wpQuiet_want rfl (fun K hK => quiet_assignV (.tmp 246) (.int .u32 o2) rfl (by simp [eval_put, eval_const', size_put, hsz, h17, h20]) (hK _ ?_))
                      clear hK K
                      refine wpQuiet_nil ?_
                      exact hΨ _ rfl
                  rintro _ rfl
                  intro wG hbG
                  subst hA
                  simp only [put_lit, List.set_cons_zero, List.set_cons_succ]
                  have EG := Lib.hid (EF.out.past hbG)
                  clear hbG HA1 HA2 HO2 HO3 E1 E2 EF hsz h17 h20
                  have E0 : Hid (∀ W, Below wG.heap.size wG W → W.cell? ⟨g17, 0 + 0, none⟩ = some (.int .u32 sa)) := Lib.hid fun W hW => (EG.out.past hW).cell 0 (by omega)
                  have E1 : Hid (∀ W, Below wG.heap.size wG W → W.cell? ⟨g17, 0 + 1, none⟩ = some (.int .u32 s1)) := Lib.hid fun W hW => (EG.out.past hW).cell 1 (by omega)
                  have E2 : Hid (∀ W, Below wG.heap.size wG W → W.cell? ⟨g17, 0 + 2, none⟩ = some (.int .u32 s2)) := Lib.hid fun W hW => (EG.out.past hW).cell 2 (by omega)
                  have E3 : Hid (∀ W, Below wG.heap.size wG W → W.cell? ⟨g17, 0 + 3, none⟩ = some (.int .u32 s3)) := Lib.hid fun W hW => (EG.out.past hW).cell 3 (by omega)
                  have E4 : Hid (∀ W, Below wG.heap.size wG W → W.cell? ⟨g17, 0 + 4, none⟩ = some (.int .u32 se)) := Lib.hid fun W hW => (EG.out.past hW).cell 4 (by omega)
                  have E5 : Hid (∀ W, Below wG.heap.size wG W → W.cell? ⟨g17, 0 + 5, none⟩ = some (.int .u32 s5)) := Lib.hid fun W hW => (EG.out.past hW).cell 5 (by omega)
                  have E6 : Hid (∀ W, Below wG.heap.size wG W → W.cell? ⟨g17, 0 + 6, none⟩ = some (.int .u32 s6)) := Lib.hid fun W hW => (EG.out.past hW).cell 6 (by omega)
                  go_wp2
                  refine frame_letter (fun A => A.tmps.size = 312 ∧ A.eval (.tmp 17) = .slice (some ⟨g17, 0, none⟩) 8 c17 ∧ A.eval (.tmp 21) = .int .u32 o1 ∧ A.eval (.tmp 22) = .int .u32 o2) ⟨by rfl, rfl, rfl, rfl⟩ (fun A hC hA => ?_)
                  obtain ⟨hsz, h17, h21, h22⟩ := hC
                  refine wp_region_noPanic ?_
                  refine wp_region_E 27 (Below wG.heap.size wG) (by as_aux_lemma => kernel_rfl) ?_
                  refine wpAnyE_takeD (i := 0) (d := 247) (oi := _) (v := .int .u32 (o1)) rfl (by as_aux_lemma => kernel_rfl) (by as_aux_lemma => kernel_rfl) (by as_aux_lemma => kernel_rfl) (by as_aux_lemma => kernel_rfl) (by decide) (by as_aux_lemma => kernel_rfl) rfl (fun _ _ _ h => h) (yieldsMove (.tmp 21) rfl rfl (by simp [eval_put, eval_const', size_put, hsz, h17, h21, h22])) (Below.refl _ _).drew ?_
                  refine wpAnyE_takeD (i := 1) (d := 248) (oi := _) (v := .int .u32 (o2)) rfl (by as_aux_lemma => kernel_rfl) (by as_aux_lemma => kernel_rfl) (by as_aux_lemma => kernel_rfl) (by as_aux_lemma => kernel_rfl) (by decide) (by as_aux_lemma => kernel_rfl) rfl (fun _ _ _ h => h) (yieldsMove (.tmp 22) rfl rfl (by simp [eval_put, eval_const', size_put, hsz, h17, h21, h22])) (Below.refl _ _).drew ?_
                  refine wpAnyE_takeD (i := 2) (d := 249) (oi := _) (v := .int .u32 ((o1 + o2) % 4294967296)) rfl (by as_aux_lemma => kernel_rfl) (by as_aux_lemma => kernel_rfl) (by as_aux_lemma => kernel_rfl) (by as_aux_lemma => kernel_rfl) (by decide) (by as_aux_lemma => kernel_rfl) rfl (fun _ _ _ h => h) (yieldsBin .add 57 57 (.tmp 247) (.tmp 248) (.int .u32 (o1)) (.int .u32 (o2)) rfl rfl (by simp [eval_put, eval_const', size_put, hsz, h17, h21, h22]) (by simp [eval_put, eval_const', size_put, hsz, h17, h21, h22]) (guardInt _ _ _ _ _ _ _) (run_add32 _ _ _)) (Below.refl _ _).drew ?_
                  refine wpAnyE_takeD (i := 3) (d := 250) (oi := _) (v := .slice (some ⟨g17, 0, none⟩) 8 c17) rfl (by as_aux_lemma => kernel_rfl) (by as_aux_lemma => kernel_rfl) (by as_aux_lemma => kernel_rfl) (by as_aux_lemma => kernel_rfl) (by decide) (by as_aux_lemma => kernel_rfl) rfl (fun _ _ _ h => h) (yieldsMove (.tmp 17) rfl rfl (by simp [eval_put, eval_const', size_put, hsz, h17, h21, h22])) (Below.refl _ _).drew ?_
                  refine wpAnyE_takeD (i := 4) (d := 251) (oi := _) (v := .pointer (some ⟨g17, 0 + 0, none⟩)) rfl (by as_aux_lemma => kernel_rfl) (by as_aux_lemma => kernel_rfl) (by as_aux_lemma => kernel_rfl) (by as_aux_lemma => kernel_rfl) (by decide) (by as_aux_lemma => kernel_rfl) rfl (fun _ _ _ h => h) (yieldsIdx 66 57 (.tmp 250) (.const (.int .i64 0)) g17 0 8 c17 0 rfl rfl (by simp [eval_put, eval_const', size_put, hsz, h17, h21, h22]) (by simp [eval_put, eval_const', size_put, hsz, h17, h21, h22]) (by omega) Try.underlying66 Try.sizeOf57 rfl) (Below.refl _ _).drew ?_
                  refine wpAnyE_takeD (i := 5) (d := 252) (oi := _) (v := .int .u32 sa) rfl (by as_aux_lemma => kernel_rfl) (by as_aux_lemma => kernel_rfl) (by as_aux_lemma => kernel_rfl) (by as_aux_lemma => kernel_rfl) (by decide) (by as_aux_lemma => kernel_rfl) rfl (fun _ _ _ h => h) (yieldsLoad 57 .u32 (.tmp 251) g17 (0 + 0) sa rfl rfl (by simp [eval_put, eval_const', size_put, hsz, h17, h21, h22]) Try.underlying57 E0.out rfl) (Below.refl _ _).drew ?_
                  refine wpAnyE_takeD (i := 6) (d := 253) (oi := _) (v := .slice (some ⟨g17, 0, none⟩) 8 c17) rfl (by as_aux_lemma => kernel_rfl) (by as_aux_lemma => kernel_rfl) (by as_aux_lemma => kernel_rfl) (by as_aux_lemma => kernel_rfl) (by decide) (by as_aux_lemma => kernel_rfl) rfl (fun _ _ _ h => h) (yieldsMove (.tmp 17) rfl rfl (by simp [eval_put, eval_const', size_put, hsz, h17, h21, h22])) (Below.refl _ _).drew ?_
                  refine wpAnyE_takeD (i := 7) (d := 254) (oi := _) (v := .pointer (some ⟨g17, 0 + 1, none⟩)) rfl (by as_aux_lemma => kernel_rfl) (by as_aux_lemma => kernel_rfl) (by as_aux_lemma => kernel_rfl) (by as_aux_lemma => kernel_rfl) (by decide) (by as_aux_lemma => kernel_rfl) rfl (fun _ _ _ h => h) (yieldsIdx 66 57 (.tmp 253) (.const (.int .i64 1)) g17 0 8 c17 1 rfl rfl (by simp [eval_put, eval_const', size_put, hsz, h17, h21, h22]) (by simp [eval_put, eval_const', size_put, hsz, h17, h21, h22]) (by omega) Try.underlying66 Try.sizeOf57 rfl) (Below.refl _ _).drew ?_
                  refine wpAnyE_takeD (i := 8) (d := 255) (oi := _) (v := .int .u32 s1) rfl (by as_aux_lemma => kernel_rfl) (by as_aux_lemma => kernel_rfl) (by as_aux_lemma => kernel_rfl) (by as_aux_lemma => kernel_rfl) (by decide) (by as_aux_lemma => kernel_rfl) rfl (fun _ _ _ h => h) (yieldsLoad 57 .u32 (.tmp 254) g17 (0 + 1) s1 rfl rfl (by simp [eval_put, eval_const', size_put, hsz, h17, h21, h22]) Try.underlying57 E1.out rfl) (Below.refl _ _).drew ?_
                  refine wpAnyE_takeD (i := 9) (d := 256) (oi := _) (v := .slice (some ⟨g17, 0, none⟩) 8 c17) rfl (by as_aux_lemma => kernel_rfl) (by as_aux_lemma => kernel_rfl) (by as_aux_lemma => kernel_rfl) (by as_aux_lemma => kernel_rfl) (by decide) (by as_aux_lemma => kernel_rfl) rfl (fun _ _ _ h => h) (yieldsMove (.tmp 17) rfl rfl (by simp [eval_put, eval_const', size_put, hsz, h17, h21, h22])) (Below.refl _ _).drew ?_
                  refine wpAnyE_takeD (i := 10) (d := 257) (oi := _) (v := .pointer (some ⟨g17, 0 + 2, none⟩)) rfl (by as_aux_lemma => kernel_rfl) (by as_aux_lemma => kernel_rfl) (by as_aux_lemma => kernel_rfl) (by as_aux_lemma => kernel_rfl) (by decide) (by as_aux_lemma => kernel_rfl) rfl (fun _ _ _ h => h) (yieldsIdx 66 57 (.tmp 256) (.const (.int .i64 2)) g17 0 8 c17 2 rfl rfl (by simp [eval_put, eval_const', size_put, hsz, h17, h21, h22]) (by simp [eval_put, eval_const', size_put, hsz, h17, h21, h22]) (by omega) Try.underlying66 Try.sizeOf57 rfl) (Below.refl _ _).drew ?_
                  refine wpAnyE_takeD (i := 11) (d := 258) (oi := _) (v := .int .u32 s2) rfl (by as_aux_lemma => kernel_rfl) (by as_aux_lemma => kernel_rfl) (by as_aux_lemma => kernel_rfl) (by as_aux_lemma => kernel_rfl) (by decide) (by as_aux_lemma => kernel_rfl) rfl (fun _ _ _ h => h) (yieldsLoad 57 .u32 (.tmp 257) g17 (0 + 2) s2 rfl rfl (by simp [eval_put, eval_const', size_put, hsz, h17, h21, h22]) Try.underlying57 E2.out rfl) (Below.refl _ _).drew ?_
                  refine wpAnyE_takeD (i := 12) (d := 259) (oi := _) (v := .slice (some ⟨g17, 0, none⟩) 8 c17) rfl (by as_aux_lemma => kernel_rfl) (by as_aux_lemma => kernel_rfl) (by as_aux_lemma => kernel_rfl) (by as_aux_lemma => kernel_rfl) (by decide) (by as_aux_lemma => kernel_rfl) rfl (fun _ _ _ h => h) (yieldsMove (.tmp 17) rfl rfl (by simp [eval_put, eval_const', size_put, hsz, h17, h21, h22])) (Below.refl _ _).drew ?_
                  refine wpAnyE_takeD (i := 13) (d := 260) (oi := _) (v := .pointer (some ⟨g17, 0 + 3, none⟩)) rfl (by as_aux_lemma => kernel_rfl) (by as_aux_lemma => kernel_rfl) (by as_aux_lemma => kernel_rfl) (by as_aux_lemma => kernel_rfl) (by decide) (by as_aux_lemma => kernel_rfl) rfl (fun _ _ _ h => h) (yieldsIdx 66 57 (.tmp 259) (.const (.int .i64 3)) g17 0 8 c17 3 rfl rfl (by simp [eval_put, eval_const', size_put, hsz, h17, h21, h22]) (by simp [eval_put, eval_const', size_put, hsz, h17, h21, h22]) (by omega) Try.underlying66 Try.sizeOf57 rfl) (Below.refl _ _).drew ?_
                  refine wpAnyE_takeD (i := 14) (d := 261) (oi := _) (v := .int .u32 s3) rfl (by as_aux_lemma => kernel_rfl) (by as_aux_lemma => kernel_rfl) (by as_aux_lemma => kernel_rfl) (by as_aux_lemma => kernel_rfl) (by decide) (by as_aux_lemma => kernel_rfl) rfl (fun _ _ _ h => h) (yieldsLoad 57 .u32 (.tmp 260) g17 (0 + 3) s3 rfl rfl (by simp [eval_put, eval_const', size_put, hsz, h17, h21, h22]) Try.underlying57 E3.out rfl) (Below.refl _ _).drew ?_
                  refine wpAnyE_takeD (i := 15) (d := 262) (oi := _) (v := .int .u32 (o1)) rfl (by as_aux_lemma => kernel_rfl) (by as_aux_lemma => kernel_rfl) (by as_aux_lemma => kernel_rfl) (by as_aux_lemma => kernel_rfl) (by decide) (by as_aux_lemma => kernel_rfl) rfl (fun _ _ _ h => h) (yieldsMove (.tmp 21) rfl rfl (by simp [eval_put, eval_const', size_put, hsz, h17, h21, h22])) (Below.refl _ _).drew ?_
                  refine wpAnyE_takeD (i := 16) (d := 263) (oi := _) (v := .int .u32 ((s3 + o1) % 4294967296)) rfl (by as_aux_lemma => kernel_rfl) (by as_aux_lemma => kernel_rfl) (by as_aux_lemma => kernel_rfl) (by as_aux_lemma => kernel_rfl) (by decide) (by as_aux_lemma => kernel_rfl) rfl (fun _ _ _ h => h) (yieldsBin .add 57 57 (.tmp 261) (.tmp 262) (.int .u32 (s3)) (.int .u32 (o1)) rfl rfl (by simp [eval_put, eval_const', size_put, hsz, h17, h21, h22]) (by simp [eval_put, eval_const', size_put, hsz, h17, h21, h22]) (guardInt _ _ _ _ _ _ _) (run_add32 _ _ _)) (Below.refl _ _).drew ?_
                  refine wpAnyE_takeD (i := 17) (d := 264) (oi := _) (v := .slice (some ⟨g17, 0, none⟩) 8 c17) rfl (by as_aux_lemma => kernel_rfl) (by as_aux_lemma => kernel_rfl) (by as_aux_lemma => kernel_rfl) (by as_aux_lemma => kernel_rfl) (by decide) (by as_aux_lemma => kernel_rfl) rfl (fun _ _ _ h => h) (yieldsMove (.tmp 17) rfl rfl (by simp [eval_put, eval_const', size_put, hsz, h17, h21, h22])) (Below.refl _ _).drew ?_
                  refine wpAnyE_takeD (i := 18) (d := 265) (oi := _) (v := .pointer (some ⟨g17, 0 + 4, none⟩)) rfl (by as_aux_lemma => kernel_rfl) (by as_aux_lemma => kernel_rfl) (by as_aux_lemma => kernel_rfl) (by as_aux_lemma => kernel_rfl) (by decide) (by as_aux_lemma => kernel_rfl) rfl (fun _ _ _ h => h) (yieldsIdx 66 57 (.tmp 264) (.const (.int .i64 4)) g17 0 8 c17 4 rfl rfl (by simp [eval_put, eval_const', size_put, hsz, h17, h21, h22]) (by simp [eval_put, eval_const', size_put, hsz, h17, h21, h22]) (by omega) Try.underlying66 Try.sizeOf57 rfl) (Below.refl _ _).drew ?_
                  refine wpAnyE_takeD (i := 19) (d := 266) (oi := _) (v := .int .u32 se) rfl (by as_aux_lemma => kernel_rfl) (by as_aux_lemma => kernel_rfl) (by as_aux_lemma => kernel_rfl) (by as_aux_lemma => kernel_rfl) (by decide) (by as_aux_lemma => kernel_rfl) rfl (fun _ _ _ h => h) (yieldsLoad 57 .u32 (.tmp 265) g17 (0 + 4) se rfl rfl (by simp [eval_put, eval_const', size_put, hsz, h17, h21, h22]) Try.underlying57 E4.out rfl) (Below.refl _ _).drew ?_
                  refine wpAnyE_takeD (i := 20) (d := 267) (oi := _) (v := .slice (some ⟨g17, 0, none⟩) 8 c17) rfl (by as_aux_lemma => kernel_rfl) (by as_aux_lemma => kernel_rfl) (by as_aux_lemma => kernel_rfl) (by as_aux_lemma => kernel_rfl) (by decide) (by as_aux_lemma => kernel_rfl) rfl (fun _ _ _ h => h) (yieldsMove (.tmp 17) rfl rfl (by simp [eval_put, eval_const', size_put, hsz, h17, h21, h22])) (Below.refl _ _).drew ?_
                  refine wpAnyE_takeD (i := 21) (d := 268) (oi := _) (v := .pointer (some ⟨g17, 0 + 5, none⟩)) rfl (by as_aux_lemma => kernel_rfl) (by as_aux_lemma => kernel_rfl) (by as_aux_lemma => kernel_rfl) (by as_aux_lemma => kernel_rfl) (by decide) (by as_aux_lemma => kernel_rfl) rfl (fun _ _ _ h => h) (yieldsIdx 66 57 (.tmp 267) (.const (.int .i64 5)) g17 0 8 c17 5 rfl rfl (by simp [eval_put, eval_const', size_put, hsz, h17, h21, h22]) (by simp [eval_put, eval_const', size_put, hsz, h17, h21, h22]) (by omega) Try.underlying66 Try.sizeOf57 rfl) (Below.refl _ _).drew ?_
                  refine wpAnyE_takeD (i := 22) (d := 269) (oi := _) (v := .int .u32 s5) rfl (by as_aux_lemma => kernel_rfl) (by as_aux_lemma => kernel_rfl) (by as_aux_lemma => kernel_rfl) (by as_aux_lemma => kernel_rfl) (by decide) (by as_aux_lemma => kernel_rfl) rfl (fun _ _ _ h => h) (yieldsLoad 57 .u32 (.tmp 268) g17 (0 + 5) s5 rfl rfl (by simp [eval_put, eval_const', size_put, hsz, h17, h21, h22]) Try.underlying57 E5.out rfl) (Below.refl _ _).drew ?_
                  refine wpAnyE_takeD (i := 23) (d := 270) (oi := _) (v := .slice (some ⟨g17, 0, none⟩) 8 c17) rfl (by as_aux_lemma => kernel_rfl) (by as_aux_lemma => kernel_rfl) (by as_aux_lemma => kernel_rfl) (by as_aux_lemma => kernel_rfl) (by decide) (by as_aux_lemma => kernel_rfl) rfl (fun _ _ _ h => h) (yieldsMove (.tmp 17) rfl rfl (by simp [eval_put, eval_const', size_put, hsz, h17, h21, h22])) (Below.refl _ _).drew ?_
                  refine wpAnyE_takeD (i := 24) (d := 271) (oi := _) (v := .pointer (some ⟨g17, 0 + 6, none⟩)) rfl (by as_aux_lemma => kernel_rfl) (by as_aux_lemma => kernel_rfl) (by as_aux_lemma => kernel_rfl) (by as_aux_lemma => kernel_rfl) (by decide) (by as_aux_lemma => kernel_rfl) rfl (fun _ _ _ h => h) (yieldsIdx 66 57 (.tmp 270) (.const (.int .i64 6)) g17 0 8 c17 6 rfl rfl (by simp [eval_put, eval_const', size_put, hsz, h17, h21, h22]) (by simp [eval_put, eval_const', size_put, hsz, h17, h21, h22]) (by omega) Try.underlying66 Try.sizeOf57 rfl) (Below.refl _ _).drew ?_
                  refine wpAnyE_takeD (i := 25) (d := 272) (oi := _) (v := .int .u32 s6) rfl (by as_aux_lemma => kernel_rfl) (by as_aux_lemma => kernel_rfl) (by as_aux_lemma => kernel_rfl) (by as_aux_lemma => kernel_rfl) (by decide) (by as_aux_lemma => kernel_rfl) rfl (fun _ _ _ h => h) (yieldsLoad 57 .u32 (.tmp 271) g17 (0 + 6) s6 rfl rfl (by simp [eval_put, eval_const', size_put, hsz, h17, h21, h22]) Try.underlying57 E6.out rfl) (Below.refl _ _).drew ?_
                  subst hA
                  simp only [put_lit, List.set_cons_zero, List.set_cons_succ]
                  refine wpAnyE_one (i := 26) (o := _) (by as_aux_lemma => kernel_rfl) rfl (fun K hK => ?_)
                  go_simp
                  refine hK _ _ (fun _ => (Below.refl _ _).drew.alloc (by simp) _) ?_
                  clear hK K
                  refine wpAnyE_one (i := 27) (o := _) (by as_aux_lemma => kernel_rfl) rfl (fun K hK => ?_)
                  go_simp
                  refine hK _ _ (fun h => by cases h) ?_
                  clear hK K
                  refine wpAnyE_done (by as_aux_lemma => kernel_rfl) (NoPanic.normal ?_) _
                  clear E0 E1 E2 E3 E4 E5 E6 hsz h17 h21 h22
                  go_wp2
                  refine ⟨⟨q + 1, wG.heap.size, 8, by omega, rfl, by go_num, EG.out.below.size, ?_⟩, by simp [intOf]; omega⟩
                  rw [HNX.out]
                  refine ⟨fun i hi => ?_, by simp, (EG.out.below.alloc EG.out.below.size _).drew⟩
                  have hi' : i = 0 ∨ i = 1 ∨ i = 2 ∨ i = 3 ∨ i = 4 ∨ i = 5 ∨ i = 6 ∨ i = 7 := by omega
                  refine (cell_of_row (wG.alloc (.cells _ _)).drew wG.heap.size i _ _ _ (heap_alloc_new wG _)).trans ?_
                  rcases hi' with rfl | rfl | rfl | rfl | rfl | rfl | rfl | rfl <;> rfl
                · have hq7 : q = 64 := by omega
                  have hf7 : decide ((q : Int) < 64) = false := by simp; omega
                  obtain ⟨M, hM⟩ : ∃ M, M = Sha.mixed hs wl Sha.rounds 64 := ⟨_, rfl⟩
                  have X1 : Eight wE wr g17 M := by rw [hM, ← hq7]; exact X0
                  have HM8 : Hid (M.length = 8) := Lib.hid (by rw [hM]; exact Sha.mixed_length hs wl Sha.rounds hs8 64)
                  rw [← hM] at HHS
                  have G0 : RefRel 25 57 w g4 g5 g7 (Sha.text xs) wr (Sha.adds hs M 0) := R4.out.past X1.below
                  have hg174 : g4 ≠ g17 := fun e => by have := R4.out.hi4; omega
                  have L0 : Hid (RefRel 25 57 w g4 g5 g7 (Sha.text xs) wr (Sha.adds hs M 0) ∧ (∀ i, i < 8 → wr.cell? ⟨g17, i, none⟩ = some (.int .u32 (M.getD i 0))) ∧ g17 < wr.heap.size) := Lib.hid ⟨G0, X1.cell, X1.lt⟩
                  clear X0 X1 hM G0 HR11 R4 HT
                  go_wp2
                  go_loopw [276] (fun i wr => ∃ q : Nat, q ≤ 8 ∧ i = .int .i64 q ∧ RefRel 25 57 w g4 g5 g7 (Sha.text xs) wr (Sha.adds hs M q) ∧ (∀ i, i < 8 → wr.cell? ⟨g17, i, none⟩ = some (.int .u32 (M.getD i 0))) ∧ g17 < wr.heap.size) (fun i _ => 8 - (intOf i).toNat)
                  case atStart => exact ⟨0, by omega, rfl, L0.out⟩
                  case round =>
                    clear L0 hf7 hlt3 hq7
                    obtain ⟨q, hq, rfl, G1, hc17, hlt17⟩ := hrel
                    by_cases hlt8 : q < 8
                    · have hal : (Sha.adds hs M q).length = 8 := by rw [Sha.adds_length]; exact hs8
                      obtain ⟨x0, hx0⟩ : ∃ x, x = (Sha.adds hs M q).getD q 0 := ⟨_, rfl⟩
                      obtain ⟨x1, hx1⟩ : ∃ x, x = M.getD q 0 := ⟨_, rfl⟩
                      have HNX : Hid (Sha.adds hs M (q + 1) = (Sha.adds hs M q).set q ((x0 + x1) % 4294967296)) := Lib.hid (by
                        show (Sha.adds hs M q).set q ((hs.getD q 0 + M.getD q 0) % 4294967296) = _
                        rw [hx0, hx1, Sha.adds_getD hs M q q (Nat.le_refl q)])
                      have c0 : wr.cell? ⟨g4, q, none⟩ = some (.int .u32 x0) := by rw [hx0]; exact G1.cell4 q hlt8
                      have f0 : wr.frozen? ⟨g4, q, none⟩ = false := G1.free4 q
                      have c17' := hc17 q hlt8
                      rw [← hx1] at c17'
                      have E0 : Hid (∀ W, Below wr.heap.size wr W → W.cell? ⟨g4, 0 + q, none⟩ = some (.int .u32 x0)) := Lib.hid fun W hW => by rw [Nat.zero_add]; exact (hW.cell (p := ⟨g4, q, none⟩) G1.hi4).trans c0
                      have E1 : Hid (∀ W, Below wr.heap.size wr W → W.cell? ⟨g17, 0 + q, none⟩ = some (.int .u32 x1)) := Lib.hid fun W hW => by rw [Nat.zero_add]; exact (hW.cell (p := ⟨g17, q, none⟩) hlt17).trans c17'
                      have HAL := Lib.hid hal
                      have G2 := Lib.hid G1
                      have HC17 := Lib.hid hc17
                      clear hx0 hx1 c17' G1 hc17 hal
                      go_wp2
                      refine frame_letter (fun A => A.tmps.size = 312 ∧ A.eval (.tmp 4) = .slice (some ⟨g4, 0, none⟩) 8 c4 ∧ A.eval (.tmp 17) = .slice (some ⟨g17, 0, none⟩) 8 c17 ∧ A.eval (.tmp 23) = .int .i64 (q : Int)) ⟨by rfl, rfl, rfl, rfl⟩ (fun A hC hA => ?_)
                      obtain ⟨hsz, h4, h17, h23⟩ := hC
                      refine wp_region_noPanic ?_
                      refine wp_region_E 12 (Below wr.heap.size wr) (by as_aux_lemma => kernel_rfl) ?_
                      refine wpAnyE_takeD (i := 0) (d := 279) (oi := _) (v := .slice (some ⟨g4, 0, none⟩) 8 c4) rfl (by as_aux_lemma => kernel_rfl) (by as_aux_lemma => kernel_rfl) (by as_aux_lemma => kernel_rfl) (by as_aux_lemma => kernel_rfl) (by decide) (by as_aux_lemma => kernel_rfl) rfl (fun _ _ _ h => h) (yieldsMove (.tmp 4) rfl rfl (by simp [eval_put, eval_const', size_put, hsz, h4, h17, h23])) (Below.refl _ _).drew ?_
                      refine wpAnyE_takeD (i := 1) (d := 280) (oi := _) (v := .int .i64 (q : Int)) rfl (by as_aux_lemma => kernel_rfl) (by as_aux_lemma => kernel_rfl) (by as_aux_lemma => kernel_rfl) (by as_aux_lemma => kernel_rfl) (by decide) (by as_aux_lemma => kernel_rfl) rfl (fun _ _ _ h => h) (yieldsMove (.tmp 23) rfl rfl (by simp [eval_put, eval_const', size_put, hsz, h4, h17, h23])) (Below.refl _ _).drew ?_
                      refine wpAnyE_takeD (i := 2) (d := 281) (oi := _) (v := .slice (some ⟨g4, 0, none⟩) 8 c4) rfl (by as_aux_lemma => kernel_rfl) (by as_aux_lemma => kernel_rfl) (by as_aux_lemma => kernel_rfl) (by as_aux_lemma => kernel_rfl) (by decide) (by as_aux_lemma => kernel_rfl) rfl (fun _ _ _ h => h) (yieldsMove (.tmp 4) rfl rfl (by simp [eval_put, eval_const', size_put, hsz, h4, h17, h23])) (Below.refl _ _).drew ?_
                      refine wpAnyE_takeD (i := 3) (d := 282) (oi := _) (v := .int .i64 (q : Int)) rfl (by as_aux_lemma => kernel_rfl) (by as_aux_lemma => kernel_rfl) (by as_aux_lemma => kernel_rfl) (by as_aux_lemma => kernel_rfl) (by decide) (by as_aux_lemma => kernel_rfl) rfl (fun _ _ _ h => h) (yieldsMove (.tmp 23) rfl rfl (by simp [eval_put, eval_const', size_put, hsz, h4, h17, h23])) (Below.refl _ _).drew ?_
                      refine wpAnyE_takeD (i := 4) (d := 283) (oi := _) (v := .pointer (some ⟨g4, 0 + q, none⟩)) rfl (by as_aux_lemma => kernel_rfl) (by as_aux_lemma => kernel_rfl) (by as_aux_lemma => kernel_rfl) (by as_aux_lemma => kernel_rfl) (by decide) (by as_aux_lemma => kernel_rfl) rfl (fun _ _ _ h => h) (yieldsIdx 66 57 (.tmp 281) (.tmp 282) g4 0 8 c4 q rfl rfl (by simp [eval_put, eval_const', size_put, hsz, h4, h17, h23]) (by simp [eval_put, eval_const', size_put, hsz, h4, h17, h23]) (by omega) Try.underlying66 Try.sizeOf57 rfl) (Below.refl _ _).drew ?_
                      refine wpAnyE_takeD (i := 5) (d := 284) (oi := _) (v := .int .u32 x0) rfl (by as_aux_lemma => kernel_rfl) (by as_aux_lemma => kernel_rfl) (by as_aux_lemma => kernel_rfl) (by as_aux_lemma => kernel_rfl) (by decide) (by as_aux_lemma => kernel_rfl) rfl (fun _ _ _ h => h) (yieldsLoad 57 .u32 (.tmp 283) g4 (0 + q) x0 rfl rfl (by simp [eval_put, eval_const', size_put, hsz, h4, h17, h23]) Try.underlying57 E0.out rfl) (Below.refl _ _).drew ?_
                      refine wpAnyE_takeD (i := 6) (d := 285) (oi := _) (v := .slice (some ⟨g17, 0, none⟩) 8 c17) rfl (by as_aux_lemma => kernel_rfl) (by as_aux_lemma => kernel_rfl) (by as_aux_lemma => kernel_rfl) (by as_aux_lemma => kernel_rfl) (by decide) (by as_aux_lemma => kernel_rfl) rfl (fun _ _ _ h => h) (yieldsMove (.tmp 17) rfl rfl (by simp [eval_put, eval_const', size_put, hsz, h4, h17, h23])) (Below.refl _ _).drew ?_
                      refine wpAnyE_takeD (i := 7) (d := 286) (oi := _) (v := .int .i64 (q : Int)) rfl (by as_aux_lemma => kernel_rfl) (by as_aux_lemma => kernel_rfl) (by as_aux_lemma => kernel_rfl) (by as_aux_lemma => kernel_rfl) (by decide) (by as_aux_lemma => kernel_rfl) rfl (fun _ _ _ h => h) (yieldsMove (.tmp 23) rfl rfl (by simp [eval_put, eval_const', size_put, hsz, h4, h17, h23])) (Below.refl _ _).drew ?_
                      refine wpAnyE_takeD (i := 8) (d := 287) (oi := _) (v := .pointer (some ⟨g17, 0 + q, none⟩)) rfl (by as_aux_lemma => kernel_rfl) (by as_aux_lemma => kernel_rfl) (by as_aux_lemma => kernel_rfl) (by as_aux_lemma => kernel_rfl) (by decide) (by as_aux_lemma => kernel_rfl) rfl (fun _ _ _ h => h) (yieldsIdx 66 57 (.tmp 285) (.tmp 286) g17 0 8 c17 q rfl rfl (by simp [eval_put, eval_const', size_put, hsz, h4, h17, h23]) (by simp [eval_put, eval_const', size_put, hsz, h4, h17, h23]) (by omega) Try.underlying66 Try.sizeOf57 rfl) (Below.refl _ _).drew ?_
                      refine wpAnyE_takeD (i := 9) (d := 288) (oi := _) (v := .int .u32 x1) rfl (by as_aux_lemma => kernel_rfl) (by as_aux_lemma => kernel_rfl) (by as_aux_lemma => kernel_rfl) (by as_aux_lemma => kernel_rfl) (by decide) (by as_aux_lemma => kernel_rfl) rfl (fun _ _ _ h => h) (yieldsLoad 57 .u32 (.tmp 287) g17 (0 + q) x1 rfl rfl (by simp [eval_put, eval_const', size_put, hsz, h4, h17, h23]) Try.underlying57 E1.out rfl) (Below.refl _ _).drew ?_
                      refine wpAnyE_takeD (i := 10) (d := 289) (oi := _) (v := .int .u32 ((x0 + x1) % 4294967296)) rfl (by as_aux_lemma => kernel_rfl) (by as_aux_lemma => kernel_rfl) (by as_aux_lemma => kernel_rfl) (by as_aux_lemma => kernel_rfl) (by decide) (by as_aux_lemma => kernel_rfl) rfl (fun _ _ _ h => h) (yieldsBin .add 57 57 (.tmp 284) (.tmp 288) (.int .u32 (x0)) (.int .u32 (x1)) rfl rfl (by simp [eval_put, eval_const', size_put, hsz, h4, h17, h23]) (by simp [eval_put, eval_const', size_put, hsz, h4, h17, h23]) (guardInt _ _ _ _ _ _ _) (run_add32 _ _ _)) (Below.refl _ _).drew ?_
                      refine wpAnyE_takeD (i := 11) (d := 290) (oi := _) (v := .pointer (some ⟨g4, 0 + q, none⟩)) rfl (by as_aux_lemma => kernel_rfl) (by as_aux_lemma => kernel_rfl) (by as_aux_lemma => kernel_rfl) (by as_aux_lemma => kernel_rfl) (by decide) (by as_aux_lemma => kernel_rfl) rfl (fun _ _ _ h => h) (yieldsIdx 66 57 (.tmp 279) (.tmp 280) g4 0 8 c4 q rfl rfl (by simp [eval_put, eval_const', size_put, hsz, h4, h17, h23]) (by simp [eval_put, eval_const', size_put, hsz, h4, h17, h23]) (by omega) Try.underlying66 Try.sizeOf57 rfl) (Below.refl _ _).drew ?_
                      subst hA
                      simp only [put_lit, List.set_cons_zero, List.set_cons_succ]
                      have hz0 : (0 + q) = q := Nat.zero_add q
                      rw [hz0]
                      refine wpAnyE_one (i := 12) (o := _) (by as_aux_lemma => kernel_rfl) rfl (fun K hK => ?_)
                      go_simp
                      refine hK _ _ (fun h => by cases h) ?_
                      clear hK K
                      refine wpAnyE_done (by as_aux_lemma => kernel_rfl) (NoPanic.normal ?_) _
                      clear E0 E1 hsz h4 h17 h23
                      go_wp2
                      refine ⟨⟨q + 1, by omega, by go_num, ?_, fun i hi => ?_, by simpa using hlt17⟩, by simp [intOf]; omega⟩
                      · rw [HNX.out]
                        exact (G2.out.set q (by rw [HAL.out]; omega) _).past (Below.refl _ _).drew
                      · exact (World.cell?_of_block (w := wr) (heap_setCell_other _ _ _ _ (by exact fun e => hg174 e.symm))).trans (HC17.out i hi)
                    · have hq8 : q = 8 := by omega
                      have hf8 : decide ((q : Int) < 8) = false := by simp; omega
                      have G2 : Hid (RefRel 25 57 w g4 g5 g7 (Sha.text xs) wr (Sha.hashes (Sha.text xs) (m + 1))) := Lib.hid (by
                        rw [HHS.out, add_turned, ← Sha.adds_eight hs M hs8, ← hq8]
                        exact G1)
                      clear G1 hc17 hq8
                      have m0 : IntKind.i64.wrap (64 * (m : Int) + 64) = 64 * (m : Int) + 64 := IntWalk.i64_in _ (by omega)
                      go_wp2
                      exact ⟨⟨m + 1, by omega, by go_num, G2.out⟩, by simp [intOf]; omega⟩
    · have hmN : 64 * m = N := by omega
      have hf4 : decide (64 * (m : Int) < (N : Int)) = false := by simp; omega
      have HD2 : Hid (D = Sha.outs (Sha.hashes (Sha.text xs) m) 32) := Lib.hid (by
        rw [HD.out]
        unfold Sha.of
        rw [HTN.out, show N / 64 = m by omega])
      have h8 := Sha.hashes_length (Sha.text xs) m
      have hsb := Sha.hashes_bound (Sha.text xs) m
      generalize Sha.hashes (Sha.text xs) m = hs at R1 HD2 h8 hsb
      have hd2 := HD2.out
      go_upto_region 48 with (fail)
      rename_i K2 hK2
      exact ref_tail R1 h8 hsb hd2 K2 hK2
end Go.Proofs.Ytbdnhoddkdiogaa
