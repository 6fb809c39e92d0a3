import Derived.Test.YtahpggnkifkkpaaSlabActsB
namespace Go.Proofs.Ytahpggnkifkkpaa
set_option linter.unusedVariables false
set_option linter.unusedSimpArgs false
open Go.RowKit Go.Shelf
set_option maxRecDepth 100000 in
set_option maxHeartbeats 8000000 in
theorem acts_kind3 {w w3 : World} {sb vb bb n k : Nat} {s : SlabS} {rs : List (Nat × Req)} {g gr gV gL gQ : List Blk} {al : Option Addr} {cl' : Nat} {an ev old : Int} {u1 u2 u3 u4 u5 u6 u7 u8 u10 u13 u15 u16 u17 u18 u19 u20 u21 u22 u23 u24 u25 u26 u27 u28 u29 u30 u31 u32 u33 u34 u35 u36 u37 u38 u39 u40 u41 u42 u43 u44 u45 u46 u47 u48 u49 u50 u51 u52 u53 u54 u55 u56 u57 u58 u59 u60 u61 u62 u63 u64 u65 u66 u67 u68 u69 u70 u71 u72 u73 u74 u75 u76 u77 u78 u79 u80 u81 u82 u83 u84 u85 u86 u87 u88 u89 u90 u91 u92 u93 u94 u95 u96 u97 u98 u99 u100 u101 u102 u103 u104 u105 u106 u107 u108 u109 u110 u111 u112 u113 u114 u115 u116 u117 u118 u119 u120 u121 u122 u123 u124 u125 u126 u127 u128 u129 u130 u131 u132 u133 u134 u135 u136 u137 u138 u139 u140 u141 u142 u143 u144 u145 u146 u147 u148 u149 u150 u151 u152 u153 u154 u155 u156 u157 u158 u159 u160 u161 u162 u163 u164 u165 u166 u167 u168 u169 u170 u171 u172 u173 u174 u175 u176 u177 u178 u179 u180 u181 u182 u183 u184 u185 u186 u187 u188 u189 u190 u191 u192 u193 u194 u195 u196 u197 u198 u199 u200 u201 u202 u203 u204 u205 u206 u207 u208 u209 u210 u211 u212 u213 u214 u215 u216 u217 u218 u219 u220 u221 u222 u223 u224 u225 u226 u227 u228 u229 u230 u231 u232 u233 u234 u235 u236 u237 u238 u239 u240 : Value} {K : Act → World → Prop} {Q' : Exit → Act → World → Prop}
    (hs : SlabOk s) (hsn : s.recs.length = n) (hq : ∀ p ∈ rs, ReqOk n p.2 ∧ (p.2.st = 0 ∨ p.2.st = 1 ∨ p.2.st = 2)) (hrl : rs.length ≤ k) (hlt : k < 200) (hg : isSlab sb s g) (hV : RefS vb s (rs.map Prod.snd) gV gL gQ)
    (rr : rowG 30 1 (.slice al rs.length cl') rs.length (rs.map fun p => ptr p.1) gr) (hold : 0 ≤ old ∧ old < 18446744073709551616) (n1' : 1 ≤ n) (n2' : n ≤ 64)
    (T : TG [] w [g, gr, gV, gL, gQ, famB (reqF' sb) rs, [cl bb 57 (ActS.cells ⟨3, an, ev, old⟩)]] w3)
    (hK : ∀ (l : Value) (w' : World) (v8 v15 v16 v17 v18 v19 v20 v21 v22 v23 v24 v25 v66 v67 v68 v69 v70 v71 v72 v73 v74 v75 v76 v77 v78 v79 v80 v81 v82 v83 v84 v85 v86 v87 v88 v89 v90 v91 v92 v93 v94 v95 v96 v97 v98 v99 v100 v101 v102 v103 v104 v105 v106 v107 v108 v109 v110 v111 v112 v113 v114 v115 v116 v117 v118 v119 v120 v121 v122 v123 v124 v125 v126 v127 v128 v129 v130 v131 v132 v133 v134 v135 v136 v137 v138 v139 v140 v141 v142 v143 v144 v145 v146 v147 v148 v149 v150 v151 v152 v153 v154 v155 v156 v157 v158 v159 v160 v161 v162 v163 v164 v165 v166 v167 v168 v169 v170 v171 v172 v173 v174 v175 v176 v177 v178 v179 v180 v181 v182 v183 v184 v185 v186 v187 v188 v189 v190 v191 v192 v193 v194 v195 v196 v197 v198 v199 v200 v201 v202 v203 v204 v205 v206 v207 v208 v209 v210 v211 v212 v213 v214 v215 v216 v217 v218 v219 v220 v221 v222 v223 v224 v225 v226 v227 v228 v229 : Value), SSt w sb vb n (k + 1) l w' → K { tmps := #[.int .i64 n, u1, u2, u3, u4, u5, u6, u7, v8, ptr sb, u10, ptr vb, l, u13, .pointer (some ⟨bb, 0, none⟩), v15, v16, v17, v18, v19, v20, v21, v22, v23, v24, v25, u26, u27, u28, u29, u30, u31, u32, u33, u34, u35, u36, u37, u38, u39, u40, u41, u42, u43, u44, u45, u46, u47, u48, u49, u50, u51, u52, u53, u54, u55, u56, u57, u58, u59, u60, u61, u62, u63, u64, u65, v66, v67, v68, v69, v70, v71, v72, v73, v74, v75, v76, v77, v78, v79, v80, v81, v82, v83, v84, v85, v86, v87, v88, v89, v90, v91, v92, v93, v94, v95, v96, v97, v98, v99, v100, v101, v102, v103, v104, v105, v106, v107, v108, v109, v110, v111, v112, v113, v114, v115, v116, v117, v118, v119, v120, v121, v122, v123, v124, v125, v126, v127, v128, v129, v130, v131, v132, v133, v134, v135, v136, v137, v138, v139, v140, v141, v142, v143, v144, v145, v146, v147, v148, v149, v150, v151, v152, v153, v154, v155, v156, v157, v158, v159, v160, v161, v162, v163, v164, v165, v166, v167, v168, v169, v170, v171, v172, v173, v174, v175, v176, v177, v178, v179, v180, v181, v182, v183, v184, v185, v186, v187, v188, v189, v190, v191, v192, v193, v194, v195, v196, v197, v198, v199, v200, v201, v202, v203, v204, v205, v206, v207, v208, v209, v210, v211, v212, v213, v214, v215, v216, v217, v218, v219, v220, v221, v222, v223, v224, v225, v226, v227, v228, v229, u230, u231, u232, u233, u234, u235, u236, u237, u238, u239, u240], defers := [] } w') :
    (blockOf 2 Try.f7).wp Try.prog (Exit.then K Q') { tmps := #[.int .i64 n, u1, u2, u3, u4, u5, u6, u7, u8, ptr sb, u10, ptr vb, .slice al rs.length cl', u13, .pointer (some ⟨bb, 0, none⟩), u15, u16, u17, u18, u19, u20, u21, u22, u23, u24, u25, u26, u27, u28, u29, u30, u31, u32, u33, u34, u35, u36, u37, u38, u39, u40, u41, u42, u43, u44, u45, u46, u47, u48, u49, u50, u51, u52, u53, u54, u55, u56, u57, u58, u59, u60, u61, u62, u63, u64, u65, u66, u67, u68, u69, u70, u71, u72, u73, u74, u75, u76, u77, u78, u79, u80, u81, u82, u83, u84, u85, u86, u87, u88, u89, u90, u91, u92, u93, u94, u95, u96, u97, u98, u99, u100, u101, u102, u103, u104, u105, u106, u107, u108, u109, u110, u111, u112, u113, u114, u115, u116, u117, u118, u119, u120, u121, u122, u123, u124, u125, u126, u127, u128, u129, u130, u131, u132, u133, u134, u135, u136, u137, u138, u139, u140, u141, u142, u143, u144, u145, u146, u147, u148, u149, u150, u151, u152, u153, u154, u155, u156, u157, u158, u159, u160, u161, u162, u163, u164, u165, u166, u167, u168, u169, u170, u171, u172, u173, u174, u175, u176, u177, u178, u179, u180, u181, u182, u183, u184, u185, u186, u187, u188, u189, u190, u191, u192, u193, u194, u195, u196, u197, u198, u199, u200, u201, u202, u203, u204, u205, u206, u207, u208, u209, u210, u211, u212, u213, u214, u215, u216, u217, u218, u219, u220, u221, u222, u223, u224, u225, u226, u227, u228, u229, u230, u231, u232, u233, u234, u235, u236, u237, u238, u239, u240], defers := [] } w3 := by
  refine wp_blockOf (by rfl) ?_
  have HS := Lib.hid hs
  have HSN := Lib.hid hsn
  have HQ := Lib.hid hq
  have HG := Lib.hid hg
  have HV := Lib.hid hV
  have RR := Lib.hid rr
  have HO := Lib.hid hold
  have HT := Lib.hid T
  have hn64 : s.recs.length ≤ 64 := HS.out.n1
  have HK := Lib.hid hK
  clear T hs hsn hq hg hV rr hold hK
  have b0 := HT.out.cell 6 0 rfl
  by_cases d : 0 < s.count
  · have HE := Lib.hid (show s.drop = ({ s with count := s.count - 1 }, 0) from if_pos d)
    have hok1 := drop_ok HS.out
    rw [HE.out] at hok1
    have HOK := Lib.hid hok1
    have hc0 := HS.out.c0
    have hc1 : s.count ≤ 64 := by have := HS.out.c1; omega
    clear hok1
    go_wp2_with fail
    refine (DoesG.use (slabDrop_c HE.out HG.out hc0 hc1) (HT.out) [0] rfl rfl).mono ?_
    rintro e w1 ⟨gs, ⟨rfl, g1, hg1, rfl⟩, Ta⟩
    simp only [putG, List.set_cons_zero, List.set_cons_succ, List.cons_append, List.nil_append, List.append_nil] at Ta
    have HT := Lib.hid Ta
    clear Ta
    go_wp2_with fail
    refine (DoesG.use (refDrop_c (b := true) HE.out rfl HV.out hc0 hc1) (HT.out) [2] rfl rfl).mono ?_
    rintro e w1 ⟨gs, ⟨rfl, gV1, hV1, rfl⟩, Ta⟩
    simp only [putG, List.set_cons_zero, List.set_cons_succ, List.cons_append, List.nil_append, List.append_nil] at Ta
    have HT := Lib.hid Ta
    clear Ta
    have HV1 := Lib.hid hV1
    have HG1 := Lib.hid hg1
    clear hV1 hg1
    go_wp2_with fail
    refine HK.out _ _ _ _ _ _ _ _ _ _ _ _ _ _ _ _ _ _ _ _ _ _ _ _ _ _ _ _ _ _ _ _ _ _ _ _ _ _ _ _ _ _ _ _ _ _ _ _ _ _ _ _ _ _ _ _ _ _ _ _ _ _ _ _ _ _ _ _ _ _ _ _ _ _ _ _ _ _ _ _ _ _ _ _ _ _ _ _ _ _ _ _ _ _ _ _ _ _ _ _ _ _ _ _ _ _ _ _ _ _ _ _ _ _ _ _ _ _ _ _ _ _ _ _ _ _ _ _ _ _ _ _ _ _ _ _ _ _ _ _ _ _ _ _ _ _ _ _ _ _ _ _ _ _ _ _ _ _ _ _ _ _ _ _ _ _ _ _ _ _ _ _ _ _ _ _ _ _ ?_
    exact ⟨_, rs, g1, gr, gV1, gL, gQ, HOK.out.1, (by first | exact HOK.out.2.trans HSN.out | exact HSN.out), HQ.out, by omega, HG1.out, HV1.out, RR.out, HT.out.pick [0, 1, 2, 3, 4, 5] rfl⟩
  · have HE := Lib.hid (show s.drop = (s, 6) from if_neg d)
    have hok1 := drop_ok HS.out
    rw [HE.out] at hok1
    have HOK := Lib.hid hok1
    have hc0 := HS.out.c0
    have hc1 : s.count ≤ 64 := by have := HS.out.c1; omega
    clear hok1
    go_wp2_with fail
    refine (DoesG.use (slabDrop_c HE.out HG.out hc0 hc1) (HT.out) [0] rfl rfl).mono ?_
    rintro e w1 ⟨gs, ⟨rfl, g1, hg1, rfl⟩, Ta⟩
    simp only [putG, List.set_cons_zero, List.set_cons_succ, List.cons_append, List.nil_append, List.append_nil] at Ta
    have HT := Lib.hid Ta
    clear Ta
    go_wp2_with fail
    refine (DoesG.use (refDrop_c (b := false) HE.out rfl HV.out hc0 hc1) (HT.out) [2] rfl rfl).mono ?_
    rintro e w1 ⟨gs, ⟨rfl, gV1, hV1, rfl⟩, Ta⟩
    simp only [putG, List.set_cons_zero, List.set_cons_succ, List.cons_append, List.nil_append, List.append_nil] at Ta
    have HT := Lib.hid Ta
    clear Ta
    have HV1 := Lib.hid hV1
    have HG1 := Lib.hid hg1
    clear hV1 hg1
    go_wp2_with fail
    refine HK.out _ _ _ _ _ _ _ _ _ _ _ _ _ _ _ _ _ _ _ _ _ _ _ _ _ _ _ _ _ _ _ _ _ _ _ _ _ _ _ _ _ _ _ _ _ _ _ _ _ _ _ _ _ _ _ _ _ _ _ _ _ _ _ _ _ _ _ _ _ _ _ _ _ _ _ _ _ _ _ _ _ _ _ _ _ _ _ _ _ _ _ _ _ _ _ _ _ _ _ _ _ _ _ _ _ _ _ _ _ _ _ _ _ _ _ _ _ _ _ _ _ _ _ _ _ _ _ _ _ _ _ _ _ _ _ _ _ _ _ _ _ _ _ _ _ _ _ _ _ _ _ _ _ _ _ _ _ _ _ _ _ _ _ _ _ _ _ _ _ _ _ _ _ _ _ _ _ _ ?_
    exact ⟨_, rs, g1, gr, gV1, gL, gQ, HOK.out.1, (by first | exact HOK.out.2.trans HSN.out | exact HSN.out), HQ.out, by omega, HG1.out, HV1.out, RR.out, HT.out.pick [0, 1, 2, 3, 4, 5] rfl⟩
end Go.Proofs.Ytahpggnkifkkpaa
