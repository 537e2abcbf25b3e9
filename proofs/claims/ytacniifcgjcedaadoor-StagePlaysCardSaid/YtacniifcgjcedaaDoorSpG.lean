/-
  StagePlays, in plain words.
-/
import Derived.Test.YtacniifcgjcedaaDoorSpF
import Derived.Test.YtacniifcgjcedaaDoorAm17
set_option linter.unusedVariables false
set_option linter.unusedSimpArgs false
set_option linter.unusedSectionVars false
namespace Go.AM.Sp
open Go.Proofs

/-- What follows a call: all is compared. -/
noncomputable def tl (L k n : Nat) (st : St) (s1 : Option Addr) (s1n s1z s5 o5 s6 o6 : Nat) (s34 s35 : Int) : Res := AM.bnd (AM.evCall Proofs.Tryd.prog AM.Sp.env L k 8 [Value.pointer (some { block := s5, off := o5 })] st) fun v91 v92 => AM.asT v91 fun v93 => AM.uncons v93 fun v94 v95 => AM.asI IntKind.i64 v94 fun v96 => AM.uncons v95 fun v97 v98 => AM.asI IntKind.i64 v97 fun v99 => AM.endl v98 (AM.bnd (AM.evCall Proofs.Tryd.prog AM.Sp.env L k 9 [Value.pointer (some { block := s5, off := o5 })] v92) fun v100 v101 => AM.asT v100 fun v102 => AM.uncons v102 fun v103 v104 => AM.asI IntKind.i64 v103 fun v105 => AM.uncons v104 fun v106 v107 => AM.asI IntKind.i64 v106 fun v108 => AM.endl v107 (AM.St.ld v101 s6 (o6 + 0) fun v109 => AM.asI IntKind.i64 v109 fun v110 => AM.br (v105 != IntKind.wrap IntKind.i64 (v110 - (1 : Int))) (some (Value.bool false, v101)) (AM.St.ld v101 s6 (o6 + 2) fun v111 => AM.asI IntKind.i64 v111 fun v112 => AM.br (v108 != v112) (some (Value.bool false, v101)) (AM.bnd (AM.evCall Proofs.Tryd.prog AM.Sp.env L k 19 [Value.pointer (some { block := s6, off := o6 })] v101) fun v113 v114 => AM.asI IntKind.i64 v113 fun v115 => AM.br (v96 != v115) (some (Value.bool false, v114)) (AM.St.ld v114 s6 (o6 + 0) fun v116 => AM.asI IntKind.i64 v116 fun v117 => AM.St.ld v114 s6 (o6 + 1) fun v118 => AM.asI IntKind.i64 v118 fun v119 => AM.br (v99 != IntKind.wrap IntKind.i64 (IntKind.wrap IntKind.i64 (v117 + v119) - (1 : Int))) (some (Value.bool false, v114)) (AM.bnd (AM.evCall Proofs.Tryd.prog AM.Sp.env L k 12 [Value.pointer (some { block := s5, off := o5 })] v114) fun v120 v121 => AM.asSl v120 fun v122 v123 v124 => AM.bnd (AM.evCall Proofs.Tryd.prog AM.Sp.env L k 27 [Value.pointer (some { block := s6, off := o6 })] v121) fun v125 v126 => AM.asSl v125 fun v127 v128 v129 => AM.bnd (AM.evCall Proofs.Tryd.prog AM.Sp.env L k 26 [Value.slice v122 v123 v124, Value.slice v127 v128 v129] v126) fun v130 v131 => AM.asB v130 fun v132 => AM.br (!v132) (some (Value.bool false, v131)) (AM.lpAt Proofs.Tryd.prog AM.Sp.env L k 4 [true, true, true, true, false, true] [] n [(1, Value.slice s1 s1n s1z), (5, Value.pointer (some { block := s5, off := o5 })), (6, Value.pointer (some { block := s6, off := o6 })), (34, Value.int IntKind.i64 s34), (35, Value.int IntKind.i64 (IntKind.wrap IntKind.i64 (s35 + (1 : Int))))] v131)))))))
/-- What is done with a call of the script (it lies in the block t). -/
noncomputable def sw (L k n : Nat) (t : Nat) (st : St) (s1 : Option Addr) (s1n s1z s5 o5 s6 o6 : Nat) (s34 s35 : Int) : Res := AM.St.ld st t 0 fun v35 => AM.asI IntKind.i64 v35 fun v36 => AM.br (v36 == (1 : Int)) (AM.St.lds st t 2 5 fun v37 => AM.uncons v37 fun v38 v39 => AM.asI IntKind.i64 v38 fun v40 => AM.uncons v39 fun v41 v42 => AM.asI IntKind.i64 v41 fun v43 => AM.uncons v42 fun v44 v45 => AM.asI IntKind.i64 v44 fun v46 => AM.uncons v45 fun v47 v48 => AM.asS v47 fun v49 => AM.uncons v48 fun v50 v51 => AM.asI IntKind.i64 v50 fun v52 => AM.endl v51 (AM.bnd (AM.evCall Proofs.Tryd.prog AM.Sp.env L k 11 [Value.pointer (some { block := s5, off := o5 }), Value.agg #[Value.int IntKind.i64 v40, Value.int IntKind.i64 v43, Value.int IntKind.i64 v46, Value.string v49, Value.int IntKind.i64 v52]] st) fun v53 v54 => AM.asI IntKind.i64 v53 fun v55 => AM.St.lds v54 t 2 5 fun v56 => AM.uncons v56 fun v57 v58 => AM.asI IntKind.i64 v57 fun v59 => AM.uncons v58 fun v60 v61 => AM.asI IntKind.i64 v60 fun v62 => AM.uncons v61 fun v63 v64 => AM.asI IntKind.i64 v63 fun v65 => AM.uncons v64 fun v66 v67 => AM.asS v66 fun v68 => AM.uncons v67 fun v69 v70 => AM.asI IntKind.i64 v69 fun v71 => AM.endl v70 (AM.St.lds st t 2 5 fun v72 => AM.uncons v72 fun v73 v74 => AM.asI IntKind.i64 v73 fun v75 => AM.uncons v74 fun v76 v77 => AM.asI IntKind.i64 v76 fun v78 => AM.uncons v77 fun v79 v80 => AM.asI IntKind.i64 v79 fun v81 => AM.uncons v80 fun v82 v83 => AM.asS v82 fun v84 => AM.uncons v83 fun v85 v86 => AM.asI IntKind.i64 v85 fun v87 => AM.endl v86 (AM.chk (Value.agg #[Value.int IntKind.i64 v75, Value.int IntKind.i64 v78, Value.int IntKind.i64 v81, Value.string v84, Value.int IntKind.i64 v87]) (Value.agg #[Value.int IntKind.i64 v59, Value.int IntKind.i64 v62, Value.int IntKind.i64 v65, Value.string v68, Value.int IntKind.i64 v71]) (AM.bnd (AM.evCall Proofs.Tryd.prog AM.Sp.env L k 20 [Value.pointer (some { block := s6, off := o6 }), Value.agg #[Value.int IntKind.i64 v59, Value.int IntKind.i64 v62, Value.int IntKind.i64 v65, Value.string v68, Value.int IntKind.i64 v71]] v54) fun v88 v89 => AM.asI IntKind.i64 v88 fun v90 => AM.br (v55 != v90) (some (Value.bool false, v89)) (AM.bnd (AM.evCall Proofs.Tryd.prog AM.Sp.env L k 8 [Value.pointer (some { block := s5, off := o5 })] v89) fun v91 v92 => AM.asT v91 fun v93 => AM.uncons v93 fun v94 v95 => AM.asI IntKind.i64 v94 fun v96 => AM.uncons v95 fun v97 v98 => AM.asI IntKind.i64 v97 fun v99 => AM.endl v98 (AM.bnd (AM.evCall Proofs.Tryd.prog AM.Sp.env L k 9 [Value.pointer (some { block := s5, off := o5 })] v92) fun v100 v101 => AM.asT v100 fun v102 => AM.uncons v102 fun v103 v104 => AM.asI IntKind.i64 v103 fun v105 => AM.uncons v104 fun v106 v107 => AM.asI IntKind.i64 v106 fun v108 => AM.endl v107 (AM.St.ld v101 s6 (o6 + 0) fun v109 => AM.asI IntKind.i64 v109 fun v110 => AM.br (v105 != IntKind.wrap IntKind.i64 (v110 - (1 : Int))) (some (Value.bool false, v101)) (AM.St.ld v101 s6 (o6 + 2) fun v111 => AM.asI IntKind.i64 v111 fun v112 => AM.br (v108 != v112) (some (Value.bool false, v101)) (AM.bnd (AM.evCall Proofs.Tryd.prog AM.Sp.env L k 19 [Value.pointer (some { block := s6, off := o6 })] v101) fun v113 v114 => AM.asI IntKind.i64 v113 fun v115 => AM.br (v96 != v115) (some (Value.bool false, v114)) (AM.St.ld v114 s6 (o6 + 0) fun v116 => AM.asI IntKind.i64 v116 fun v117 => AM.St.ld v114 s6 (o6 + 1) fun v118 => AM.asI IntKind.i64 v118 fun v119 => AM.br (v99 != IntKind.wrap IntKind.i64 (IntKind.wrap IntKind.i64 (v117 + v119) - (1 : Int))) (some (Value.bool false, v114)) (AM.bnd (AM.evCall Proofs.Tryd.prog AM.Sp.env L k 12 [Value.pointer (some { block := s5, off := o5 })] v114) fun v120 v121 => AM.asSl v120 fun v122 v123 v124 => AM.bnd (AM.evCall Proofs.Tryd.prog AM.Sp.env L k 27 [Value.pointer (some { block := s6, off := o6 })] v121) fun v125 v126 => AM.asSl v125 fun v127 v128 v129 => AM.bnd (AM.evCall Proofs.Tryd.prog AM.Sp.env L k 26 [Value.slice v122 v123 v124, Value.slice v127 v128 v129] v126) fun v130 v131 => AM.asB v130 fun v132 => AM.br (!v132) (some (Value.bool false, v131)) (AM.lpAt Proofs.Tryd.prog AM.Sp.env L k 4 [true, true, true, true, false, true] [] n [(1, Value.slice s1 s1n s1z), (5, Value.pointer (some { block := s5, off := o5 })), (6, Value.pointer (some { block := s6, off := o6 })), (34, Value.int IntKind.i64 s34), (35, Value.int IntKind.i64 (IntKind.wrap IntKind.i64 (s35 + (1 : Int))))] v131))))))))))))) (AM.br (v36 == (2 : Int)) (AM.bnd (AM.evCall Proofs.Tryd.prog AM.Sp.env L k 6 [Value.pointer (some { block := s5, off := o5 })] st) fun v133 v134 => AM.asT v133 fun v135 => AM.endl v135 (AM.St.ld v134 s6 (o6 + 3) fun v136 => AM.asSl v136 fun v137 v138 v139 => AM.St.put v134 s6 (o6 + 1) [Value.int IntKind.i64 (↑v138 : Int)] fun v140 => AM.bnd (AM.evCall Proofs.Tryd.prog AM.Sp.env L k 8 [Value.pointer (some { block := s5, off := o5 })] v140) fun v141 v142 => AM.asT v141 fun v143 => AM.uncons v143 fun v144 v145 => AM.asI IntKind.i64 v144 fun v146 => AM.uncons v145 fun v147 v148 => AM.asI IntKind.i64 v147 fun v149 => AM.endl v148 (AM.bnd (AM.evCall Proofs.Tryd.prog AM.Sp.env L k 9 [Value.pointer (some { block := s5, off := o5 })] v142) fun v150 v151 => AM.asT v150 fun v152 => AM.uncons v152 fun v153 v154 => AM.asI IntKind.i64 v153 fun v155 => AM.uncons v154 fun v156 v157 => AM.asI IntKind.i64 v156 fun v158 => AM.endl v157 (AM.St.ld v151 s6 (o6 + 0) fun v159 => AM.asI IntKind.i64 v159 fun v160 => AM.br (v155 != IntKind.wrap IntKind.i64 (v160 - (1 : Int))) (some (Value.bool false, v151)) (AM.St.ld v151 s6 (o6 + 2) fun v161 => AM.asI IntKind.i64 v161 fun v162 => AM.br (v158 != v162) (some (Value.bool false, v151)) (AM.bnd (AM.evCall Proofs.Tryd.prog AM.Sp.env L k 19 [Value.pointer (some { block := s6, off := o6 })] v151) fun v163 v164 => AM.asI IntKind.i64 v163 fun v165 => AM.br (v146 != v165) (some (Value.bool false, v164)) (AM.St.ld v164 s6 (o6 + 0) fun v166 => AM.asI IntKind.i64 v166 fun v167 => AM.St.ld v164 s6 (o6 + 1) fun v168 => AM.asI IntKind.i64 v168 fun v169 => AM.br (v149 != IntKind.wrap IntKind.i64 (IntKind.wrap IntKind.i64 (v167 + v169) - (1 : Int))) (some (Value.bool false, v164)) (AM.bnd (AM.evCall Proofs.Tryd.prog AM.Sp.env L k 12 [Value.pointer (some { block := s5, off := o5 })] v164) fun v170 v171 => AM.asSl v170 fun v172 v173 v174 => AM.bnd (AM.evCall Proofs.Tryd.prog AM.Sp.env L k 27 [Value.pointer (some { block := s6, off := o6 })] v171) fun v175 v176 => AM.asSl v175 fun v177 v178 v179 => AM.bnd (AM.evCall Proofs.Tryd.prog AM.Sp.env L k 26 [Value.slice v172 v173 v174, Value.slice v177 v178 v179] v176) fun v180 v181 => AM.asB v180 fun v182 => AM.br (!v182) (some (Value.bool false, v181)) (AM.lpAt Proofs.Tryd.prog AM.Sp.env L k 4 [true, true, true, true, false, true] [] n [(1, Value.slice s1 s1n s1z), (5, Value.pointer (some { block := s5, off := o5 })), (6, Value.pointer (some { block := s6, off := o6 })), (34, Value.int IntKind.i64 s34), (35, Value.int IntKind.i64 (IntKind.wrap IntKind.i64 (s35 + (1 : Int))))] v181))))))))) (AM.br (v36 == (3 : Int)) (AM.St.ld st t 1 fun v183 => AM.asI IntKind.i64 v183 fun v184 => AM.bnd (AM.evCall Proofs.Tryd.prog AM.Sp.env L k 7 [Value.pointer (some { block := s5, off := o5 }), Value.int IntKind.i64 v184] st) fun v185 v186 => AM.asT v185 fun v187 => AM.endl v187 (AM.St.ld v186 t 1 fun v188 => AM.asI IntKind.i64 v188 fun v189 => AM.bnd (AM.evCall Proofs.Tryd.prog AM.Sp.env L k 21 [Value.pointer (some { block := s6, off := o6 }), Value.int IntKind.i64 v189] v186) fun v190 v191 => AM.asT v190 fun v192 => AM.endl v192 (AM.bnd (AM.evCall Proofs.Tryd.prog AM.Sp.env L k 8 [Value.pointer (some { block := s5, off := o5 })] v191) fun v193 v194 => AM.asT v193 fun v195 => AM.uncons v195 fun v196 v197 => AM.asI IntKind.i64 v196 fun v198 => AM.uncons v197 fun v199 v200 => AM.asI IntKind.i64 v199 fun v201 => AM.endl v200 (AM.bnd (AM.evCall Proofs.Tryd.prog AM.Sp.env L k 9 [Value.pointer (some { block := s5, off := o5 })] v194) fun v202 v203 => AM.asT v202 fun v204 => AM.uncons v204 fun v205 v206 => AM.asI IntKind.i64 v205 fun v207 => AM.uncons v206 fun v208 v209 => AM.asI IntKind.i64 v208 fun v210 => AM.endl v209 (AM.St.ld v203 s6 (o6 + 0) fun v211 => AM.asI IntKind.i64 v211 fun v212 => AM.br (v207 != IntKind.wrap IntKind.i64 (v212 - (1 : Int))) (some (Value.bool false, v203)) (AM.St.ld v203 s6 (o6 + 2) fun v213 => AM.asI IntKind.i64 v213 fun v214 => AM.br (v210 != v214) (some (Value.bool false, v203)) (AM.bnd (AM.evCall Proofs.Tryd.prog AM.Sp.env L k 19 [Value.pointer (some { block := s6, off := o6 })] v203) fun v215 v216 => AM.asI IntKind.i64 v215 fun v217 => AM.br (v198 != v217) (some (Value.bool false, v216)) (AM.St.ld v216 s6 (o6 + 0) fun v218 => AM.asI IntKind.i64 v218 fun v219 => AM.St.ld v216 s6 (o6 + 1) fun v220 => AM.asI IntKind.i64 v220 fun v221 => AM.br (v201 != IntKind.wrap IntKind.i64 (IntKind.wrap IntKind.i64 (v219 + v221) - (1 : Int))) (some (Value.bool false, v216)) (AM.bnd (AM.evCall Proofs.Tryd.prog AM.Sp.env L k 12 [Value.pointer (some { block := s5, off := o5 })] v216) fun v222 v223 => AM.asSl v222 fun v224 v225 v226 => AM.bnd (AM.evCall Proofs.Tryd.prog AM.Sp.env L k 27 [Value.pointer (some { block := s6, off := o6 })] v223) fun v227 v228 => AM.asSl v227 fun v229 v230 v231 => AM.bnd (AM.evCall Proofs.Tryd.prog AM.Sp.env L k 26 [Value.slice v224 v225 v226, Value.slice v229 v230 v231] v228) fun v232 v233 => AM.asB v232 fun v234 => AM.br (!v234) (some (Value.bool false, v233)) (AM.lpAt Proofs.Tryd.prog AM.Sp.env L k 4 [true, true, true, true, false, true] [] n [(1, Value.slice s1 s1n s1z), (5, Value.pointer (some { block := s5, off := o5 })), (6, Value.pointer (some { block := s6, off := o6 })), (34, Value.int IntKind.i64 s34), (35, Value.int IntKind.i64 (IntKind.wrap IntKind.i64 (s35 + (1 : Int))))] v233)))))))))) (AM.br (v36 == (4 : Int)) (AM.St.ld st t 1 fun v235 => AM.asI IntKind.i64 v235 fun v236 => AM.bnd (AM.evCall Proofs.Tryd.prog AM.Sp.env L k 10 [Value.pointer (some { block := s5, off := o5 }), Value.int IntKind.i64 v236] st) fun v237 v238 => AM.asT v237 fun v239 => AM.uncons v239 fun v240 v241 => AM.asSl v240 fun v242 v243 v244 => AM.uncons v241 fun v245 v246 => AM.asB v245 fun v247 => AM.endl v246 (AM.St.ld v238 t 1 fun v248 => AM.asI IntKind.i64 v248 fun v249 => AM.bnd (AM.evCall Proofs.Tryd.prog AM.Sp.env L k 22 [Value.pointer (some { block := s6, off := o6 }), Value.int IntKind.i64 v249] v238) fun v250 v251 => AM.asI IntKind.i64 v250 fun v252 => AM.br (!v247 == decide (v252 ≥ (0 : Int))) (some (Value.bool false, v251)) (AM.St.ld v251 s6 (o6 + 3) fun v253 => AM.asSl v253 fun v254 v255 v256 => AM.need (Nat.beq v256 0 || Nat.beq v256 5) (AM.need (AM.inRange (AM.mx v252 (0 : Int)) ((↑v255 : Int) + (1 : Int))) (AM.bnd (AM.evCall Proofs.Tryd.prog AM.Sp.env L k 23 [Value.slice v242 v243 v244, Value.slice (AM.subA v254 0) (Int.toNat (AM.mx v252 (0 : Int)) - 0) v256] v251) fun v257 v258 => AM.asB v257 fun v259 => AM.br (!v259) (some (Value.bool false, v258)) (AM.bnd (AM.evCall Proofs.Tryd.prog AM.Sp.env L k 8 [Value.pointer (some { block := s5, off := o5 })] v258) fun v260 v261 => AM.asT v260 fun v262 => AM.uncons v262 fun v263 v264 => AM.asI IntKind.i64 v263 fun v265 => AM.uncons v264 fun v266 v267 => AM.asI IntKind.i64 v266 fun v268 => AM.endl v267 (AM.bnd (AM.evCall Proofs.Tryd.prog AM.Sp.env L k 9 [Value.pointer (some { block := s5, off := o5 })] v261) fun v269 v270 => AM.asT v269 fun v271 => AM.uncons v271 fun v272 v273 => AM.asI IntKind.i64 v272 fun v274 => AM.uncons v273 fun v275 v276 => AM.asI IntKind.i64 v275 fun v277 => AM.endl v276 (AM.St.ld v270 s6 (o6 + 0) fun v278 => AM.asI IntKind.i64 v278 fun v279 => AM.br (v274 != IntKind.wrap IntKind.i64 (v279 - (1 : Int))) (some (Value.bool false, v270)) (AM.St.ld v270 s6 (o6 + 2) fun v280 => AM.asI IntKind.i64 v280 fun v281 => AM.br (v277 != v281) (some (Value.bool false, v270)) (AM.bnd (AM.evCall Proofs.Tryd.prog AM.Sp.env L k 19 [Value.pointer (some { block := s6, off := o6 })] v270) fun v282 v283 => AM.asI IntKind.i64 v282 fun v284 => AM.br (v265 != v284) (some (Value.bool false, v283)) (AM.St.ld v283 s6 (o6 + 0) fun v285 => AM.asI IntKind.i64 v285 fun v286 => AM.St.ld v283 s6 (o6 + 1) fun v287 => AM.asI IntKind.i64 v287 fun v288 => AM.br (v268 != IntKind.wrap IntKind.i64 (IntKind.wrap IntKind.i64 (v286 + v288) - (1 : Int))) (some (Value.bool false, v283)) (AM.bnd (AM.evCall Proofs.Tryd.prog AM.Sp.env L k 12 [Value.pointer (some { block := s5, off := o5 })] v283) fun v289 v290 => AM.asSl v289 fun v291 v292 v293 => AM.bnd (AM.evCall Proofs.Tryd.prog AM.Sp.env L k 27 [Value.pointer (some { block := s6, off := o6 })] v290) fun v294 v295 => AM.asSl v294 fun v296 v297 v298 => AM.bnd (AM.evCall Proofs.Tryd.prog AM.Sp.env L k 26 [Value.slice v291 v292 v293, Value.slice v296 v297 v298] v295) fun v299 v300 => AM.asB v299 fun v301 => AM.br (!v301) (some (Value.bool false, v300)) (AM.lpAt Proofs.Tryd.prog AM.Sp.env L k 4 [true, true, true, true, false, true] [] n [(1, Value.slice s1 s1n s1z), (5, Value.pointer (some { block := s5, off := o5 })), (6, Value.pointer (some { block := s6, off := o6 })), (34, Value.int IntKind.i64 s34), (35, Value.int IntKind.i64 (IntKind.wrap IntKind.i64 (s35 + (1 : Int))))] v300))))))))))))) (AM.br (v36 == (5 : Int)) (AM.St.ld st t 1 fun v302 => AM.asI IntKind.i64 v302 fun v303 => AM.bnd (AM.evCall Proofs.Tryd.prog AM.Sp.env L k 14 [Value.pointer (some { block := s5, off := o5 }), Value.int IntKind.i64 v303] st) fun v304 v305 => AM.bnd (AM.evCall Proofs.Tryd.prog AM.Sp.env L k 24 [v304, Value.string { data := #[(115 : UInt8), (116 : UInt8), (97 : UInt8), (103 : UInt8), (101 : UInt8)] }] v305) fun v306 v307 => AM.asT v306 fun v308 => AM.uncons v308 fun v309 v310 => AM.asI IntKind.i64 v309 fun v311 => AM.uncons v310 fun v312 v313 => AM.asB v312 fun v314 => AM.endl v313 (AM.bnd (AM.evCall Proofs.Tryd.prog AM.Sp.env L k 13 [v304] v307) fun v315 v316 => AM.asI IntKind.i64 v315 fun v317 => AM.St.ld v316 t 1 fun v318 => AM.asI IntKind.i64 v318 fun v319 => AM.St.ld v307 t 1 fun v320 => AM.asI IntKind.i64 v320 fun v321 => AM.chk (Value.int IntKind.i64 v321) (Value.int IntKind.i64 v319) (AM.bnd (AM.evCall Proofs.Tryd.prog AM.Sp.env L k 25 [Value.pointer (some { block := s6, off := o6 }), Value.int IntKind.i64 v319] v316) fun v322 v323 => AM.asI IntKind.i64 v322 fun v324 => AM.br (v317 != v324) (some (Value.bool false, v323)) (AM.br v314 (AM.St.ld v323 t 1 fun v325 => AM.asI IntKind.i64 v325 fun v326 => AM.br (v311 != v326) (some (Value.bool false, v323)) (AM.eqNil v304 fun v327 => AM.br (!v314 == !v327) (some (Value.bool false, v323)) (AM.bnd (AM.evCall Proofs.Tryd.prog AM.Sp.env L k 8 [Value.pointer (some { block := s5, off := o5 })] v323) fun v328 v329 => AM.asT v328 fun v330 => AM.uncons v330 fun v331 v332 => AM.asI IntKind.i64 v331 fun v333 => AM.uncons v332 fun v334 v335 => AM.asI IntKind.i64 v334 fun v336 => AM.endl v335 (AM.bnd (AM.evCall Proofs.Tryd.prog AM.Sp.env L k 9 [Value.pointer (some { block := s5, off := o5 })] v329) fun v337 v338 => AM.asT v337 fun v339 => AM.uncons v339 fun v340 v341 => AM.asI IntKind.i64 v340 fun v342 => AM.uncons v341 fun v343 v344 => AM.asI IntKind.i64 v343 fun v345 => AM.endl v344 (AM.St.ld v338 s6 (o6 + 0) fun v346 => AM.asI IntKind.i64 v346 fun v347 => AM.br (v342 != IntKind.wrap IntKind.i64 (v347 - (1 : Int))) (some (Value.bool false, v338)) (AM.St.ld v338 s6 (o6 + 2) fun v348 => AM.asI IntKind.i64 v348 fun v349 => AM.br (v345 != v349) (some (Value.bool false, v338)) (AM.bnd (AM.evCall Proofs.Tryd.prog AM.Sp.env L k 19 [Value.pointer (some { block := s6, off := o6 })] v338) fun v350 v351 => AM.asI IntKind.i64 v350 fun v352 => AM.br (v333 != v352) (some (Value.bool false, v351)) (AM.St.ld v351 s6 (o6 + 0) fun v353 => AM.asI IntKind.i64 v353 fun v354 => AM.St.ld v351 s6 (o6 + 1) fun v355 => AM.asI IntKind.i64 v355 fun v356 => AM.br (v336 != IntKind.wrap IntKind.i64 (IntKind.wrap IntKind.i64 (v354 + v356) - (1 : Int))) (some (Value.bool false, v351)) (AM.bnd (AM.evCall Proofs.Tryd.prog AM.Sp.env L k 12 [Value.pointer (some { block := s5, off := o5 })] v351) fun v357 v358 => AM.asSl v357 fun v359 v360 v361 => AM.bnd (AM.evCall Proofs.Tryd.prog AM.Sp.env L k 27 [Value.pointer (some { block := s6, off := o6 })] v358) fun v362 v363 => AM.asSl v362 fun v364 v365 v366 => AM.bnd (AM.evCall Proofs.Tryd.prog AM.Sp.env L k 26 [Value.slice v359 v360 v361, Value.slice v364 v365 v366] v363) fun v367 v368 => AM.asB v367 fun v369 => AM.br (!v369) (some (Value.bool false, v368)) (AM.lpAt Proofs.Tryd.prog AM.Sp.env L k 4 [true, true, true, true, false, true] [] n [(1, Value.slice s1 s1n s1z), (5, Value.pointer (some { block := s5, off := o5 })), (6, Value.pointer (some { block := s6, off := o6 })), (34, Value.int IntKind.i64 s34), (35, Value.int IntKind.i64 (IntKind.wrap IntKind.i64 (s35 + (1 : Int))))] v368)))))))))) (AM.eqNil v304 fun v370 => AM.br (!v314 == !v370) (some (Value.bool false, v323)) (AM.bnd (AM.evCall Proofs.Tryd.prog AM.Sp.env L k 8 [Value.pointer (some { block := s5, off := o5 })] v323) fun v371 v372 => AM.asT v371 fun v373 => AM.uncons v373 fun v374 v375 => AM.asI IntKind.i64 v374 fun v376 => AM.uncons v375 fun v377 v378 => AM.asI IntKind.i64 v377 fun v379 => AM.endl v378 (AM.bnd (AM.evCall Proofs.Tryd.prog AM.Sp.env L k 9 [Value.pointer (some { block := s5, off := o5 })] v372) fun v380 v381 => AM.asT v380 fun v382 => AM.uncons v382 fun v383 v384 => AM.asI IntKind.i64 v383 fun v385 => AM.uncons v384 fun v386 v387 => AM.asI IntKind.i64 v386 fun v388 => AM.endl v387 (AM.St.ld v381 s6 (o6 + 0) fun v389 => AM.asI IntKind.i64 v389 fun v390 => AM.br (v385 != IntKind.wrap IntKind.i64 (v390 - (1 : Int))) (some (Value.bool false, v381)) (AM.St.ld v381 s6 (o6 + 2) fun v391 => AM.asI IntKind.i64 v391 fun v392 => AM.br (v388 != v392) (some (Value.bool false, v381)) (AM.bnd (AM.evCall Proofs.Tryd.prog AM.Sp.env L k 19 [Value.pointer (some { block := s6, off := o6 })] v381) fun v393 v394 => AM.asI IntKind.i64 v393 fun v395 => AM.br (v376 != v395) (some (Value.bool false, v394)) (AM.St.ld v394 s6 (o6 + 0) fun v396 => AM.asI IntKind.i64 v396 fun v397 => AM.St.ld v394 s6 (o6 + 1) fun v398 => AM.asI IntKind.i64 v398 fun v399 => AM.br (v379 != IntKind.wrap IntKind.i64 (IntKind.wrap IntKind.i64 (v397 + v399) - (1 : Int))) (some (Value.bool false, v394)) (AM.bnd (AM.evCall Proofs.Tryd.prog AM.Sp.env L k 12 [Value.pointer (some { block := s5, off := o5 })] v394) fun v400 v401 => AM.asSl v400 fun v402 v403 v404 => AM.bnd (AM.evCall Proofs.Tryd.prog AM.Sp.env L k 27 [Value.pointer (some { block := s6, off := o6 })] v401) fun v405 v406 => AM.asSl v405 fun v407 v408 v409 => AM.bnd (AM.evCall Proofs.Tryd.prog AM.Sp.env L k 26 [Value.slice v402 v403 v404, Value.slice v407 v408 v409] v406) fun v410 v411 => AM.asB v410 fun v412 => AM.br (!v412) (some (Value.bool false, v411)) (AM.lpAt Proofs.Tryd.prog AM.Sp.env L k 4 [true, true, true, true, false, true] [] n [(1, Value.slice s1 s1n s1z), (5, Value.pointer (some { block := s5, off := o5 })), (6, Value.pointer (some { block := s6, off := o6 })), (34, Value.int IntKind.i64 s34), (35, Value.int IntKind.i64 (IntKind.wrap IntKind.i64 (s35 + (1 : Int))))] v411))))))))))))) (AM.br (v36 == (6 : Int)) (AM.bnd (AM.evCall Proofs.Tryd.prog AM.Sp.env L k 15 [Value.pointer (some { block := s5, off := o5 })] st) fun v413 v414 => AM.asI IntKind.i64 v413 fun v415 => AM.St.ld v414 s6 (o6 + 3) fun v416 => AM.asSl v416 fun v417 v418 v419 => AM.St.ld st s6 (o6 + 3) fun v420 => AM.asSl v420 fun v421 v422 v423 => AM.chk (Value.slice v421 v422 v423) (Value.slice v417 v418 v419) (AM.br (v415 != (↑v418 : Int)) (some (Value.bool false, v414)) (AM.St.put v414 s6 (o6 + 3) [Value.slice none 0 0] fun v424 => AM.St.put v424 s6 (o6 + 1) [Value.int IntKind.i64 (0 : Int)] fun v425 => AM.bnd (AM.evCall Proofs.Tryd.prog AM.Sp.env L k 8 [Value.pointer (some { block := s5, off := o5 })] v425) fun v426 v427 => AM.asT v426 fun v428 => AM.uncons v428 fun v429 v430 => AM.asI IntKind.i64 v429 fun v431 => AM.uncons v430 fun v432 v433 => AM.asI IntKind.i64 v432 fun v434 => AM.endl v433 (AM.bnd (AM.evCall Proofs.Tryd.prog AM.Sp.env L k 9 [Value.pointer (some { block := s5, off := o5 })] v427) fun v435 v436 => AM.asT v435 fun v437 => AM.uncons v437 fun v438 v439 => AM.asI IntKind.i64 v438 fun v440 => AM.uncons v439 fun v441 v442 => AM.asI IntKind.i64 v441 fun v443 => AM.endl v442 (AM.St.ld v436 s6 (o6 + 0) fun v444 => AM.asI IntKind.i64 v444 fun v445 => AM.br (v440 != IntKind.wrap IntKind.i64 (v445 - (1 : Int))) (some (Value.bool false, v436)) (AM.St.ld v436 s6 (o6 + 2) fun v446 => AM.asI IntKind.i64 v446 fun v447 => AM.br (v443 != v447) (some (Value.bool false, v436)) (AM.bnd (AM.evCall Proofs.Tryd.prog AM.Sp.env L k 19 [Value.pointer (some { block := s6, off := o6 })] v436) fun v448 v449 => AM.asI IntKind.i64 v448 fun v450 => AM.br (v431 != v450) (some (Value.bool false, v449)) (AM.St.ld v449 s6 (o6 + 0) fun v451 => AM.asI IntKind.i64 v451 fun v452 => AM.St.ld v449 s6 (o6 + 1) fun v453 => AM.asI IntKind.i64 v453 fun v454 => AM.br (v434 != IntKind.wrap IntKind.i64 (IntKind.wrap IntKind.i64 (v452 + v454) - (1 : Int))) (some (Value.bool false, v449)) (AM.bnd (AM.evCall Proofs.Tryd.prog AM.Sp.env L k 12 [Value.pointer (some { block := s5, off := o5 })] v449) fun v455 v456 => AM.asSl v455 fun v457 v458 v459 => AM.bnd (AM.evCall Proofs.Tryd.prog AM.Sp.env L k 27 [Value.pointer (some { block := s6, off := o6 })] v456) fun v460 v461 => AM.asSl v460 fun v462 v463 v464 => AM.bnd (AM.evCall Proofs.Tryd.prog AM.Sp.env L k 26 [Value.slice v457 v458 v459, Value.slice v462 v463 v464] v461) fun v465 v466 => AM.asB v465 fun v467 => AM.br (!v467) (some (Value.bool false, v466)) (AM.lpAt Proofs.Tryd.prog AM.Sp.env L k 4 [true, true, true, true, false, true] [] n [(1, Value.slice s1 s1n s1z), (5, Value.pointer (some { block := s5, off := o5 })), (6, Value.pointer (some { block := s6, off := o6 })), (34, Value.int IntKind.i64 s34), (35, Value.int IntKind.i64 (IntKind.wrap IntKind.i64 (s35 + (1 : Int))))] v466)))))))))) (AM.bnd (AM.evCall Proofs.Tryd.prog AM.Sp.env L k 8 [Value.pointer (some { block := s5, off := o5 })] st) fun v468 v469 => AM.asT v468 fun v470 => AM.uncons v470 fun v471 v472 => AM.asI IntKind.i64 v471 fun v473 => AM.uncons v472 fun v474 v475 => AM.asI IntKind.i64 v474 fun v476 => AM.endl v475 (AM.bnd (AM.evCall Proofs.Tryd.prog AM.Sp.env L k 9 [Value.pointer (some { block := s5, off := o5 })] v469) fun v477 v478 => AM.asT v477 fun v479 => AM.uncons v479 fun v480 v481 => AM.asI IntKind.i64 v480 fun v482 => AM.uncons v481 fun v483 v484 => AM.asI IntKind.i64 v483 fun v485 => AM.endl v484 (AM.St.ld v478 s6 (o6 + 0) fun v486 => AM.asI IntKind.i64 v486 fun v487 => AM.br (v482 != IntKind.wrap IntKind.i64 (v487 - (1 : Int))) (some (Value.bool false, v478)) (AM.St.ld v478 s6 (o6 + 2) fun v488 => AM.asI IntKind.i64 v488 fun v489 => AM.br (v485 != v489) (some (Value.bool false, v478)) (AM.bnd (AM.evCall Proofs.Tryd.prog AM.Sp.env L k 19 [Value.pointer (some { block := s6, off := o6 })] v478) fun v490 v491 => AM.asI IntKind.i64 v490 fun v492 => AM.br (v473 != v492) (some (Value.bool false, v491)) (AM.St.ld v491 s6 (o6 + 0) fun v493 => AM.asI IntKind.i64 v493 fun v494 => AM.St.ld v491 s6 (o6 + 1) fun v495 => AM.asI IntKind.i64 v495 fun v496 => AM.br (v476 != IntKind.wrap IntKind.i64 (IntKind.wrap IntKind.i64 (v494 + v496) - (1 : Int))) (some (Value.bool false, v491)) (AM.bnd (AM.evCall Proofs.Tryd.prog AM.Sp.env L k 12 [Value.pointer (some { block := s5, off := o5 })] v491) fun v497 v498 => AM.asSl v497 fun v499 v500 v501 => AM.bnd (AM.evCall Proofs.Tryd.prog AM.Sp.env L k 27 [Value.pointer (some { block := s6, off := o6 })] v498) fun v502 v503 => AM.asSl v502 fun v504 v505 v506 => AM.bnd (AM.evCall Proofs.Tryd.prog AM.Sp.env L k 26 [Value.slice v499 v500 v501, Value.slice v504 v505 v506] v503) fun v507 v508 => AM.asB v507 fun v509 => AM.br (!v509) (some (Value.bool false, v508)) (AM.lpAt Proofs.Tryd.prog AM.Sp.env L k 4 [true, true, true, true, false, true] [] n [(1, Value.slice s1 s1n s1z), (5, Value.pointer (some { block := s5, off := o5 })), (6, Value.pointer (some { block := s6, off := o6 })), (34, Value.int IntKind.i64 s34), (35, Value.int IntKind.i64 (IntKind.wrap IntKind.i64 (s35 + (1 : Int))))] v508)))))))))))))

structure Op where
  kind : Int
  n : Int
  r : Rec
  next : Bool
def c8 (o : Op) : List Value := [.int .i64 o.kind, .int .i64 o.n, .int .i64 o.r.seq, .int .i64 o.r.kind, .int .i64 o.r.block, .string o.r.data, .int .i64 o.r.number, .bool o.next]
theorem c8_len (o : Op) : (c8 o).length = 8 := rfl

set_option maxRecDepth 20000 in
theorem recOf {σ : St} {row : List Value} (h : Img Tryd.prog σ 23 row) : ∃ r : Rec, row = c5 r := by
  obtain ⟨h1, h2⟩ := h.struct_inv Tryd.underlying23
  have hl : row.length = 5 := by rw [h1]; kernel_rfl
  match row, hl with
  | [x, y, z, s, b], _ =>
    have hx := h2 _ (List.mem_of_getElem? (i := 0) rfl)
    have hy := h2 _ (List.mem_of_getElem? (i := 1) rfl)
    have hz := h2 _ (List.mem_of_getElem? (i := 2) rfl)
    have hs := h2 _ (List.mem_of_getElem? (i := 3) rfl)
    have hb := h2 _ (List.mem_of_getElem? (i := 4) rfl)
    have e3 : Tryd.prog.cellsOf 3 = 1 := by kernel_rfl
    have e9 : Tryd.prog.cellsOf 9 = 1 := by kernel_rfl
    simp only [e3] at hx hy hz hb
    simp only [e9] at hs
    obtain ⟨n0, w0, v0⟩ := Img.int_inv Tryd.underlying3 hx
    obtain ⟨n1, w1, v1⟩ := Img.int_inv Tryd.underlying3 hy
    obtain ⟨n2, w2, v2⟩ := Img.int_inv Tryd.underlying3 hz
    obtain ⟨t, w3, v3⟩ := Img.str_inv Tryd.underlying9 hs
    obtain ⟨n4, w4, v4⟩ := Img.int_inv Tryd.underlying3 hb
    simp at w0 w1 w2 w3 w4
    exact ⟨⟨n0, n1, n2, t, n4⟩, by rw [w0, w1, w2, w3, w4]; rfl⟩
set_option maxRecDepth 20000 in
theorem opOf {σ : St} {row : List Value} (h : Img Tryd.prog σ 48 row) : ∃ o : Op, row = c8 o := by
  obtain ⟨h1, h2⟩ := h.struct_inv Tryd.underlying48
  have hl : row.length = 8 := by rw [h1]; kernel_rfl
  match row, hl with
  | [x, y, r0, r1, r2, r3, r4, b], _ =>
    have hx := h2 _ (List.mem_of_getElem? (i := 0) rfl)
    have hy := h2 _ (List.mem_of_getElem? (i := 1) rfl)
    have hr := h2 _ (List.mem_of_getElem? (i := 2) rfl)
    have hb := h2 _ (List.mem_of_getElem? (i := 3) rfl)
    have e3 : Tryd.prog.cellsOf 3 = 1 := by kernel_rfl
    have e23 : Tryd.prog.cellsOf 23 = 5 := by kernel_rfl
    have e4 : Tryd.prog.cellsOf 4 = 1 := by kernel_rfl
    simp only [e3] at hx hy
    simp only [e23] at hr
    simp only [e4] at hb
    obtain ⟨n0, w0, v0⟩ := Img.int_inv Tryd.underlying3 hx
    obtain ⟨n1, w1, v1⟩ := Img.int_inv Tryd.underlying3 hy
    obtain ⟨r, w2⟩ := recOf hr
    obtain ⟨c, w3⟩ := Img.bool_inv Tryd.underlying4 hb
    simp [c5] at w0 w1 w2 w3
    obtain ⟨a0, a1, a2, a3, a4⟩ := w2
    exact ⟨⟨n0, n1, r, c⟩, by rw [w0, w1, w3, a0, a1, a2, a3, a4]; rfl⟩

theorem few_loop (L k : Nat) {σ0 σ : St} {ad : Option Addr} {l : List Op} (hl : l.length ≤ 200) (hH : Holds σ0 8 c8 ad l) (hK : Kept' σ0.next σ0 σ) : ∀ (n i : Nat), i ≤ l.length → l.length - i < n →
    ∃ b, lpAt Tryd.prog env L k 16 [true, true, false, true] [] n [(0, .slice ad l.length 0), (8, .int .i64 l.length), (9, .int .i64 i)] σ = some (.bool b, σ)
  | 0, i, _, h => by omega
  | n + 1, i, h1, h2 => by
    rw [f16_l4]
    by_cases hi : i = l.length
    · rw [decide_eq_false (by omega), br_false]; exact ⟨true, rfl⟩
    · have hget : l[i]? = some l[i] := List.getElem?_eq_getElem (by omega)
      obtain ⟨q0, e0, hat⟩ := hH.ld hK hget
      generalize l[i] = o at hat
      rw [decide_eq_true (by omega), br_true, need_of (by simp [inRange]; omega), e0, adr_some, hat 5 (.string o.r.data) _ (by omega) rfl (by omega), asS_s]
      by_cases hc : ((o.r.data.size : Int)) > 100
      · rw [decide_eq_true hc, br_true]; exact ⟨false, rfl⟩
      · rw [decide_eq_false hc, br_false, wrap_in _ (by omega) (by omega), ← e0]
        exact few_loop L k hl hH hK n (i + 1) (by omega) (by omega)
theorem few_spec (L k : Nat) (hL : 400 < L) {σ0 σ : St} {ad : Option Addr} {l : List Op} (hH : Holds σ0 8 c8 ad l) (hK : Kept' σ0.next σ0 σ) :
    ∃ b, evCall Tryd.prog env L (k + 1) 16 [.slice ad l.length 0] σ = some (.bool b, σ) ∧ (b = true → l.length ≤ 200) := by
  rw [f16_eq]
  by_cases h : (l.length : Int) > 200
  · rw [decide_eq_true h, br_true]; exact ⟨false, rfl, by simp⟩
  · rw [decide_eq_false h, br_false]
    obtain ⟨b, hb⟩ := few_loop L k (by omega) hH hK L 0 (by omega) (by omega)
    exact ⟨b, hb, fun _ => by omega⟩

abbrev ptr (a : Nat) : Value := .pointer (some ⟨a, 0, none⟩)
abbrev P7 : List Bool := [true, true, true, true, false, true]

/-- The stage and the document's, side by side. -/
structure Two (σ0 σ : St) (a b t : Nat) (first : Int) (rs : List Rec) (fast : Nat) (mark : Int) : Prop where
  ex : ∃ F G, Stg σ a F first rs fast mark ∧ Ref σ b G first rs fast mark ∧ Owns σ0 σ [F, G, [t]]
  f0 : 1 ≤ first
  f1 : first ≤ 1152921504607846976
  len : rs.length ≤ 990
  fl : fast ≤ rs.length
section
variable {σ0 σ σ' : St} {a b t : Nat} {first mark : Int} {rs : List Rec} {fast : Nat}
theorem Two.kept (h : Two σ0 σ a b t first rs fast mark) : Kept' σ0.next σ0 σ := by obtain ⟨_, _, _, _, h⟩ := h.ex; exact h.kept
theorem Two.idle (h : Two σ0 σ a b t first rs fast mark) (hs : Same σ σ' []) : Two σ0 σ' a b t first rs fast mark := by
  obtain ⟨F, G, h1, h2, h3⟩ := h.ex
  exact ⟨⟨F, G, h1.idle hs, h2.idle hs, h3.idle hs⟩, h.f0, h.f1, h.len, h.fl⟩
theorem tl_ok (L k n : Nat) (hL : 1000 < L) (h : Two σ0 σ a b t first rs fast mark) (s1 : Option Addr) (s1n s1z : Nat) (s34 s35 : Int) :
    ∃ σ', Two σ0 σ' a b t first rs fast mark ∧ tl L (k + 4) n σ s1 s1n s1z a 0 b 0 s34 s35 = lpAt Tryd.prog env L (k + 4) 4 P7 [] n [(1, .slice s1 s1n s1z), (5, ptr a), (6, ptr b), (34, .int .i64 s34), (35, .int .i64 (IntKind.wrap .i64 (s35 + 1)))] σ' := by
  obtain ⟨F, G, hS, hR, hO⟩ := h.ex
  have f0 := h.f0
  have f1 := h.f1
  have fl := h.fl
  have len := h.len
  have t1 := last_spec hS L (k + 3) f0 f1 (by omega) fl
  have t2 := dropped_spec hS L (k + 3) f0 f1
  have t3 := taken_spec hR L (k + 3) ⟨f0, f1, by omega⟩
  obtain ⟨qs, ad, z, rfl, hne, hg, hrow⟩ := hR.ex
  have r0 := ld_at hg (0 + 0) _ rfl
  have r1 := ld_at hg (0 + 1) _ rfl
  have r2 := ld_at hg (0 + 2) _ rfl
  obtain ⟨v, σ1, g1, ad1, z1, q1, rfl, m1, s1', n1⟩ := marks_spec hS L (k + 2) (by omega) (by omega) fl
  obtain ⟨v, σ2, g2, ad2, z2, q2, rfl, m2, s2', n2⟩ := rmarks_spec (hR.idle s1') L (k + 3) hL fl (by omega)
  have hml := marksOf_len (rs.take fast)
  rw [List.length_take] at hml
  have g3 := same_spec L (k + 3) hL (m1.same s2' (by simp)) m2 (by omega)
  have bb : ∀ x : Int, (x != x) = false := fun x => by simp
  have w1 : IntKind.wrap .i64 (first - 1) = first - 1 := wrap_in _ (by omega) (by omega)
  have w2 : IntKind.wrap .i64 (first + (fast : Int)) = first + fast := wrap_in _ (by omega) (by omega)
  have w3 : IntKind.wrap .i64 (first + (fast : Int) - 1) = first + fast - 1 := wrap_in _ (by omega) (by omega)
  refine ⟨σ2, (h.idle s1').idle s2', ?_⟩
  unfold tl
  rw [t1, bnd_some, asT_t, toList2, uncons_c, asI_i, uncons_c, asI_i, endl_n, t2, bnd_some, asT_t, toList2, uncons_c, asI_i, uncons_c, asI_i, endl_n, r0, asI_i, w1, bb, br_false, r2, asI_i, bb, br_false, t3, bnd_some, asI_i, bb, br_false, r0, asI_i, r1, asI_i, w2, w3, bb, br_false, g1, bnd_some, asSl_s, g2, bnd_some, asSl_s, g3, bnd_some, asB_b, not_true, br_false]

/-- What was found: the same place, or none. -/
theorem hit_same {m : Int} {j j' : Nat} {r r' : Rec} (h1 : rs[j]? = some r) (h2 : Hit m r) (h3 : ∀ i x, i < j → rs[i]? = some x → ¬ Hit m x) (k1 : rs[j']? = some r') (k2 : Hit m r') (k3 : ∀ i x, i < j' → rs[i]? = some x → ¬ Hit m x) : j = j' := by
  rcases Nat.lt_trichotomy j j' with h | h | h
  · exact absurd h2 (k3 j r h h1)
  · exact h
  · exact absurd k2 (h3 j' r' h k1)

set_option maxRecDepth 20000 in
theorem sw_ok (L k n i : Nat) (hL : 3000 < L) (hT : Two σ0 σ a b t first rs fast mark) (hlen : rs.length ≤ i) (hfi : first + rs.length ≤ 1152921504606846976 + i) (hi : i ≤ 200) {kind N : Int} {r : Rec} {nx : Bool} (ht : σ.get t = some (.own [.int .i64 kind, .int .i64 N, .int .i64 r.seq, .int .i64 r.kind, .int .i64 r.block, .string r.data, .int .i64 r.number, .bool nx] 48))
    {s1 : Option Addr} {s1n s1z : Nat} {s34 : Int}
    (hrec : ∀ (σ' : St) (first' : Int) (rs' : List Rec) (fast' : Nat) (mark' : Int), Two σ0 σ' a b t first' rs' fast' mark' → rs'.length ≤ i + 1 → first' + rs'.length ≤ 1152921504606846976 + (i + 1 : Nat) →
      ∃ σ9, lpAt Tryd.prog env L (k + 6) 4 P7 [] n [(1, .slice s1 s1n s1z), (5, ptr a), (6, ptr b), (34, .int .i64 s34), (35, .int .i64 (IntKind.wrap .i64 ((i : Int) + 1)))] σ' = some (.bool true, σ9)) :
    ∃ σ9, sw L (k + 6) n t σ s1 s1n s1z a 0 b 0 s34 i = some (.bool true, σ9) := by
  obtain ⟨F, G, hS, hR, hO⟩ := hT.ex
  have f0 := hT.f0
  have f1 := hT.f1
  have fl := hT.fl
  have len := hT.len
  have ntF : t ∉ F := hO.off 2 0 (by omega) rfl rfl t (by simp)
  have ntG : t ∉ G := hO.off 2 1 (by omega) rfl rfl t (by simp)
  have ntl : t < σ.next := hO.lt 2 rfl t (by simp)
  have go : ∀ (σ' : St) (F' G' : List Nat) (first' : Int) (rs' : List Rec) (fast' : Nat) (mark' : Int), Stg σ' a F' first' rs' fast' mark' → Ref σ' b G' first' rs' fast' mark' → Owns σ0 σ' [F', G', [t]] → 1 ≤ first' → fast' ≤ rs'.length → rs'.length ≤ i + 1 → first' + rs'.length ≤ 1152921504606846976 + (i + 1 : Nat) →
      ∃ σ9, tl L (k + 6) n σ' s1 s1n s1z a 0 b 0 s34 i = some (.bool true, σ9) := by
    intro σ' F' G' first' rs' fast' mark' h1 h2 h3 h4 h5 h6 h7
    obtain ⟨σ2, h8, h9⟩ := tl_ok L (k + 2) n (by omega) (h := ⟨⟨F', G', h1, h2, h3⟩, h4, by omega, by omega, h5⟩) s1 s1n s1z s34 (i : Int)
    rw [h9]
    exact hrec σ2 first' rs' fast' mark' h8 h6 h7
  have bb : ∀ x : Int, (x != x) = false := fun x => by simp
  unfold sw
  rw [ld_at ht 0 _ rfl, asI_i]
  by_cases k1 : kind = 1
  · have hl5 : ∀ {σ' : St}, σ'.get t = some (.own [.int .i64 kind, .int .i64 N, .int .i64 r.seq, .int .i64 r.kind, .int .i64 r.block, .string r.data, .int .i64 r.number, .bool nx] 48) → ∀ K : List Value → Res, σ'.lds t 2 5 K = K [.int .i64 r.seq, .int .i64 r.kind, .int .i64 r.block, .string r.data, .int .i64 r.number] := fun h K => lds_own K h (by simp)
    obtain ⟨v, σ2, g2, rs', F2, rfl, hS2, hT2, hor⟩ := take_gen hS L (k + 3) f0 f1 (by omega) fl r (fun b => b = decide (Can r)) (fun σ => by
      obtain ⟨v, σ', g, e, s⟩ := right_is L (k + 3) σ r
      exact ⟨v, σ', g, ⟨_, e, rfl⟩, s⟩)
    have hO2 := hO.turned 0 rfl hT2
    have ht2 : σ2.get t = _ := (hT2.same.2 t ntl ntF).trans ht
    have hR2 := hR.same hT2.same (hO.off 1 0 (by omega) rfl rfl)
    obtain ⟨rs2, G3, σ3, g3, hR3, hT3, hor3⟩ := rtake_spec hR2 L (k + 4) ⟨f0, f1, by omega⟩ (by omega) r
    have hO3 := hO2.turned 1 rfl hT3
    have hS3 := hS2.same hT3.same (hO2.off 0 1 (by omega) rfl rfl)
    have hrs : rs2 = rs' := by
      rw [hor3]
      rcases hor with ⟨e, h1 | h1⟩ | ⟨h1, h2, e⟩
      · rw [if_neg (fun h => h1 h.2), e]
      · rw [if_neg (fun h => by have := h.1; rw [decide_eq_true this] at h1; exact absurd h1 (by decide)), e]
      · rw [if_pos ⟨of_decide_eq_true h2.symm, h1⟩, e]
    subst hrs
    have hln : rs2.length ≤ i + 1 ∧ first + rs2.length ≤ 1152921504606846976 + (i + 1 : Nat) ∧ rs.length ≤ rs2.length := by
      rw [hor3]; split <;> simp <;> omega
    rw [k1, show ((1 : Int) == 1) = true from rfl, br_true, hl5 ht, uncons_c, asI_i, uncons_c, asI_i, uncons_c, asI_i, uncons_c, asS_s, uncons_c, asI_i, endl_n, show Value.agg #[Value.int .i64 r.seq, .int .i64 r.kind, .int .i64 r.block, .string r.data, .int .i64 r.number] = r.agg from rfl, g2, bnd_some, asI_i,
      hl5 ht2, uncons_c, asI_i, uncons_c, asI_i, uncons_c, asI_i, uncons_c, asS_s, uncons_c, asI_i, endl_n, hl5 ht, uncons_c, asI_i, uncons_c, asI_i, uncons_c, asI_i, uncons_c, asS_s, uncons_c, asI_i, endl_n, chk_same, show Value.agg #[Value.int .i64 r.seq, .int .i64 r.kind, .int .i64 r.block, .string r.data, .int .i64 r.number] = r.agg from rfl, g3, bnd_some, asI_i, bb, br_false]
    exact go σ3 F2 G3 first rs2 fast mark hS3 hR3 hO3 f0 (by omega) hln.1 hln.2.1
  · rw [show (kind == 1) = false by simpa using k1, br_false]
    by_cases k2 : kind = 2
    · obtain ⟨σ2, g2, hS2, hT2⟩ := flush_spec hS L (k + 5)
      have hO2 := hO.turned 0 rfl hT2
      have hR2 := hR.same hT2.same (hO.off 1 0 (by omega) rfl rfl)
      obtain ⟨qs, ad, z, hG, hne, hg, hrow⟩ := hR2.ex
      have hR3 : Ref (σ2.set b (.own (List.set [.int .i64 first, .int .i64 fast, .int .i64 mark, .slice ad rs.length z] (0 + 1) (.int .i64 rs.length)) 50)) b G first rs rs.length mark :=
        ⟨⟨qs, ad, z, hG, hne, by rw [get_set_same]; rfl, hrow.same (Same.set _ _ _) (fun q hq => by simp; rintro rfl; exact hne hq)⟩, by simpa using hR2.lt⟩
      have s3 := Same.set σ2 b (.own (List.set [.int .i64 first, .int .i64 fast, .int .i64 mark, .slice ad rs.length z] (0 + 1) (.int .i64 rs.length)) 50)
      have hT3 : Turn σ2 (σ2.set b (.own (List.set [.int .i64 first, .int .i64 fast, .int .i64 mark, .slice ad rs.length z] (0 + 1) (.int .i64 rs.length)) 50)) G G :=
        ⟨s3.mono (by rw [hG]; simp), fun q hq => ⟨.inl hq, by simpa using hR2.lt q hq⟩⟩
      have hO3 := hO2.turned 1 rfl hT3
      have hS3 := hS2.same hT3.same (hO2.off 0 1 (by omega) rfl rfl)
      rw [k2, show ((2 : Int) == 2) = true from rfl, br_true, g2, bnd_some, asT_t, toList0, endl_n, ld_at hg (0 + 3) _ rfl, asSl_s, put_int hg (0 + 1) .i64 _ (by simp)]
      exact go _ F G first rs rs.length mark hS3 hR3 hO3 f0 (Nat.le_refl _) (by omega) (by omega)
    · rw [show (kind == 2) = false by simpa using k2, br_false]
      by_cases k3 : kind = 3
      · obtain ⟨n2, σ2, g2, e2, l2, hS2, hT2⟩ := crash_spec hS L (k + 5) fl (by omega) N
        have hO2 := hO.turned 0 rfl hT2
        have ht2 : σ2.get t = _ := (hT2.same.2 t ntl ntF).trans ht
        have hR2 := hR.same hT2.same (hO.off 1 0 (by omega) rfl rfl)
        obtain ⟨n3, σ3, g3, e3, l3, hR3, hT3⟩ := rcrash_spec hR2 L (k + 5) fl (by omega) N
        obtain rfl : n2 = n3 := by omega
        have hO3 := hO2.turned 1 rfl hT3
        have hS3 := hS2.same hT3.same (hO2.off 0 1 (by omega) rfl rfl)
        have htl : (rs.take n2).length = n2 := by rw [List.length_take]; omega
        rw [k3, show ((3 : Int) == 3) = true from rfl, br_true, ld_at ht 1 _ rfl, asI_i, g2, bnd_some, asT_t, toList0, endl_n, ld_at ht2 1 _ rfl, asI_i, g3, bnd_some, asT_t, toList0, endl_n]
        exact go σ3 F G first _ n2 mark hS3 hR3 hO3 f0 (by omega) (by omega) (by omega)
      · rw [show (kind == 3) = false by simpa using k3, br_false]
        by_cases k4 : kind = 4
        · rw [k4, show ((4 : Int) == 4) = true from rfl, br_true, ld_at ht 1 _ rfl, asI_i]
          have htk : ∀ j, j < fast → (rs.take fast)[j]? = rs[j]? := fun j hj => by rw [List.getElem?_take, if_pos hj]
          rcases upto_spec hS L (k + 3) (by omega) (by omega) fl N with ⟨j, x, ad1, z1, q1, σ2, g2, hr2, s2, _, hj, hx, hh, hno⟩ | ⟨σ2, g2, s2, hno⟩
          · have ht2 : σ2.get t = _ := (s2.2 t ntl (by simp)).trans ht
            have hR2 := hR.idle s2
            rcases rupto_spec hR2 L (k + 5) (by omega) fl (by omega) N with ⟨j', x', g3, hj', hx', hh', hno'⟩ | ⟨_, hno'⟩
            rotate_left
            · exact absurd hh (hno' j x hj hx)
            obtain rfl := hit_same hx hh hno hx' hh' hno'
            obtain ⟨qs, ad, z, hG, hne, hg, hrow⟩ := hR2.ex
            have htl : (rs.take (j + 1)).length = j + 1 := by rw [List.length_take]; omega
            have g4 := same6_spec L (k + 5) (by omega) hr2 (hrow.take (j + 1)) (by omega)
            rw [htl] at g4
            have hmx : mx ((j + 1 : Nat) : Int) 0 = ((j + 1 : Nat) : Int) := by unfold mx; rw [if_neg (by omega)]
            rw [g2, bnd_some, asT_t, toList2, uncons_c, asSl_s, uncons_c, asB_b, endl_n, ld_at ht2 1 _ rfl, asI_i, g3, bnd_some, asI_i, decide_eq_true (by omega), show (!true == true) = false from rfl, br_false, ld_at hg (0 + 3) _ rfl, asSl_s, need_of (by rcases hrow.z with e | e <;> rw [e] <;> rfl), hmx, need_of (by simp [inRange]; omega), hrow.sub0, show Int.toNat ((j + 1 : Nat) : Int) - 0 = j + 1 from rfl, g4, bnd_some, asB_b, not_true, br_false]
            exact go σ2 F G first rs fast mark (hS.idle s2) hR2 (hO.idle s2) f0 fl (by omega) (by omega)
          · have ht2 : σ2.get t = _ := (s2.2 t ntl (by simp)).trans ht
            have hR2 := hR.idle s2
            rcases rupto_spec hR2 L (k + 5) (by omega) fl (by omega) N with ⟨j', x', g3, hj', hx', hh', hno'⟩ | ⟨g3, _⟩
            · exact absurd hh' (hno x' (List.mem_of_getElem? ((htk j' hj').trans hx')))
            obtain ⟨qs, ad, z, hG, hne, hg, hrow⟩ := hR2.ex
            have g4 := same6_spec L (k + 5) (by omega) (Row.nil c5 5 23 σ2) (hrow.take 0) (by simp)
            rw [show ([] : List Rec).length = 0 from rfl] at g4
            rw [g2, bnd_some, asT_t, toList2, uncons_c, asSl_s, uncons_c, asB_b, endl_n, ld_at ht2 1 _ rfl, asI_i, g3, bnd_some, asI_i, show (!false == decide ((-1 : Int) ≥ 0)) = false from rfl, br_false, ld_at hg (0 + 3) _ rfl, asSl_s, need_of (by rcases hrow.z with e | e <;> rw [e] <;> rfl), show mx (-1 : Int) 0 = 0 from rfl, need_of (by simp [inRange] <;> omega), hrow.sub0, show Int.toNat (0 : Int) - 0 = 0 from rfl, g4, bnd_some, asB_b, not_true, br_false]
            exact go σ2 F G first rs fast mark (hS.idle s2) hR2 (hO.idle s2) f0 fl (by omega) (by omega)
        · rw [show (kind == 4) = false by simpa using k4, br_false]
          by_cases k5 : kind = 5
          · rw [k5, show ((5 : Int) == 5) = true from rfl, br_true, ld_at ht 1 _ rfl, asI_i]
            have htk : ∀ j, j < fast → (rs.take fast)[j]? = rs[j]? := fun j hj => by rw [List.getElem?_take, if_pos hj]
            rcases drop_spec hS L (k + 2) (by omega) (by omega) fl f0 f1 N with ⟨j, x, F2, σ2, g2, hS2, hT2, hj, hx, hh, hno⟩ | ⟨v, σ2, g2, he, s2, hno⟩
            · have hO2 := hO.turned 0 rfl hT2
              have ht2 : σ2.get t = _ := (hT2.same.2 t ntl ntF).trans ht
              have hR2 := hR.same hT2.same (hO.off 1 0 (by omega) rfl rfl)
              obtain ⟨σ3, g3, s3⟩ := first_nil L (k + 3) (by omega) σ2 ⟨#[115, 116, 97, 103, 101]⟩
              obtain ⟨σ4, g4, s4⟩ := code_nil L (k + 4) σ3
              have s24 := s3.trans s4
              have ntl2 : t < σ2.next := by have := hT2.same.1; omega
              have ht3 : σ3.get t = _ := (s3.2 t ntl2 (by simp)).trans ht2
              have ht4 : σ4.get t = _ := (s24.2 t ntl2 (by simp)).trans ht2
              have hO4 := hO2.idle s24
              rcases rdrop_spec (hR2.idle s24) L (k + 4) ⟨f0, f1, by omega⟩ (by omega) fl N with ⟨j', x', G5, σ5, g5, hR5, hT5, hj', hx', hh', hno'⟩ | ⟨_, hno'⟩
              rotate_left
              · exact absurd hh (hno' j x hj hx)
              obtain rfl := hit_same hx hh hno hx' hh' hno'
              have hO5 := hO4.turned 1 rfl hT5
              have hS5 := (hS2.idle s24).same hT5.same (hO4.off 0 1 (by omega) rfl rfl)
              rw [g2, bnd_some, g3, bnd_some, asT_t, toList2, uncons_c, asI_i, uncons_c, asB_b, endl_n, g4, bnd_some, asI_i, ld_at ht4 1 _ rfl, asI_i, ld_at ht3 1 _ rfl, asI_i, chk_same, g5, bnd_some, asI_i, bb, br_false, br_false, eqNil_nil, show (!false == !true) = false from rfl, br_false]
              exact go σ5 F2 G5 _ _ _ N hS5 hR5 hO5 (by omega) (by simp; omega) (by simp; omega) (by simp; omega)
            · have ht2 : σ2.get t = _ := (s2.2 t ntl (by simp)).trans ht
              obtain ⟨σ3, g3, s3⟩ := first_spec L (k + 3) (by omega) he
              obtain ⟨σ4, g4, s4⟩ := code_spec L (k + 4) (he.same s3)
              have s24 := s3.trans s4
              have s14 := s2.trans s24
              have ntl2 : t < σ2.next := by have := s2.1; omega
              have ht3 : σ3.get t = _ := (s3.2 t ntl2 (by simp)).trans ht2
              have ht4 : σ4.get t = _ := (s24.2 t ntl2 (by simp)).trans ht2
              rcases rdrop_spec (hR.idle s14) L (k + 4) ⟨f0, f1, by omega⟩ (by omega) fl N with ⟨j', x', G5, σ5, g5, hR5, hT5, hj', hx', hh', hno'⟩ | ⟨g5, _⟩
              · exact absurd hh' (hno x' (List.mem_of_getElem? ((htk j' hj').trans hx')))
              rw [g2, bnd_some, g3, bnd_some, asT_t, toList2, uncons_c, asI_i, uncons_c, asB_b, endl_n, g4, bnd_some, asI_i, ld_at ht4 1 _ rfl, asI_i, ld_at ht3 1 _ rfl, asI_i, chk_same, g5, bnd_some, asI_i, bb, br_false, br_true, ld_at ht4 1 _ rfl, asI_i, bb, br_false, he.nil, show (!true == !false) = false from rfl, br_false]
              exact go σ4 F G first rs fast mark (hS.idle s14) (hR.idle s14) (hO.idle s14) f0 fl (by omega) (by omega)
          · rw [show (kind == 5) = false by simpa using k5, br_false]
            by_cases k6 : kind = 6
            · obtain ⟨σ2, g2, hS2, hT2⟩ := cut_spec hS L (k + 5)
              have hO2 := hO.turned 0 rfl hT2
              have hR2 := hR.same hT2.same (hO.off 1 0 (by omega) rfl rfl)
              obtain ⟨qs, ad, z, hG, hne, hg, hrow⟩ := hR2.ex
              have hbl := hR.lt b (by rw [hG]; simp)
              have hg0 : σ.get b = some (.own [.int .i64 first, .int .i64 fast, .int .i64 mark, .slice ad rs.length z] 50) := by
                rw [← hg]; exact (hT2.same.2 b hbl (hO.off 1 0 (by omega) rfl rfl b (by rw [hG]; simp))).symm
              have s3 := Same.set σ2 b (.own (List.set [.int .i64 first, .int .i64 fast, .int .i64 mark, .slice ad rs.length z] (0 + 3) (.slice none 0 0)) 50)
              have hg3 : (σ2.set b (.own (List.set [.int .i64 first, .int .i64 fast, .int .i64 mark, .slice ad rs.length z] (0 + 3) (.slice none 0 0)) 50)).get b = some (.own [.int .i64 first, .int .i64 fast, .int .i64 mark, .slice none 0 0] 50) := by rw [get_set_same]; rfl
              have n3 : (σ2.set b (.own (List.set [.int .i64 first, .int .i64 fast, .int .i64 mark, .slice ad rs.length z] (0 + 3) (.slice none 0 0)) 50)).next = σ2.next := rfl
              rw [k6, show ((6 : Int) == 6) = true from rfl, br_true, g2, bnd_some, asI_i, ld_at hg (0 + 3) _ rfl, asSl_s, ld_at hg0 (0 + 3) _ rfl, asSl_s, chk_same, bb, br_false, put_sl hg (0 + 3) _ _ _ (by simp)]
              generalize σ2.set b (.own (List.set [.int .i64 first, .int .i64 fast, .int .i64 mark, .slice ad rs.length z] (0 + 3) (.slice none 0 0)) 50) = σ3 at s3 hg3 n3
              rw [put_int hg3 (0 + 1) .i64 _ (by simp)]
              have s4 := Same.set σ3 b (.own (List.set [.int .i64 first, .int .i64 fast, .int .i64 mark, .slice none 0 0] (0 + 1) (.int .i64 0)) 50)
              have hR4 : Ref (σ3.set b (.own (List.set [.int .i64 first, .int .i64 fast, .int .i64 mark, .slice none 0 0] (0 + 1) (.int .i64 0)) 50)) b [b] first [] 0 mark :=
                ⟨⟨[], none, 0, rfl, by simp, by rw [get_set_same]; rfl, Row.nil _ _ _ _⟩, by have := hT2.same.1; simp; omega⟩
              have hT4 : Turn σ2 (σ3.set b (.own (List.set [.int .i64 first, .int .i64 fast, .int .i64 mark, .slice none 0 0] (0 + 1) (.int .i64 0)) 50)) G [b] :=
                ⟨(s3.trans s4).mono (by rw [hG]; simp), fun q hq => ⟨.inl (by rw [hG]; simp at hq; simp [hq]), hR4.lt q hq⟩⟩
              have hO4 := hO2.turned 1 rfl hT4
              have hS4 := hS2.same hT4.same (hO2.off 0 1 (by omega) rfl rfl)
              exact go _ [a] [b] first [] 0 mark hS4 hR4 hO4 f0 (Nat.le_refl _) (by simp) (by simp; omega)
            · rw [show (kind == 6) = false by simpa using k6, br_false]
              exact go σ F G first rs fast mark hS hR hO f0 fl (by omega) (by omega)
end

set_option maxRecDepth 20000 in
theorem plays (L k : Nat) (hL : 3000 < L) {σ0 : St} {ad : Option Addr} {sp : List Op} (hlen : sp.length ≤ 200) (hH : Holds σ0 8 c8 ad sp) {a b : Nat} : ∀ (n i : Nat) (σ : St) (F G : List Nat) (first : Int) (rs : List Rec) (fast : Nat) (mark : Int),
    i ≤ sp.length → sp.length - i < n → Stg σ a F first rs fast mark → Ref σ b G first rs fast mark → Owns σ0 σ [F, G] → 1 ≤ first → fast ≤ rs.length → rs.length ≤ i → first + rs.length ≤ 1152921504606846976 + i →
    ∃ σ9, lpAt Tryd.prog env L (k + 6) 4 P7 [] n [(1, .slice ad sp.length 0), (5, ptr a), (6, ptr b), (34, .int .i64 sp.length), (35, .int .i64 i)] σ = some (.bool true, σ9)
  | 0, i, σ, F, G, first, rs, fast, mark, _, h, _, _, _, _, _, _, _ => by omega
  | n + 1, i, σ, F, G, first, rs, fast, mark, hi, h, hS, hR, hO, h0, hf, hl, hfi => by
    rw [f4_l7]
    by_cases hie : i = sp.length
    · rw [decide_eq_false (by omega), br_false]
      exact ⟨σ, rfl⟩
    · have hget : sp[i]? = some sp[i] := List.getElem?_eq_getElem (by omega)
      obtain ⟨q0, e0, hlds⟩ := hH.lds hO.kept c8_len hget
      generalize sp[i] = o at hlds
      rw [decide_eq_true (by omega), br_true, need_of (by simp [inRange]; omega), e0, adr_some, hlds 0 8 (0 + (i : Int).toNat * 8) (by omega) (by simp), show ((c8 o).drop 0).take 8 = c8 o from rfl]
      unfold c8
      rw [uncons_c, asI_i, uncons_c, asI_i, uncons_c, asI_i, uncons_c, asI_i, uncons_c, asI_i, uncons_c, asS_s, uncons_c, asI_i, uncons_c, asB_b, endl_n]
      obtain ⟨σ1, hput, ht1, s1, n1⟩ := tmp_put σ [Value.int IntKind.i64 0, Value.int IntKind.i64 0, Value.int IntKind.i64 0, Value.int IntKind.i64 0, Value.int IntKind.i64 0, Value.string { data := #[] }, Value.int IntKind.i64 0, Value.bool false] [Value.int IntKind.i64 o.kind, Value.int IntKind.i64 o.n, Value.int IntKind.i64 o.r.seq, Value.int IntKind.i64 o.r.kind, Value.int IntKind.i64 o.r.block, Value.string o.r.data, Value.int IntKind.i64 o.r.number, Value.bool o.next] 48 rfl rfl
      rw [hput, ← e0, ld_at ht1 7 _ rfl, asB_b]
      have hO1 : Owns σ0 σ1 [F, G, [σ.next]] := (hO.more s1 (F := [σ.next]) (fun q hq => by simp at hq; subst hq; omega)).pick [1, 2, 0] (by decide)
      have hw : IntKind.wrap .i64 ((i : Int) + 1) = ((i + 1 : Nat) : Int) := by rw [wrap_in _ (by omega) (by omega)]; omega
      have hrec : ∀ (σ' : St) (first' : Int) (rs' : List Rec) (fast' : Nat) (mark' : Int), Two σ0 σ' a b σ.next first' rs' fast' mark' → rs'.length ≤ i + 1 → first' + rs'.length ≤ 1152921504606846976 + (i + 1 : Nat) →
          ∃ σ9, lpAt Tryd.prog env L (k + 6) 4 P7 [] n [(1, .slice ad sp.length 0), (5, ptr a), (6, ptr b), (34, .int .i64 sp.length), (35, .int .i64 (IntKind.wrap .i64 ((i : Int) + 1)))] σ' = some (.bool true, σ9) := fun σ' first' rs' fast' mark' h1 h2 h3 => by
        obtain ⟨F', G', g1, g2, g3⟩ := h1.ex
        rw [hw]
        exact plays L k hL hlen hH n (i + 1) σ' F' G' first' rs' fast' mark' (by omega) (by omega) g1 g2 (g3.pick [0, 1] (by decide)) h1.f0 h1.fl h2 h3
      cases hb : o.next with
      | false =>
        rw [hb] at ht1
        rw [br_false]
        exact sw_ok L k n i hL (t := σ.next) (r := o.r) (nx := false) ⟨⟨F, G, hS.idle s1, hR.idle s1, hO1⟩, h0, by omega, by omega, hf⟩ hl hfi (by omega) ht1 hrec
      | true =>
        rw [hb] at ht1
        rw [br_true, taken_spec (hR.idle s1) L (k + 5) ⟨h0, by omega, by omega⟩, bnd_some, asI_i, put_int ht1 2 .i64 _ (by simp)]
        generalize hσ2 : σ1.set σ.next (.own (List.set [Value.int IntKind.i64 o.kind, Value.int IntKind.i64 o.n, Value.int IntKind.i64 o.r.seq, Value.int IntKind.i64 o.r.kind, Value.int IntKind.i64 o.r.block, Value.string o.r.data, Value.int IntKind.i64 o.r.number, Value.bool true] 2 (.int .i64 (IntKind.wrap .i64 (first + (rs.length : Int) - 1 + 1)))) 48) = σ2
        have ht2 : σ2.get σ.next = some (.own [Value.int IntKind.i64 o.kind, Value.int IntKind.i64 o.n, .int .i64 (IntKind.wrap .i64 (first + (rs.length : Int) - 1 + 1)), Value.int IntKind.i64 o.r.kind, Value.int IntKind.i64 o.r.block, Value.string o.r.data, Value.int IntKind.i64 o.r.number, Value.bool true] 48) := by rw [← hσ2, get_set_same]; rfl
        have s2 : Same σ1 σ2 [σ.next] := by rw [← hσ2]; exact Same.set _ _ _
        have n2 : σ2.next = σ1.next := by rw [← hσ2]; rfl
        have hT2 : Turn σ1 σ2 [σ.next] [σ.next] := ⟨s2, fun q hq => ⟨.inl hq, by simp at hq; omega⟩⟩
        have hO2 := hO1.turned 2 rfl hT2
        exact sw_ok L k n i hL (t := σ.next) (r := ⟨IntKind.wrap .i64 (first + (rs.length : Int) - 1 + 1), o.r.kind, o.r.block, o.r.data, o.r.number⟩) (nx := true) ⟨⟨F, G, (hS.idle s1).same s2 (hO1.off 0 2 (by omega) rfl rfl), (hR.idle s1).same s2 (hO1.off 1 2 (by omega) rfl rfl), hO2⟩, h0, by omega, by omega, hf⟩ hl hfi (by omega) ht2 hrec

theorem plays_holds (L k : Nat) (hL : 3000 < L) {σ : St} {ad : Option Addr} {sp : List Op} (hH : Holds σ 8 c8 ad sp) (a0 : Int) :
    ∃ σ9, evCall Tryd.prog env L (k + 7) 4 [.int .i64 a0, .slice ad sp.length 0] σ = some (.bool true, σ9) := by
  rw [f4_eq]
  have hk0 : Kept' σ.next σ σ := ⟨Nat.le_refl _, fun _ _ => rfl⟩
  obtain ⟨σ1, g1, s1⟩ := awake_spec L (k + 2) (by omega) σ
  have hk1 := hk0.step s1 (by simp)
  rw [g1, bnd_some, asB_b, not_true, br_false]
  obtain ⟨x, hx, hx2⟩ := few_spec L (k + 5) (by omega) hH hk1
  rw [hx, bnd_some, asB_b]
  cases x with
  | false =>
    obtain ⟨σ2, g2, _⟩ := awake_spec L (k + 2) (by omega) σ1
    rw [not_false, br_true, g2, bnd_some, asB_b]
    exact ⟨σ2, rfl⟩
  | true =>
    have hlen := hx2 rfl
    have hm : 1 ≤ mx 1 (mn a0 1152921504606846975) ∧ mx 1 (mn a0 1152921504606846975) ≤ 1152921504606846975 := by unfold mx mn; repeat' split <;> omega
    rw [not_true, br_false, f17_eq, bnd_some, asP_p, f18_eq, bnd_some, asP_p, show ∀ x : Addr, (some x).isNone = false from fun _ => rfl, br_false]
    generalize mx 1 (mn a0 1152921504606846975) = f at hm
    have s2 : Same σ1 (σ1.new (.own [.int .i64 f, .slice none 0 0, .int .i64 0, .int .i64 0] 58)) [] := Same.new _ _ _
    have hS2 : Stg (σ1.new (.own [.int .i64 f, .slice none 0 0, .int .i64 0, .int .i64 0] 58)) σ1.next [σ1.next] f [] 0 0 := ⟨⟨[], none, 0, rfl, by simp, by rw [get_new_same]; rfl, Row.nil _ _ _ _⟩, by simp⟩
    have n2 : (σ1.new (.own [.int .i64 f, .slice none 0 0, .int .i64 0, .int .i64 0] 58)).next = σ1.next + 1 := rfl
    generalize σ1.new (.own [.int .i64 f, .slice none 0 0, .int .i64 0, .int .i64 0] 58) = σ2 at s2 hS2 n2
    have s3 : Same σ2 (σ2.new (.own [.int .i64 f, .int .i64 0, .int .i64 0, .slice none 0 0] 50)) [] := Same.new _ _ _
    have hR3 : Ref (σ2.new (.own [.int .i64 f, .int .i64 0, .int .i64 0, .slice none 0 0] 50)) σ2.next [σ2.next] f [] 0 0 := ⟨⟨[], none, 0, rfl, by simp, by rw [get_new_same]; rfl, Row.nil _ _ _ _⟩, by simp⟩
    have n3 : (σ2.new (.own [.int .i64 f, .int .i64 0, .int .i64 0, .slice none 0 0] 50)).next = σ2.next + 1 := rfl
    generalize σ2.new (.own [.int .i64 f, .int .i64 0, .int .i64 0, .slice none 0 0] 50) = σ3 at s3 hR3 n3
    have hO1 : Owns σ σ1 [] := ⟨hk1, by simp, by simp⟩
    have hO2 : Owns σ σ2 [[σ1.next]] := hO1.more s2 (fun q hq => by simp at hq; subst hq; omega)
    have hO3 : Owns σ σ3 [[σ2.next], [σ1.next]] := hO2.more s3 (fun q hq => by simp at hq; subst hq; omega)
    exact plays L k hL hlen hH L 0 σ3 [σ1.next] [σ2.next] f [] 0 0 (by omega) (by omega) (hS2.idle s3) hR3 (hO3.pick [1, 0] (by decide)) (by omega) (by simp) (by simp) (by simp; omega)

end Go.AM.Sp
