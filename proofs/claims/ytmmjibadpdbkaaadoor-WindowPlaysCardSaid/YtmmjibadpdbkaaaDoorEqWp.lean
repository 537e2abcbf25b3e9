/-
  WHAT EACH FUNCTION DOES, word by word (printed).
-/
import Derived.Test.YtmmjibadpdbkaaaDoorAm0
import Derived.Test.YtmmjibadpdbkaaaDoorEnvWp
set_option linter.unusedVariables false
set_option linter.unusedSimpArgs false
set_option linter.unusedSectionVars false
namespace Go.AM.Wp
open Go.Proofs
/-! isobar/isobarlaw09.WindowPlays: 4; parameters [l] -/
theorem f4_eq (L k : Nat) (σ : St) (a0 : Option Addr) (a0n a0z : Nat) : evCall Go.Proofs.Tryd.prog Go.AM.Wp.env L (k + 1) 4 [.slice a0 a0n a0z] σ =
    AM.bnd (AM.evCall Proofs.Tryd.prog AM.Wp.env L k (5 : Nat) [] σ) fun v1 v2 =>
  AM.asB v1 fun v3 =>
    AM.br (!v3) (AM.bnd (AM.evCall Proofs.Tryd.prog AM.Wp.env L k (5 : Nat) [] v2) fun v4 v5 => AM.asB v4 fun v6 => some (Value.bool v6, v5))
      (AM.bnd (AM.evCall Proofs.Tryd.prog AM.Wp.env L k (14 : Nat) [Value.slice a0 a0n a0z] v2) fun v7 v8 =>
        AM.asB v7 fun v9 =>
          AM.br (!v9) (AM.bnd (AM.evCall Proofs.Tryd.prog AM.Wp.env L k (5 : Nat) [] v8) fun v10 v11 => AM.asB v10 fun v12 => some (Value.bool v12, v11))
            (AM.lpAt Proofs.Tryd.prog AM.Wp.env L k (4 : Nat) [true, true, true, true, true, false, true] [] L
              [((0 : Nat), Value.slice a0 a0n a0z), ((3 : Nat), Value.pointer (some { block := AM.St.next v8, off := (0 : Nat) })),
                ((4 : Nat), Value.pointer (some { block := AM.St.next (AM.St.new v8 (AM.Blk.own [Value.slice none (0 : Nat) (0 : Nat), Value.int IntKind.i64 (0 : Int), Value.int IntKind.i64 (0 : Int)] (44 : Nat))), off := (0 : Nat) })),
                ((5 : Nat),
                  Value.pointer
                    (some
                      {
                        block :=
                          AM.St.next
                            (AM.St.new (AM.St.new v8 (AM.Blk.own [Value.slice none (0 : Nat) (0 : Nat), Value.int IntKind.i64 (0 : Int), Value.int IntKind.i64 (0 : Int)] (44 : Nat)))
                              (AM.Blk.own [Value.slice none (0 : Nat) (0 : Nat), Value.int IntKind.i64 (0 : Int), Value.int IntKind.i64 (0 : Int)] (47 : Nat))),
                        off := (0 : Nat) })),
                ((6 : Nat), Value.slice none (0 : Nat) (0 : Nat)), ((30 : Nat), Value.int IntKind.i64 (↑a0n : Int)), ((31 : Nat), Value.int IntKind.i64 (0 : Int))]
              (AM.St.new
                (AM.St.new (AM.St.new v8 (AM.Blk.own [Value.slice none (0 : Nat) (0 : Nat), Value.int IntKind.i64 (0 : Int), Value.int IntKind.i64 (0 : Int)] (44 : Nat)))
                  (AM.Blk.own [Value.slice none (0 : Nat) (0 : Nat), Value.int IntKind.i64 (0 : Int), Value.int IntKind.i64 (0 : Int)] (47 : Nat)))
                (AM.Blk.own [Value.slice none (0 : Nat) (0 : Nat)] (49 : Nat))))) := by kernel_rfl
theorem f4_l7 (L k n : Nat) (σ : St) (s0 : Option Addr) (s0n s0z : Nat) (s3 o3 : Nat) (s4 o4 : Nat) (s5 o5 : Nat) (s6 : Option Addr) (s6n s6z : Nat) (s30 : Int) (s31 : Int) : lpAt Go.Proofs.Tryd.prog Go.AM.Wp.env L k 4 [true, true, true, true, true, false, true] [] (n + 1) [(0, .slice s0 s0n s0z), (3, .pointer (some ⟨s3, o3, none⟩)), (4, .pointer (some ⟨s4, o4, none⟩)), (5, .pointer (some ⟨s5, o5, none⟩)), (6, .slice s6 s6n s6z), (30, .int .i64 s30), (31, .int .i64 s31)] σ =
    AM.br (decide (s31 < s30))
  (AM.need (AM.inRange s31 (↑s0n : Int))
    (AM.adr s0 fun v1 v2 =>
      AM.St.lds σ v1 (v2 + Int.toNat s31 * (3 : Nat)) (3 : Nat) fun v3 =>
        AM.uncons v3 fun v4 v5 =>
          AM.asI IntKind.i64 v4 fun v6 =>
            AM.uncons v5 fun v7 v8 =>
              AM.asI IntKind.i64 v7 fun v9 =>
                AM.uncons v8 fun v10 v11 =>
                  AM.asS v10 fun v12 =>
                    AM.endl v11
                      (AM.St.put (AM.St.new σ (AM.Blk.own [Value.int IntKind.i64 (0 : Int), Value.int IntKind.i64 (0 : Int), Value.string { data := #[] }] (51 : Nat))) (AM.St.next σ) (0 : Nat)
                        [Value.int IntKind.i64 v6, Value.int IntKind.i64 v9, Value.string v12] fun v13 =>
                        AM.St.ld v13 (AM.St.next σ) (0 : Nat) fun v14 =>
                          AM.asI IntKind.i64 v14 fun v15 =>
                            AM.br (v15 == (1 : Int))
                              (AM.St.ld v13 (AM.St.next σ) (2 : Nat) fun v16 =>
                                AM.asS v16 fun v17 =>
                                  AM.bnd (AM.evCall Proofs.Tryd.prog AM.Wp.env L k (6 : Nat) [Value.pointer (some { block := s3, off := o3 }), Value.string v17] v13) fun v18 v19 =>
                                    AM.asT v18 fun v20 =>
                                      AM.endl v20
                                        (AM.St.ld v19 s4 (o4 + (0 : Nat)) fun v21 =>
                                          AM.asSl v21 fun v22 v23 v24 =>
                                            AM.St.ld v19 (AM.St.next σ) (2 : Nat) fun v25 =>
                                              AM.asS v25 fun v26 =>
                                                AM.St.ld (AM.St.new v19 (AM.Blk.own [Value.string v26] (9 : Nat))) s4 (o4 + (0 : Nat)) fun v27 =>
                                                  AM.asSl v27 fun v28 v29 v30 =>
                                                    AM.chk (Value.slice v28 v29 v30) (Value.slice v22 v23 v24)
                                                      (AM.St.row (AM.St.new v19 (AM.Blk.own [Value.string v26] (9 : Nat))) (some { block := AM.St.next v19, off := (0 : Nat) }) (1 : Nat) fun v31 =>
                                                        AM.grow (9 : Nat) (1 : Nat) (16 : Nat) v22 v23 v24 (1 : Nat) v31 (AM.St.new v19 (AM.Blk.own [Value.string v26] (9 : Nat))) fun v32 v33 v34 v35 =>
                                                          AM.St.put v35 s4 (o4 + (0 : Nat)) [Value.slice v32 v33 v34] fun v36 =>
                                                            AM.bnd (AM.evCall Proofs.Tryd.prog AM.Wp.env L k (7 : Nat) [Value.pointer (some { block := s3, off := o3 })] v36) fun v37 v38 =>
                                                              AM.asT v37 fun v39 =>
                                                                AM.uncons v39 fun v40 v41 =>
                                                                  AM.asI IntKind.i64 v40 fun v42 =>
                                                                    AM.uncons v41 fun v43 v44 =>
                                                                      AM.asI IntKind.i64 v43 fun v45 =>
                                                                        AM.uncons v44 fun v46 v47 =>
                                                                          AM.asI IntKind.i64 v46 fun v48 =>
                                                                            AM.endl v47
                                                                              (AM.St.ld v38 s4 (o4 + (0 : Nat)) fun v49 =>
                                                                                AM.asSl v49 fun v50 v51 v52 =>
                                                                                  AM.br (v42 != (↑v51 : Int)) (some (Value.bool false, v38))
                                                                                    (AM.St.ld v38 s4 (o4 + (1 : Nat)) fun v53 =>
                                                                                      AM.asI IntKind.i64 v53 fun v54 =>
                                                                                        AM.br (v45 != v54) (some (Value.bool false, v38))
                                                                                          (AM.St.ld v38 s4 (o4 + (2 : Nat)) fun v55 =>
                                                                                            AM.asI IntKind.i64 v55 fun v56 =>
                                                                                              AM.br (v48 != v56) (some (Value.bool false, v38))
                                                                                                (AM.bnd (AM.evCall Proofs.Tryd.prog AM.Wp.env L k (13 : Nat) [Value.pointer (some { block := s5, off := o5 })] v38) fun v57 v58 =>
                                                                                                  AM.asSl v57 fun v59 v60 v61 =>
                                                                                                    AM.bnd (AM.evCall Proofs.Tryd.prog AM.Wp.env L k (21 : Nat) [Value.slice v59 v60 v61, Value.slice s6 s6n s6z] v58) fun v62 v63 =>
                                                                                                      AM.asB v62 fun v64 =>
                                                                                                        AM.br (!v64) (some (Value.bool false, v63))
                                                                                                          (AM.lpAt Proofs.Tryd.prog AM.Wp.env L k (4 : Nat) [true, true, true, true, true, false, true] [] n
                                                                                                            [((0 : Nat), Value.slice s0 s0n s0z), ((3 : Nat), Value.pointer (some { block := s3, off := o3 })),
                                                                                                              ((4 : Nat), Value.pointer (some { block := s4, off := o4 })), ((5 : Nat), Value.pointer (some { block := s5, off := o5 })),
                                                                                                              ((6 : Nat), Value.slice s6 s6n s6z), ((30 : Nat), Value.int IntKind.i64 s30),
                                                                                                              ((31 : Nat), Value.int IntKind.i64 (IntKind.wrap IntKind.i64 (s31 + (1 : Int))))]
                                                                                                            v63))))))))
                              (AM.br (v15 == (2 : Int))
                                (AM.bnd (AM.evCall Proofs.Tryd.prog AM.Wp.env L k (8 : Nat) [Value.pointer (some { block := s3, off := o3 })] v13) fun v65 v66 =>
                                  AM.asSl v65 fun v67 v68 v69 =>
                                    AM.bnd (AM.evCall Proofs.Tryd.prog AM.Wp.env L k (16 : Nat) [Value.slice v67 v68 v69] v66) fun v70 v71 =>
                                      AM.asSl v70 fun v72 v73 v74 =>
                                        AM.bnd (AM.evCall Proofs.Tryd.prog AM.Wp.env L k (17 : Nat) [Value.pointer (some { block := s4, off := o4 })] v71) fun v75 v76 =>
                                          AM.asSl v75 fun v77 v78 v79 =>
                                            AM.bnd (AM.evCall Proofs.Tryd.prog AM.Wp.env L k (15 : Nat) [Value.slice v72 v73 v74, Value.slice v77 v78 v79] v76) fun v80 v81 =>
                                              AM.asB v80 fun v82 =>
                                                AM.br (!v82) (some (Value.bool false, v81))
                                                  (AM.bnd (AM.evCall Proofs.Tryd.prog AM.Wp.env L k (7 : Nat) [Value.pointer (some { block := s3, off := o3 })] v81) fun v83 v84 =>
                                                    AM.asT v83 fun v85 =>
                                                      AM.uncons v85 fun v86 v87 =>
                                                        AM.asI IntKind.i64 v86 fun v88 =>
                                                          AM.uncons v87 fun v89 v90 =>
                                                            AM.asI IntKind.i64 v89 fun v91 =>
                                                              AM.uncons v90 fun v92 v93 =>
                                                                AM.asI IntKind.i64 v92 fun v94 =>
                                                                  AM.endl v93
                                                                    (AM.St.ld v84 s4 (o4 + (0 : Nat)) fun v95 =>
                                                                      AM.asSl v95 fun v96 v97 v98 =>
                                                                        AM.br (v88 != (↑v97 : Int)) (some (Value.bool false, v84))
                                                                          (AM.St.ld v84 s4 (o4 + (1 : Nat)) fun v99 =>
                                                                            AM.asI IntKind.i64 v99 fun v100 =>
                                                                              AM.br (v91 != v100) (some (Value.bool false, v84))
                                                                                (AM.St.ld v84 s4 (o4 + (2 : Nat)) fun v101 =>
                                                                                  AM.asI IntKind.i64 v101 fun v102 =>
                                                                                    AM.br (v94 != v102) (some (Value.bool false, v84))
                                                                                      (AM.bnd (AM.evCall Proofs.Tryd.prog AM.Wp.env L k (13 : Nat) [Value.pointer (some { block := s5, off := o5 })] v84) fun v103 v104 =>
                                                                                        AM.asSl v103 fun v105 v106 v107 =>
                                                                                          AM.bnd (AM.evCall Proofs.Tryd.prog AM.Wp.env L k (21 : Nat) [Value.slice v105 v106 v107, Value.slice s6 s6n s6z] v104) fun v108 v109 =>
                                                                                            AM.asB v108 fun v110 =>
                                                                                              AM.br (!v110) (some (Value.bool false, v109))
                                                                                                (AM.lpAt Proofs.Tryd.prog AM.Wp.env L k (4 : Nat) [true, true, true, true, true, false, true] [] n
                                                                                                  [((0 : Nat), Value.slice s0 s0n s0z), ((3 : Nat), Value.pointer (some { block := s3, off := o3 })),
                                                                                                    ((4 : Nat), Value.pointer (some { block := s4, off := o4 })), ((5 : Nat), Value.pointer (some { block := s5, off := o5 })),
                                                                                                    ((6 : Nat), Value.slice s6 s6n s6z), ((30 : Nat), Value.int IntKind.i64 s30),
                                                                                                    ((31 : Nat), Value.int IntKind.i64 (IntKind.wrap IntKind.i64 (s31 + (1 : Int))))]
                                                                                                  v109)))))))
                                (AM.br (v15 == (3 : Int))
                                  (AM.bnd (AM.evCall Proofs.Tryd.prog AM.Wp.env L k (9 : Nat) [Value.pointer (some { block := s3, off := o3 })] v13) fun v111 v112 =>
                                    AM.asSl v111 fun v113 v114 v115 =>
                                      AM.bnd (AM.evCall Proofs.Tryd.prog AM.Wp.env L k (16 : Nat) [Value.slice v113 v114 v115] v112) fun v116 v117 =>
                                        AM.asSl v116 fun v118 v119 v120 =>
                                          AM.bnd (AM.evCall Proofs.Tryd.prog AM.Wp.env L k (18 : Nat) [Value.pointer (some { block := s4, off := o4 })] v117) fun v121 v122 =>
                                            AM.asSl v121 fun v123 v124 v125 =>
                                              AM.bnd (AM.evCall Proofs.Tryd.prog AM.Wp.env L k (15 : Nat) [Value.slice v118 v119 v120, Value.slice v123 v124 v125] v122) fun v126 v127 =>
                                                AM.asB v126 fun v128 =>
                                                  AM.br (!v128) (some (Value.bool false, v127))
                                                    (AM.bnd (AM.evCall Proofs.Tryd.prog AM.Wp.env L k (7 : Nat) [Value.pointer (some { block := s3, off := o3 })] v127) fun v129 v130 =>
                                                      AM.asT v129 fun v131 =>
                                                        AM.uncons v131 fun v132 v133 =>
                                                          AM.asI IntKind.i64 v132 fun v134 =>
                                                            AM.uncons v133 fun v135 v136 =>
                                                              AM.asI IntKind.i64 v135 fun v137 =>
                                                                AM.uncons v136 fun v138 v139 =>
                                                                  AM.asI IntKind.i64 v138 fun v140 =>
                                                                    AM.endl v139
                                                                      (AM.St.ld v130 s4 (o4 + (0 : Nat)) fun v141 =>
                                                                        AM.asSl v141 fun v142 v143 v144 =>
                                                                          AM.br (v134 != (↑v143 : Int)) (some (Value.bool false, v130))
                                                                            (AM.St.ld v130 s4 (o4 + (1 : Nat)) fun v145 =>
                                                                              AM.asI IntKind.i64 v145 fun v146 =>
                                                                                AM.br (v137 != v146) (some (Value.bool false, v130))
                                                                                  (AM.St.ld v130 s4 (o4 + (2 : Nat)) fun v147 =>
                                                                                    AM.asI IntKind.i64 v147 fun v148 =>
                                                                                      AM.br (v140 != v148) (some (Value.bool false, v130))
                                                                                        (AM.bnd (AM.evCall Proofs.Tryd.prog AM.Wp.env L k (13 : Nat) [Value.pointer (some { block := s5, off := o5 })] v130) fun v149 v150 =>
                                                                                          AM.asSl v149 fun v151 v152 v153 =>
                                                                                            AM.bnd (AM.evCall Proofs.Tryd.prog AM.Wp.env L k (21 : Nat) [Value.slice v151 v152 v153, Value.slice s6 s6n s6z] v150) fun v154 v155 =>
                                                                                              AM.asB v154 fun v156 =>
                                                                                                AM.br (!v156) (some (Value.bool false, v155))
                                                                                                  (AM.lpAt Proofs.Tryd.prog AM.Wp.env L k (4 : Nat) [true, true, true, true, true, false, true] [] n
                                                                                                    [((0 : Nat), Value.slice s0 s0n s0z), ((3 : Nat), Value.pointer (some { block := s3, off := o3 })),
                                                                                                      ((4 : Nat), Value.pointer (some { block := s4, off := o4 })), ((5 : Nat), Value.pointer (some { block := s5, off := o5 })),
                                                                                                      ((6 : Nat), Value.slice s6 s6n s6z), ((30 : Nat), Value.int IntKind.i64 s30),
                                                                                                      ((31 : Nat), Value.int IntKind.i64 (IntKind.wrap IntKind.i64 (s31 + (1 : Int))))]
                                                                                                    v155)))))))
                                  (AM.br (v15 == (4 : Int))
                                    (AM.St.ld v13 (AM.St.next σ) (1 : Nat) fun v157 =>
                                      AM.asI IntKind.i64 v157 fun v158 =>
                                        AM.bnd (AM.evCall Proofs.Tryd.prog AM.Wp.env L k (11 : Nat) [Value.pointer (some { block := s3, off := o3 }), Value.int IntKind.i64 v158] v13) fun v159 v160 =>
                                          AM.bnd (AM.evCall Proofs.Tryd.prog AM.Wp.env L k (19 : Nat) [v159, Value.string { data := #[(119 : UInt8), (105 : UInt8), (110 : UInt8), (100 : UInt8), (111 : UInt8), (119 : UInt8)] }] v160)
                                            fun v161 v162 =>
                                            AM.asT v161 fun v163 =>
                                              AM.uncons v163 fun v164 v165 =>
                                                AM.asI IntKind.i64 v164 fun v166 =>
                                                  AM.uncons v165 fun v167 v168 =>
                                                    AM.asB v167 fun v169 =>
                                                      AM.endl v168
                                                        (AM.bnd (AM.evCall Proofs.Tryd.prog AM.Wp.env L k (10 : Nat) [v159] v162) fun v170 v171 =>
                                                          AM.asI IntKind.i64 v170 fun v172 =>
                                                            AM.St.ld v171 (AM.St.next σ) (1 : Nat) fun v173 =>
                                                              AM.asI IntKind.i64 v173 fun v174 =>
                                                                AM.St.ld v162 (AM.St.next σ) (1 : Nat) fun v175 =>
                                                                  AM.asI IntKind.i64 v175 fun v176 =>
                                                                    AM.chk (Value.int IntKind.i64 v176) (Value.int IntKind.i64 v174)
                                                                      (AM.bnd (AM.evCall Proofs.Tryd.prog AM.Wp.env L k (20 : Nat) [Value.pointer (some { block := s4, off := o4 }), Value.int IntKind.i64 v174] v171) fun v177 v178 =>
                                                                        AM.asI IntKind.i64 v177 fun v179 =>
                                                                          AM.br (v172 != v179) (some (Value.bool false, v178))
                                                                            (AM.eqNil v159 fun v180 =>
                                                                              AM.br (!v169 == !v180) (some (Value.bool false, v178))
                                                                                (AM.br v169
                                                                                  (AM.St.ld v178 (AM.St.next σ) (1 : Nat) fun v181 =>
                                                                                    AM.asI IntKind.i64 v181 fun v182 =>
                                                                                      AM.br (v166 != v182) (some (Value.bool false, v178))
                                                                                        (AM.bnd (AM.evCall Proofs.Tryd.prog AM.Wp.env L k (7 : Nat) [Value.pointer (some { block := s3, off := o3 })] v178) fun v183 v184 =>
                                                                                          AM.asT v183 fun v185 =>
                                                                                            AM.uncons v185 fun v186 v187 =>
                                                                                              AM.asI IntKind.i64 v186 fun v188 =>
                                                                                                AM.uncons v187 fun v189 v190 =>
                                                                                                  AM.asI IntKind.i64 v189 fun v191 =>
                                                                                                    AM.uncons v190 fun v192 v193 =>
                                                                                                      AM.asI IntKind.i64 v192 fun v194 =>
                                                                                                        AM.endl v193
                                                                                                          (AM.St.ld v184 s4 (o4 + (0 : Nat)) fun v195 =>
                                                                                                            AM.asSl v195 fun v196 v197 v198 =>
                                                                                                              AM.br (v188 != (↑v197 : Int)) (some (Value.bool false, v184))
                                                                                                                (AM.St.ld v184 s4 (o4 + (1 : Nat)) fun v199 =>
                                                                                                                  AM.asI IntKind.i64 v199 fun v200 =>
                                                                                                                    AM.br (v191 != v200) (some (Value.bool false, v184))
                                                                                                                      (AM.St.ld v184 s4 (o4 + (2 : Nat)) fun v201 =>
                                                                                                                        AM.asI IntKind.i64 v201 fun v202 =>
                                                                                                                          AM.br (v194 != v202) (some (Value.bool false, v184))
                                                                                                                            (AM.bnd (AM.evCall Proofs.Tryd.prog AM.Wp.env L k (13 : Nat) [Value.pointer (some { block := s5, off := o5 })] v184)
                                                                                                                              fun v203 v204 =>
                                                                                                                              AM.asSl v203 fun v205 v206 v207 =>
                                                                                                                                AM.bnd
                                                                                                                                  (AM.evCall Proofs.Tryd.prog AM.Wp.env L k (21 : Nat) [Value.slice v205 v206 v207, Value.slice s6 s6n s6z]
                                                                                                                                    v204)
                                                                                                                                  fun v208 v209 =>
                                                                                                                                  AM.asB v208 fun v210 =>
                                                                                                                                    AM.br (!v210) (some (Value.bool false, v209))
                                                                                                                                      (AM.lpAt Proofs.Tryd.prog AM.Wp.env L k (4 : Nat) [true, true, true, true, true, false, true] [] n
                                                                                                                                        [((0 : Nat), Value.slice s0 s0n s0z), ((3 : Nat), Value.pointer (some { block := s3, off := o3 })),
                                                                                                                                          ((4 : Nat), Value.pointer (some { block := s4, off := o4 })),
                                                                                                                                          ((5 : Nat), Value.pointer (some { block := s5, off := o5 })), ((6 : Nat), Value.slice s6 s6n s6z),
                                                                                                                                          ((30 : Nat), Value.int IntKind.i64 s30),
                                                                                                                                          ((31 : Nat), Value.int IntKind.i64 (IntKind.wrap IntKind.i64 (s31 + (1 : Int))))]
                                                                                                                                        v209)))))))
                                                                                  (AM.bnd (AM.evCall Proofs.Tryd.prog AM.Wp.env L k (7 : Nat) [Value.pointer (some { block := s3, off := o3 })] v178) fun v211 v212 =>
                                                                                    AM.asT v211 fun v213 =>
                                                                                      AM.uncons v213 fun v214 v215 =>
                                                                                        AM.asI IntKind.i64 v214 fun v216 =>
                                                                                          AM.uncons v215 fun v217 v218 =>
                                                                                            AM.asI IntKind.i64 v217 fun v219 =>
                                                                                              AM.uncons v218 fun v220 v221 =>
                                                                                                AM.asI IntKind.i64 v220 fun v222 =>
                                                                                                  AM.endl v221
                                                                                                    (AM.St.ld v212 s4 (o4 + (0 : Nat)) fun v223 =>
                                                                                                      AM.asSl v223 fun v224 v225 v226 =>
                                                                                                        AM.br (v216 != (↑v225 : Int)) (some (Value.bool false, v212))
                                                                                                          (AM.St.ld v212 s4 (o4 + (1 : Nat)) fun v227 =>
                                                                                                            AM.asI IntKind.i64 v227 fun v228 =>
                                                                                                              AM.br (v219 != v228) (some (Value.bool false, v212))
                                                                                                                (AM.St.ld v212 s4 (o4 + (2 : Nat)) fun v229 =>
                                                                                                                  AM.asI IntKind.i64 v229 fun v230 =>
                                                                                                                    AM.br (v222 != v230) (some (Value.bool false, v212))
                                                                                                                      (AM.bnd (AM.evCall Proofs.Tryd.prog AM.Wp.env L k (13 : Nat) [Value.pointer (some { block := s5, off := o5 })] v212)
                                                                                                                        fun v231 v232 =>
                                                                                                                        AM.asSl v231 fun v233 v234 v235 =>
                                                                                                                          AM.bnd (AM.evCall Proofs.Tryd.prog AM.Wp.env L k (21 : Nat) [Value.slice v233 v234 v235, Value.slice s6 s6n s6z] v232)
                                                                                                                            fun v236 v237 =>
                                                                                                                            AM.asB v236 fun v238 =>
                                                                                                                              AM.br (!v238) (some (Value.bool false, v237))
                                                                                                                                (AM.lpAt Proofs.Tryd.prog AM.Wp.env L k (4 : Nat) [true, true, true, true, true, false, true] [] n
                                                                                                                                  [((0 : Nat), Value.slice s0 s0n s0z), ((3 : Nat), Value.pointer (some { block := s3, off := o3 })),
                                                                                                                                    ((4 : Nat), Value.pointer (some { block := s4, off := o4 })),
                                                                                                                                    ((5 : Nat), Value.pointer (some { block := s5, off := o5 })), ((6 : Nat), Value.slice s6 s6n s6z),
                                                                                                                                    ((30 : Nat), Value.int IntKind.i64 s30),
                                                                                                                                    ((31 : Nat), Value.int IntKind.i64 (IntKind.wrap IntKind.i64 (s31 + (1 : Int))))]
                                                                                                                                  v237)))))))))))
                                    (AM.br (v15 == (5 : Int))
                                      (AM.St.ld v13 (AM.St.next σ) (1 : Nat) fun v239 =>
                                        AM.asI IntKind.i64 v239 fun v240 =>
                                          AM.br (v240 == IntKind.wrap IntKind.i64 ((↑s6n : Int) + (1 : Int)))
                                            (AM.St.ld v13 (AM.St.next σ) (2 : Nat) fun v241 =>
                                              AM.asS v241 fun v242 =>
                                                AM.St.row (AM.St.new v13 (AM.Blk.own [Value.string v242] (9 : Nat))) (some { block := AM.St.next v13, off := (0 : Nat) }) (1 : Nat) fun v243 =>
                                                  AM.grow (9 : Nat) (1 : Nat) (16 : Nat) s6 s6n s6z (1 : Nat) v243 (AM.St.new v13 (AM.Blk.own [Value.string v242] (9 : Nat))) fun v244 v245 v246 v247 =>
                                                    AM.St.ld v247 (AM.St.next σ) (1 : Nat) fun v248 =>
                                                      AM.asI IntKind.i64 v248 fun v249 =>
                                                        AM.St.ld v247 (AM.St.next σ) (2 : Nat) fun v250 =>
                                                          AM.asS v250 fun v251 =>
                                                            AM.need true
                                                              (AM.bnd (AM.evCall Proofs.Tryd.prog AM.Wp.env L k (12 : Nat) [Value.pointer (some { block := s5, off := o5 }), Value.agg #[Value.int IntKind.i64 v249, Value.string v251]] v247)
                                                                fun v252 v253 =>
                                                                AM.asI IntKind.i64 v252 fun v254 =>
                                                                  AM.br (v254 != (↑v245 : Int)) (some (Value.bool false, v253))
                                                                    (AM.bnd (AM.evCall Proofs.Tryd.prog AM.Wp.env L k (7 : Nat) [Value.pointer (some { block := s3, off := o3 })] v253) fun v255 v256 =>
                                                                      AM.asT v255 fun v257 =>
                                                                        AM.uncons v257 fun v258 v259 =>
                                                                          AM.asI IntKind.i64 v258 fun v260 =>
                                                                            AM.uncons v259 fun v261 v262 =>
                                                                              AM.asI IntKind.i64 v261 fun v263 =>
                                                                                AM.uncons v262 fun v264 v265 =>
                                                                                  AM.asI IntKind.i64 v264 fun v266 =>
                                                                                    AM.endl v265
                                                                                      (AM.St.ld v256 s4 (o4 + (0 : Nat)) fun v267 =>
                                                                                        AM.asSl v267 fun v268 v269 v270 =>
                                                                                          AM.br (v260 != (↑v269 : Int)) (some (Value.bool false, v256))
                                                                                            (AM.St.ld v256 s4 (o4 + (1 : Nat)) fun v271 =>
                                                                                              AM.asI IntKind.i64 v271 fun v272 =>
                                                                                                AM.br (v263 != v272) (some (Value.bool false, v256))
                                                                                                  (AM.St.ld v256 s4 (o4 + (2 : Nat)) fun v273 =>
                                                                                                    AM.asI IntKind.i64 v273 fun v274 =>
                                                                                                      AM.br (v266 != v274) (some (Value.bool false, v256))
                                                                                                        (AM.bnd (AM.evCall Proofs.Tryd.prog AM.Wp.env L k (13 : Nat) [Value.pointer (some { block := s5, off := o5 })] v256) fun v275 v276 =>
                                                                                                          AM.asSl v275 fun v277 v278 v279 =>
                                                                                                            AM.bnd (AM.evCall Proofs.Tryd.prog AM.Wp.env L k (21 : Nat) [Value.slice v277 v278 v279, Value.slice v244 v245 v246] v276)
                                                                                                              fun v280 v281 =>
                                                                                                              AM.asB v280 fun v282 =>
                                                                                                                AM.br (!v282) (some (Value.bool false, v281))
                                                                                                                  (AM.lpAt Proofs.Tryd.prog AM.Wp.env L k (4 : Nat) [true, true, true, true, true, false, true] [] n
                                                                                                                    [((0 : Nat), Value.slice s0 s0n s0z), ((3 : Nat), Value.pointer (some { block := s3, off := o3 })),
                                                                                                                      ((4 : Nat), Value.pointer (some { block := s4, off := o4 })),
                                                                                                                      ((5 : Nat), Value.pointer (some { block := s5, off := o5 })), ((6 : Nat), Value.slice v244 v245 v246),
                                                                                                                      ((30 : Nat), Value.int IntKind.i64 s30), ((31 : Nat), Value.int IntKind.i64 (IntKind.wrap IntKind.i64 (s31 + (1 : Int))))]
                                                                                                                    v281))))))))
                                            (AM.St.ld v13 (AM.St.next σ) (1 : Nat) fun v283 =>
                                              AM.asI IntKind.i64 v283 fun v284 =>
                                                AM.St.ld v13 (AM.St.next σ) (2 : Nat) fun v285 =>
                                                  AM.asS v285 fun v286 =>
                                                    AM.need true
                                                      (AM.bnd (AM.evCall Proofs.Tryd.prog AM.Wp.env L k (12 : Nat) [Value.pointer (some { block := s5, off := o5 }), Value.agg #[Value.int IntKind.i64 v284, Value.string v286]] v13)
                                                        fun v287 v288 =>
                                                        AM.asI IntKind.i64 v287 fun v289 =>
                                                          AM.br (v289 != (↑s6n : Int)) (some (Value.bool false, v288))
                                                            (AM.bnd (AM.evCall Proofs.Tryd.prog AM.Wp.env L k (7 : Nat) [Value.pointer (some { block := s3, off := o3 })] v288) fun v290 v291 =>
                                                              AM.asT v290 fun v292 =>
                                                                AM.uncons v292 fun v293 v294 =>
                                                                  AM.asI IntKind.i64 v293 fun v295 =>
                                                                    AM.uncons v294 fun v296 v297 =>
                                                                      AM.asI IntKind.i64 v296 fun v298 =>
                                                                        AM.uncons v297 fun v299 v300 =>
                                                                          AM.asI IntKind.i64 v299 fun v301 =>
                                                                            AM.endl v300
                                                                              (AM.St.ld v291 s4 (o4 + (0 : Nat)) fun v302 =>
                                                                                AM.asSl v302 fun v303 v304 v305 =>
                                                                                  AM.br (v295 != (↑v304 : Int)) (some (Value.bool false, v291))
                                                                                    (AM.St.ld v291 s4 (o4 + (1 : Nat)) fun v306 =>
                                                                                      AM.asI IntKind.i64 v306 fun v307 =>
                                                                                        AM.br (v298 != v307) (some (Value.bool false, v291))
                                                                                          (AM.St.ld v291 s4 (o4 + (2 : Nat)) fun v308 =>
                                                                                            AM.asI IntKind.i64 v308 fun v309 =>
                                                                                              AM.br (v301 != v309) (some (Value.bool false, v291))
                                                                                                (AM.bnd (AM.evCall Proofs.Tryd.prog AM.Wp.env L k (13 : Nat) [Value.pointer (some { block := s5, off := o5 })] v291) fun v310 v311 =>
                                                                                                  AM.asSl v310 fun v312 v313 v314 =>
                                                                                                    AM.bnd (AM.evCall Proofs.Tryd.prog AM.Wp.env L k (21 : Nat) [Value.slice v312 v313 v314, Value.slice s6 s6n s6z] v311) fun v315 v316 =>
                                                                                                      AM.asB v315 fun v317 =>
                                                                                                        AM.br (!v317) (some (Value.bool false, v316))
                                                                                                          (AM.lpAt Proofs.Tryd.prog AM.Wp.env L k (4 : Nat) [true, true, true, true, true, false, true] [] n
                                                                                                            [((0 : Nat), Value.slice s0 s0n s0z), ((3 : Nat), Value.pointer (some { block := s3, off := o3 })),
                                                                                                              ((4 : Nat), Value.pointer (some { block := s4, off := o4 })), ((5 : Nat), Value.pointer (some { block := s5, off := o5 })),
                                                                                                              ((6 : Nat), Value.slice s6 s6n s6z), ((30 : Nat), Value.int IntKind.i64 s30),
                                                                                                              ((31 : Nat), Value.int IntKind.i64 (IntKind.wrap IntKind.i64 (s31 + (1 : Int))))]
                                                                                                            v316)))))))))
                                      (AM.bnd (AM.evCall Proofs.Tryd.prog AM.Wp.env L k (7 : Nat) [Value.pointer (some { block := s3, off := o3 })] v13) fun v318 v319 =>
                                        AM.asT v318 fun v320 =>
                                          AM.uncons v320 fun v321 v322 =>
                                            AM.asI IntKind.i64 v321 fun v323 =>
                                              AM.uncons v322 fun v324 v325 =>
                                                AM.asI IntKind.i64 v324 fun v326 =>
                                                  AM.uncons v325 fun v327 v328 =>
                                                    AM.asI IntKind.i64 v327 fun v329 =>
                                                      AM.endl v328
                                                        (AM.St.ld v319 s4 (o4 + (0 : Nat)) fun v330 =>
                                                          AM.asSl v330 fun v331 v332 v333 =>
                                                            AM.br (v323 != (↑v332 : Int)) (some (Value.bool false, v319))
                                                              (AM.St.ld v319 s4 (o4 + (1 : Nat)) fun v334 =>
                                                                AM.asI IntKind.i64 v334 fun v335 =>
                                                                  AM.br (v326 != v335) (some (Value.bool false, v319))
                                                                    (AM.St.ld v319 s4 (o4 + (2 : Nat)) fun v336 =>
                                                                      AM.asI IntKind.i64 v336 fun v337 =>
                                                                        AM.br (v329 != v337) (some (Value.bool false, v319))
                                                                          (AM.bnd (AM.evCall Proofs.Tryd.prog AM.Wp.env L k (13 : Nat) [Value.pointer (some { block := s5, off := o5 })] v319) fun v338 v339 =>
                                                                            AM.asSl v338 fun v340 v341 v342 =>
                                                                              AM.bnd (AM.evCall Proofs.Tryd.prog AM.Wp.env L k (21 : Nat) [Value.slice v340 v341 v342, Value.slice s6 s6n s6z] v339) fun v343 v344 =>
                                                                                AM.asB v343 fun v345 =>
                                                                                  AM.br (!v345) (some (Value.bool false, v344))
                                                                                    (AM.lpAt Proofs.Tryd.prog AM.Wp.env L k (4 : Nat) [true, true, true, true, true, false, true] [] n
                                                                                      [((0 : Nat), Value.slice s0 s0n s0z), ((3 : Nat), Value.pointer (some { block := s3, off := o3 })),
                                                                                        ((4 : Nat), Value.pointer (some { block := s4, off := o4 })), ((5 : Nat), Value.pointer (some { block := s5, off := o5 })),
                                                                                        ((6 : Nat), Value.slice s6 s6n s6z), ((30 : Nat), Value.int IntKind.i64 s30),
                                                                                        ((31 : Nat), Value.int IntKind.i64 (IntKind.wrap IntKind.i64 (s31 + (1 : Int))))]
                                                                                      v344)))))))))))))
  (some (Value.bool true, σ)) := by kernel_rfl
/-! isobar/isobarlaw09.awake: 5; parameters [] -/
theorem f5_eq (L k : Nat) (σ : St)  : evCall Go.Proofs.Tryd.prog Go.AM.Wp.env L (k + 1) 5 [] σ =
    AM.bnd
  (AM.evCall Proofs.Tryd.prog AM.Wp.env L k (22 : Nat) [Value.pointer (some { block := AM.St.next σ, off := (0 : Nat) }), Value.int IntKind.i64 (7 : Int)]
    (AM.St.new σ (AM.Blk.own [Value.slice none (0 : Nat) (0 : Nat), Value.int IntKind.i64 (0 : Int), Value.int IntKind.i64 (0 : Int)] (63 : Nat))))
  fun v1 v2 =>
  AM.asT v1 fun v3 =>
    AM.endl v3
      (AM.bnd (AM.evCall Proofs.Tryd.prog AM.Wp.env L k (23 : Nat) [Value.pointer (some { block := AM.St.next σ, off := (0 : Nat) })] v2) fun v4 v5 =>
        AM.asSl v4 fun v6 v7 v8 =>
          AM.br ((↑v7 : Int) == (1 : Int))
            (AM.need (AM.inRange (0 : Int) (↑v7 : Int))
              (AM.adr v6 fun v9 v10 =>
                AM.St.ld (AM.St.new v5 (AM.Blk.own [Value.slice none (0 : Nat) (0 : Nat)] (69 : Nat))) v9 (v10 + (0 : Nat) + (0 : Nat)) fun v11 =>
                  AM.asI IntKind.i64 v11 fun v12 =>
                    AM.br (v12 == (1 : Int))
                      (AM.need (AM.inRange (0 : Int) (↑v7 : Int))
                        (AM.adr v6 fun v13 v14 =>
                          AM.St.ld (AM.St.new v5 (AM.Blk.own [Value.slice none (0 : Nat) (0 : Nat)] (69 : Nat))) v13 (v14 + (0 : Nat) + (1 : Nat)) fun v15 =>
                            AM.asI IntKind.i64 v15 fun v16 =>
                              AM.br (v16 == (7 : Int))
                                (AM.need (AM.inRange (0 : Int) (↑v7 : Int))
                                  (AM.adr v6 fun v17 v18 =>
                                    AM.St.lds (AM.St.new v5 (AM.Blk.own [Value.slice none (0 : Nat) (0 : Nat)] (69 : Nat))) v17 (v18 + (0 : Nat)) (2 : Nat) fun v19 =>
                                      AM.uncons v19 fun v20 v21 =>
                                        AM.asI IntKind.i64 v20 fun v22 =>
                                          AM.uncons v21 fun v23 v24 =>
                                            AM.asI IntKind.i64 v23 fun v25 =>
                                              AM.endl v24
                                                (AM.bnd
                                                  (AM.evCall Proofs.Tryd.prog AM.Wp.env L k (24 : Nat) [Value.pointer (some { block := AM.St.next v5, off := (0 : Nat) }), Value.agg #[Value.int IntKind.i64 v22, Value.int IntKind.i64 v25]]
                                                    (AM.St.new v5 (AM.Blk.own [Value.slice none (0 : Nat) (0 : Nat)] (69 : Nat))))
                                                  fun v26 v27 => AM.asI IntKind.i64 v26 fun v28 => some (Value.bool (v28 == (1 : Int)), v27))))
                                (some (Value.bool false, AM.St.new v5 (AM.Blk.own [Value.slice none (0 : Nat) (0 : Nat)] (69 : Nat))))))
                      (some (Value.bool false, AM.St.new v5 (AM.Blk.own [Value.slice none (0 : Nat) (0 : Nat)] (69 : Nat))))))
            (some (Value.bool false, AM.St.new v5 (AM.Blk.own [Value.slice none (0 : Nat) (0 : Nat)] (69 : Nat))))) := by kernel_rfl
/-! (*isobar/window.Sender[string]).Push: 6; parameters [s, x] -/
theorem f6_eq (L k : Nat) (σ : St) (a0 : Nat) (a1 : ByteArray) : evCall Go.Proofs.Tryd.prog Go.AM.Wp.env L (k + 1) 6 [.pointer (some ⟨a0, 0, none⟩), .string a1] σ =
    AM.St.ld σ a0 (0 : Nat) fun v1 =>
  AM.asSl v1 fun v2 v3 v4 =>
    AM.St.row (AM.St.new σ (AM.Blk.own [Value.string a1] (9 : Nat))) (some { block := AM.St.next σ, off := (0 : Nat) }) (1 : Nat) fun v5 =>
      AM.grow (9 : Nat) (1 : Nat) (16 : Nat) v2 v3 v4 (1 : Nat) v5 (AM.St.new σ (AM.Blk.own [Value.string a1] (9 : Nat))) fun v6 v7 v8 v9 => AM.St.put v9 a0 (0 : Nat) [Value.slice v6 v7 v8] fun v10 => some (Value.tuple #[], v10) := by kernel_rfl
/-! (*isobar/window.Sender[string]).Counts: 7; parameters [s] -/
theorem f7_eq (L k : Nat) (σ : St) (a0 : Nat) : evCall Go.Proofs.Tryd.prog Go.AM.Wp.env L (k + 1) 7 [.pointer (some ⟨a0, 0, none⟩)] σ =
    AM.St.ld σ a0 (0 : Nat) fun v1 =>
  AM.asSl v1 fun v2 v3 v4 =>
    AM.St.ld σ a0 (1 : Nat) fun v5 =>
      AM.asI IntKind.i64 v5 fun v6 => AM.St.ld σ a0 (2 : Nat) fun v7 => AM.asI IntKind.i64 v7 fun v8 => some (Value.tuple #[Value.int IntKind.i64 (↑v3 : Int), Value.int IntKind.i64 v6, Value.int IntKind.i64 v8], σ) := by kernel_rfl
/-! (*isobar/window.Sender[string]).Send: 8; parameters [s] -/
theorem f8_eq (L k : Nat) (σ : St) (a0 : Nat) : evCall Go.Proofs.Tryd.prog Go.AM.Wp.env L (k + 1) 8 [.pointer (some ⟨a0, 0, none⟩)] σ =
    AM.St.ld σ a0 (1 : Nat) fun v1 =>
  AM.asI IntKind.i64 v1 fun v2 =>
    AM.St.ld σ a0 (1 : Nat) fun v3 =>
      AM.asI IntKind.i64 v3 fun v4 =>
        AM.St.ld σ a0 (0 : Nat) fun v5 =>
          AM.asSl v5 fun v6 v7 v8 =>
            AM.St.ld σ a0 (2 : Nat) fun v9 =>
              AM.asI IntKind.i64 v9 fun v10 =>
                AM.St.put σ a0 (1 : Nat) [Value.int IntKind.i64 (AM.mx v4 (AM.mn (↑v7 : Int) (IntKind.wrap IntKind.i64 (v10 + (4 : Int)))))] fun v11 =>
                  AM.St.ld v11 a0 (1 : Nat) fun v12 =>
                    AM.asI IntKind.i64 v12 fun v13 =>
                      AM.bnd (AM.evCall Proofs.Tryd.prog AM.Wp.env L k (25 : Nat) [Value.pointer (some { block := a0, off := (0 : Nat) }), Value.int IntKind.i64 v2, Value.int IntKind.i64 v13] v11) fun v14 v15 =>
                        AM.asSl v14 fun v16 v17 v18 => some (Value.slice v16 v17 v18, v15) := by kernel_rfl
/-! (*isobar/window.Sender[string]).Resend: 9; parameters [s] -/
theorem f9_eq (L k : Nat) (σ : St) (a0 : Nat) : evCall Go.Proofs.Tryd.prog Go.AM.Wp.env L (k + 1) 9 [.pointer (some ⟨a0, 0, none⟩)] σ =
    AM.St.ld σ a0 (2 : Nat) fun v1 =>
  AM.asI IntKind.i64 v1 fun v2 =>
    AM.St.ld σ a0 (1 : Nat) fun v3 =>
      AM.asI IntKind.i64 v3 fun v4 =>
        AM.bnd (AM.evCall Proofs.Tryd.prog AM.Wp.env L k (25 : Nat) [Value.pointer (some { block := a0, off := (0 : Nat) }), Value.int IntKind.i64 v2, Value.int IntKind.i64 v4] σ) fun v5 v6 =>
          AM.asSl v5 fun v7 v8 v9 => some (Value.slice v7 v8 v9, v6) := by kernel_rfl
/-! isobar/fault.Code: 10; parameters [err] -/
theorem f10_eq (L k : Nat) (σ : St) (a0 : Value) : evCall Go.Proofs.Tryd.prog Go.AM.Wp.env L (k + 1) 10 [a0] σ =
    AM.bnd (AM.evCall Proofs.Tryd.prog AM.Wp.env L k (26 : Nat) [a0, Value.iface (75 : Nat) (Value.pointer (some { block := AM.St.next σ, off := (0 : Nat) }))] (AM.St.new σ (AM.Blk.own [Value.int IntKind.i64 (0 : Int)] (30 : Nat))))
  fun v1 v2 => AM.asB v1 fun v3 => AM.br (!v3) (some (Value.int IntKind.i64 (0 : Int), v2)) (AM.St.ld v2 (AM.St.next σ) (0 : Nat) fun v4 => AM.asI IntKind.i64 v4 fun v5 => some (Value.int IntKind.i64 v5, v2)) := by kernel_rfl
/-! (*isobar/window.Sender[string]).Ack: 11; parameters [s, n] -/
theorem f11_eq (L k : Nat) (σ : St) (a0 : Nat) (a1 : Int) : evCall Go.Proofs.Tryd.prog Go.AM.Wp.env L (k + 1) 11 [.pointer (some ⟨a0, 0, none⟩), .int .i64 a1] σ =
    AM.br (decide (a1 < (0 : Int)))
  (AM.bnd
    (AM.evCall Proofs.Tryd.prog AM.Wp.env L k (27 : Nat)
      [Value.string { data := #[(119 : UInt8), (105 : UInt8), (110 : UInt8), (100 : UInt8), (111 : UInt8), (119 : UInt8)] }, Value.int IntKind.i64 a1, Value.iface (30 : Nat) (Value.int IntKind.i64 (5 : Int))] σ)
    fun v1 v2 => some (AM.pack [v1], v2))
  (AM.St.ld σ a0 (1 : Nat) fun v3 =>
    AM.asI IntKind.i64 v3 fun v4 =>
      AM.br (decide (a1 > v4))
        (AM.bnd
          (AM.evCall Proofs.Tryd.prog AM.Wp.env L k (27 : Nat)
            [Value.string { data := #[(119 : UInt8), (105 : UInt8), (110 : UInt8), (100 : UInt8), (111 : UInt8), (119 : UInt8)] }, Value.int IntKind.i64 a1, Value.iface (30 : Nat) (Value.int IntKind.i64 (5 : Int))] σ)
          fun v5 v6 => some (AM.pack [v5], v6))
        (AM.St.ld σ a0 (2 : Nat) fun v7 => AM.asI IntKind.i64 v7 fun v8 => AM.St.put σ a0 (2 : Nat) [Value.int IntKind.i64 (AM.mx v8 a1)] fun v9 => some (Value.nilIface, v9))) := by kernel_rfl
/-! (*isobar/window.Receiver[string]).Take: 12; parameters [r, p] -/
theorem f12_eq (L k : Nat) (σ : St) (a0 : Nat) (a1_0 : Int) (a1_1 : ByteArray) : evCall Go.Proofs.Tryd.prog Go.AM.Wp.env L (k + 1) 12 [.pointer (some ⟨a0, 0, none⟩), .agg [.int .i64 a1_0, .string a1_1].toArray] σ =
    AM.St.ld (AM.St.new σ (AM.Blk.own [Value.int IntKind.i64 a1_0, Value.string a1_1] (37 : Nat))) (AM.St.next σ) (0 : Nat) fun v1 =>
  AM.asI IntKind.i64 v1 fun v2 =>
    AM.St.ld (AM.St.new σ (AM.Blk.own [Value.int IntKind.i64 a1_0, Value.string a1_1] (37 : Nat))) a0 (0 : Nat) fun v3 =>
      AM.asSl v3 fun v4 v5 v6 =>
        AM.br (v2 == IntKind.wrap IntKind.i64 ((↑v5 : Int) + (1 : Int)))
          (AM.St.ld (AM.St.new σ (AM.Blk.own [Value.int IntKind.i64 a1_0, Value.string a1_1] (37 : Nat))) a0 (0 : Nat) fun v7 =>
            AM.asSl v7 fun v8 v9 v10 =>
              AM.St.ld (AM.St.new σ (AM.Blk.own [Value.int IntKind.i64 a1_0, Value.string a1_1] (37 : Nat))) (AM.St.next σ) (1 : Nat) fun v11 =>
                AM.asS v11 fun v12 =>
                  AM.St.ld (AM.St.new (AM.St.new σ (AM.Blk.own [Value.int IntKind.i64 a1_0, Value.string a1_1] (37 : Nat))) (AM.Blk.own [Value.string v12] (9 : Nat))) a0 (0 : Nat) fun v13 =>
                    AM.asSl v13 fun v14 v15 v16 =>
                      AM.chk (Value.slice v14 v15 v16) (Value.slice v8 v9 v10)
                        (AM.St.row (AM.St.new (AM.St.new σ (AM.Blk.own [Value.int IntKind.i64 a1_0, Value.string a1_1] (37 : Nat))) (AM.Blk.own [Value.string v12] (9 : Nat)))
                          (some { block := AM.St.next (AM.St.new σ (AM.Blk.own [Value.int IntKind.i64 a1_0, Value.string a1_1] (37 : Nat))), off := (0 : Nat) }) (1 : Nat) fun v17 =>
                          AM.grow (9 : Nat) (1 : Nat) (16 : Nat) v8 v9 v10 (1 : Nat) v17 (AM.St.new (AM.St.new σ (AM.Blk.own [Value.int IntKind.i64 a1_0, Value.string a1_1] (37 : Nat))) (AM.Blk.own [Value.string v12] (9 : Nat)))
                            fun v18 v19 v20 v21 => AM.St.put v21 a0 (0 : Nat) [Value.slice v18 v19 v20] fun v22 => AM.St.ld v22 a0 (0 : Nat) fun v23 => AM.asSl v23 fun v24 v25 v26 => some (Value.int IntKind.i64 (↑v25 : Int), v22)))
          (AM.St.ld (AM.St.new σ (AM.Blk.own [Value.int IntKind.i64 a1_0, Value.string a1_1] (37 : Nat))) a0 (0 : Nat) fun v27 =>
            AM.asSl v27 fun v28 v29 v30 => some (Value.int IntKind.i64 (↑v29 : Int), AM.St.new σ (AM.Blk.own [Value.int IntKind.i64 a1_0, Value.string a1_1] (37 : Nat)))) := by kernel_rfl
/-! (*isobar/window.Receiver[string]).List: 13; parameters [r] -/
theorem f13_eq (L k : Nat) (σ : St) (a0 : Nat) : evCall Go.Proofs.Tryd.prog Go.AM.Wp.env L (k + 1) 13 [.pointer (some ⟨a0, 0, none⟩)] σ =
    AM.St.ld σ a0 (0 : Nat) fun v1 => AM.asSl v1 fun v2 v3 v4 => AM.bnd (AM.evCall Proofs.Tryd.prog AM.Wp.env L k (28 : Nat) [Value.slice v2 v3 v4] σ) fun v5 v6 => AM.asSl v5 fun v7 v8 v9 => some (Value.slice v7 v8 v9, v6) := by kernel_rfl
/-! isobar/isobarlaw09.few: 14; parameters [l] -/
theorem f14_eq (L k : Nat) (σ : St) (a0 : Option Addr) (a0n a0z : Nat) : evCall Go.Proofs.Tryd.prog Go.AM.Wp.env L (k + 1) 14 [.slice a0 a0n a0z] σ =
    AM.br (decide ((↑a0n : Int) > (300 : Int))) (some (Value.bool false, σ))
  (AM.lpAt Proofs.Tryd.prog AM.Wp.env L k (14 : Nat) [true, true, false, true] [] L [((0 : Nat), Value.slice a0 a0n a0z), ((8 : Nat), Value.int IntKind.i64 (↑a0n : Int)), ((9 : Nat), Value.int IntKind.i64 (0 : Int))] σ) := by kernel_rfl
theorem f14_l4 (L k n : Nat) (σ : St) (s0 : Option Addr) (s0n s0z : Nat) (s8 : Int) (s9 : Int) : lpAt Go.Proofs.Tryd.prog Go.AM.Wp.env L k 14 [true, true, false, true] [] (n + 1) [(0, .slice s0 s0n s0z), (8, .int .i64 s8), (9, .int .i64 s9)] σ =
    AM.br (decide (s9 < s8))
  (AM.need (AM.inRange s9 (↑s0n : Int))
    (AM.adr s0 fun v1 v2 =>
      AM.St.ld σ v1 (v2 + Int.toNat s9 * (3 : Nat) + (2 : Nat)) fun v3 =>
        AM.asS v3 fun v4 =>
          AM.br (decide ((↑(ByteArray.size v4) : Int) > (100 : Int))) (some (Value.bool false, σ))
            (AM.lpAt Proofs.Tryd.prog AM.Wp.env L k (14 : Nat) [true, true, false, true] [] n
              [((0 : Nat), Value.slice s0 s0n s0z), ((8 : Nat), Value.int IntKind.i64 s8), ((9 : Nat), Value.int IntKind.i64 (IntKind.wrap IntKind.i64 (s9 + (1 : Int))))] σ)))
  (some (Value.bool true, σ)) := by kernel_rfl
/-! isobar/isobarref09.Same: 15; parameters [a, b] -/
theorem f15_eq (L k : Nat) (σ : St) (a0 : Option Addr) (a0n a0z : Nat) (a1 : Option Addr) (a1n a1z : Nat) : evCall Go.Proofs.Tryd.prog Go.AM.Wp.env L (k + 1) 15 [.slice a0 a0n a0z, .slice a1 a1n a1z] σ =
    AM.br ((↑a0n : Int) != (↑a1n : Int)) (some (Value.bool false, σ))
  (AM.lpAt Proofs.Tryd.prog AM.Wp.env L k (15 : Nat) [true, true, false, true] [] L
    [((0 : Nat), Value.slice a0 a0n a0z), ((1 : Nat), Value.slice a1 a1n a1z), ((12 : Nat), Value.int IntKind.i64 (↑a0n : Int)), ((13 : Nat), Value.int IntKind.i64 (0 : Int))] σ) := by kernel_rfl
theorem f15_l4 (L k n : Nat) (σ : St) (s0 : Option Addr) (s0n s0z : Nat) (s1 : Option Addr) (s1n s1z : Nat) (s12 : Int) (s13 : Int) : lpAt Go.Proofs.Tryd.prog Go.AM.Wp.env L k 15 [true, true, false, true] [] (n + 1) [(0, .slice s0 s0n s0z), (1, .slice s1 s1n s1z), (12, .int .i64 s12), (13, .int .i64 s13)] σ =
    AM.br (decide (s13 < s12))
  (AM.need (AM.inRange s13 (↑s0n : Int))
    (AM.adr s0 fun v1 v2 =>
      AM.St.lds σ v1 (v2 + Int.toNat s13 * (2 : Nat)) (2 : Nat) fun v3 =>
        AM.uncons v3 fun v4 v5 =>
          AM.asI IntKind.i64 v4 fun v6 =>
            AM.uncons v5 fun v7 v8 =>
              AM.asS v7 fun v9 =>
                AM.endl v8
                  (AM.need (AM.inRange s13 (↑s1n : Int))
                    (AM.adr s1 fun v10 v11 =>
                      AM.St.lds σ v10 (v11 + Int.toNat s13 * (2 : Nat)) (2 : Nat) fun v12 =>
                        AM.uncons v12 fun v13 v14 =>
                          AM.asI IntKind.i64 v13 fun v15 =>
                            AM.uncons v14 fun v16 v17 =>
                              AM.asS v16 fun v18 =>
                                AM.endl v17
                                  (AM.br (!(v6 == v15 && (v9 == v18 && true))) (some (Value.bool false, σ))
                                    (AM.lpAt Proofs.Tryd.prog AM.Wp.env L k (15 : Nat) [true, true, false, true] [] n
                                      [((0 : Nat), Value.slice s0 s0n s0z), ((1 : Nat), Value.slice s1 s1n s1z), ((12 : Nat), Value.int IntKind.i64 s12), ((13 : Nat), Value.int IntKind.i64 (IntKind.wrap IntKind.i64 (s13 + (1 : Int))))]
                                      σ))))))
  (some (Value.bool true, σ)) := by kernel_rfl
/-! isobar/isobarlaw09.list: 16; parameters [l] -/
theorem f16_eq (L k : Nat) (σ : St) (a0 : Option Addr) (a0n a0z : Nat) : evCall Go.Proofs.Tryd.prog Go.AM.Wp.env L (k + 1) 16 [.slice a0 a0n a0z] σ =
    AM.lpAt Proofs.Tryd.prog AM.Wp.env L k (16 : Nat) [true, true, false, true] [] L
  [((0 : Nat), Value.slice a0 a0n a0z), ((3 : Nat), Value.slice none (0 : Nat) (0 : Nat)), ((6 : Nat), Value.int IntKind.i64 (↑a0n : Int)), ((7 : Nat), Value.int IntKind.i64 (0 : Int))] σ := by kernel_rfl
theorem f16_l3 (L k n : Nat) (σ : St) (s0 : Option Addr) (s0n s0z : Nat) (s3 : Option Addr) (s3n s3z : Nat) (s6 : Int) (s7 : Int) : lpAt Go.Proofs.Tryd.prog Go.AM.Wp.env L k 16 [true, true, false, true] [] (n + 1) [(0, .slice s0 s0n s0z), (3, .slice s3 s3n s3z), (6, .int .i64 s6), (7, .int .i64 s7)] σ =
    AM.br (decide (s7 < s6))
  (AM.need (AM.inRange s7 (↑s0n : Int))
    (AM.adr s0 fun v1 v2 =>
      AM.St.lds σ v1 (v2 + Int.toNat s7 * (2 : Nat)) (2 : Nat) fun v3 =>
        AM.uncons v3 fun v4 v5 =>
          AM.asI IntKind.i64 v4 fun v6 =>
            AM.uncons v5 fun v7 v8 =>
              AM.asS v7 fun v9 =>
                AM.endl v8
                  (AM.St.row (AM.St.new σ (AM.Blk.own [Value.int IntKind.i64 v6, Value.string v9] (78 : Nat))) (some { block := AM.St.next σ, off := (0 : Nat) }) (2 : Nat) fun v10 =>
                    AM.grow (78 : Nat) (2 : Nat) (24 : Nat) s3 s3n s3z (1 : Nat) v10 (AM.St.new σ (AM.Blk.own [Value.int IntKind.i64 v6, Value.string v9] (78 : Nat))) fun v11 v12 v13 v14 =>
                      AM.lpAt Proofs.Tryd.prog AM.Wp.env L k (16 : Nat) [true, true, false, true] [] n
                        [((0 : Nat), Value.slice s0 s0n s0z), ((3 : Nat), Value.slice v11 v12 v13), ((6 : Nat), Value.int IntKind.i64 s6), ((7 : Nat), Value.int IntKind.i64 (IntKind.wrap IntKind.i64 (s7 + (1 : Int))))] v14)))
  (some (Value.slice s3 s3n s3z, σ)) := by kernel_rfl
/-! (*isobar/isobarref09.Sender).Send: 17; parameters [s] -/
theorem f17_eq (L k : Nat) (σ : St) (a0 : Nat) : evCall Go.Proofs.Tryd.prog Go.AM.Wp.env L (k + 1) 17 [.pointer (some ⟨a0, 0, none⟩)] σ =
    AM.lpAt Proofs.Tryd.prog AM.Wp.env L k (17 : Nat) [true, true, false] [] L [((0 : Nat), Value.pointer (some { block := a0, off := (0 : Nat) })), ((3 : Nat), Value.slice none (0 : Nat) (0 : Nat))] σ := by kernel_rfl
theorem f17_l2 (L k n : Nat) (σ : St) (s0 o0 : Nat) (s3 : Option Addr) (s3n s3z : Nat) : lpAt Go.Proofs.Tryd.prog Go.AM.Wp.env L k 17 [true, true, false] [] (n + 1) [(0, .pointer (some ⟨s0, o0, none⟩)), (3, .slice s3 s3n s3z)] σ =
    AM.St.ld σ s0 (o0 + (1 : Nat)) fun v1 =>
  AM.asI IntKind.i64 v1 fun v2 =>
    AM.St.ld σ s0 (o0 + (0 : Nat)) fun v3 =>
      AM.asSl v3 fun v4 v5 v6 =>
        AM.br (decide (v2 < (↑v5 : Int)))
          (AM.St.ld σ s0 (o0 + (1 : Nat)) fun v7 =>
            AM.asI IntKind.i64 v7 fun v8 =>
              AM.St.ld σ s0 (o0 + (2 : Nat)) fun v9 =>
                AM.asI IntKind.i64 v9 fun v10 =>
                  AM.br (decide (IntKind.wrap IntKind.i64 (v8 - v10) < (4 : Int)))
                    (AM.St.ld σ s0 (o0 + (1 : Nat)) fun v11 =>
                      AM.asI IntKind.i64 v11 fun v12 =>
                        AM.St.put σ s0 (o0 + (1 : Nat)) [Value.int IntKind.i64 (IntKind.wrap IntKind.i64 (v12 + (1 : Int)))] fun v13 =>
                          AM.St.ld v13 s0 (o0 + (1 : Nat)) fun v14 =>
                            AM.asI IntKind.i64 v14 fun v15 =>
                              AM.St.ld v13 s0 (o0 + (0 : Nat)) fun v16 =>
                                AM.asSl v16 fun v17 v18 v19 =>
                                  AM.St.ld v13 s0 (o0 + (1 : Nat)) fun v20 =>
                                    AM.asI IntKind.i64 v20 fun v21 =>
                                      AM.need (AM.inRange (IntKind.wrap IntKind.i64 (v21 - (1 : Int))) (↑v18 : Int))
                                        (AM.adr v17 fun v22 v23 =>
                                          AM.St.ld v13 v22 (v23 + Int.toNat (IntKind.wrap IntKind.i64 (v21 - (1 : Int))) * (1 : Nat)) fun v24 =>
                                            AM.asS v24 fun v25 =>
                                              AM.need true
                                                (AM.need true
                                                  (AM.need true
                                                    (AM.St.row (AM.St.new v13 (AM.Blk.own [Value.int IntKind.i64 v15, Value.string v25] (78 : Nat))) (some { block := AM.St.next v13, off := (0 : Nat) }) (2 : Nat) fun v26 =>
                                                      AM.grow (78 : Nat) (2 : Nat) (24 : Nat) s3 s3n s3z (1 : Nat) v26 (AM.St.new v13 (AM.Blk.own [Value.int IntKind.i64 v15, Value.string v25] (78 : Nat))) fun v27 v28 v29 v30 =>
                                                        AM.lpAt Proofs.Tryd.prog AM.Wp.env L k (17 : Nat) [true, true, false] [] n [((0 : Nat), Value.pointer (some { block := s0, off := o0 })), ((3 : Nat), Value.slice v27 v28 v29)] v30)))))
                    (some (Value.slice s3 s3n s3z, σ)))
          (some (Value.slice s3 s3n s3z, σ)) := by kernel_rfl
/-! (*isobar/isobarref09.Sender).Resend: 18; parameters [s] -/
theorem f18_eq (L k : Nat) (σ : St) (a0 : Nat) : evCall Go.Proofs.Tryd.prog Go.AM.Wp.env L (k + 1) 18 [.pointer (some ⟨a0, 0, none⟩)] σ =
    AM.St.ld σ a0 (2 : Nat) fun v1 =>
  AM.asI IntKind.i64 v1 fun v2 =>
    AM.lpAt Proofs.Tryd.prog AM.Wp.env L k (18 : Nat) [true, true, false, true] [] L
      [((0 : Nat), Value.pointer (some { block := a0, off := (0 : Nat) })), ((3 : Nat), Value.slice none (0 : Nat) (0 : Nat)), ((4 : Nat), Value.int IntKind.i64 v2)] σ := by kernel_rfl
theorem f18_l3 (L k n : Nat) (σ : St) (s0 o0 : Nat) (s3 : Option Addr) (s3n s3z : Nat) (s4 : Int) : lpAt Go.Proofs.Tryd.prog Go.AM.Wp.env L k 18 [true, true, false, true] [] (n + 1) [(0, .pointer (some ⟨s0, o0, none⟩)), (3, .slice s3 s3n s3z), (4, .int .i64 s4)] σ =
    AM.St.ld σ s0 (o0 + (1 : Nat)) fun v1 =>
  AM.asI IntKind.i64 v1 fun v2 =>
    AM.br (decide (s4 < v2))
      (AM.St.ld σ s0 (o0 + (0 : Nat)) fun v3 =>
        AM.asSl v3 fun v4 v5 v6 =>
          AM.need (AM.inRange s4 (↑v5 : Int))
            (AM.adr v4 fun v7 v8 =>
              AM.St.ld σ v7 (v8 + Int.toNat s4 * (1 : Nat)) fun v9 =>
                AM.asS v9 fun v10 =>
                  AM.need true
                    (AM.need true
                      (AM.need true
                        (AM.St.row (AM.St.new σ (AM.Blk.own [Value.int IntKind.i64 (IntKind.wrap IntKind.i64 (s4 + (1 : Int))), Value.string v10] (78 : Nat))) (some { block := AM.St.next σ, off := (0 : Nat) }) (2 : Nat) fun v11 =>
                          AM.grow (78 : Nat) (2 : Nat) (24 : Nat) s3 s3n s3z (1 : Nat) v11 (AM.St.new σ (AM.Blk.own [Value.int IntKind.i64 (IntKind.wrap IntKind.i64 (s4 + (1 : Int))), Value.string v10] (78 : Nat))) fun v12 v13 v14 v15 =>
                            AM.lpAt Proofs.Tryd.prog AM.Wp.env L k (18 : Nat) [true, true, false, true] [] n
                              [((0 : Nat), Value.pointer (some { block := s0, off := o0 })), ((3 : Nat), Value.slice v12 v13 v14), ((4 : Nat), Value.int IntKind.i64 (IntKind.wrap IntKind.i64 (s4 + (1 : Int))))] v15)))))
      (some (Value.slice s3 s3n s3z, σ)) := by kernel_rfl
/-! isobar/fault.First: 19; parameters [err, op] -/
theorem f19_eq (L k : Nat) (σ : St) (a0 : Value) (a1 : ByteArray) : evCall Go.Proofs.Tryd.prog Go.AM.Wp.env L (k + 1) 19 [a0, .string a1] σ =
    AM.bnd (AM.evCall Proofs.Tryd.prog AM.Wp.env L k (29 : Nat) [a0] σ) fun v1 v2 =>
  AM.asSl v1 fun v3 v4 v5 =>
    AM.lpAt Proofs.Tryd.prog AM.Wp.env L k (19 : Nat) [true, false, true] [] L [((1 : Nat), Value.string a1), ((9 : Nat), Value.slice v3 v4 v5), ((10 : Nat), Value.int IntKind.i64 (↑v4 : Int)), ((11 : Nat), Value.int IntKind.i64 (0 : Int))]
      v2 := by kernel_rfl
theorem f19_l2 (L k n : Nat) (σ : St) (s1 : ByteArray) (s9 : Option Addr) (s9n s9z : Nat) (s10 : Int) (s11 : Int) : lpAt Go.Proofs.Tryd.prog Go.AM.Wp.env L k 19 [true, false, true] [] (n + 1) [(1, .string s1), (9, .slice s9 s9n s9z), (10, .int .i64 s10), (11, .int .i64 s11)] σ =
    AM.br (decide (s11 < s10))
  (AM.need (AM.inRange s11 (↑s9n : Int))
    (AM.adr s9 fun v1 v2 =>
      AM.St.ld σ v1 (v2 + Int.toNat s11 * (1 : Nat)) fun v3 =>
        AM.asP v3 fun v4 =>
          AM.adr v4 fun v5 v6 =>
            AM.St.ld σ v5 (v6 + (0 : Nat)) fun v7 =>
              AM.asS v7 fun v8 =>
                AM.br (ByteArray.toList v8 == ByteArray.toList s1) (AM.adr v4 fun v9 v10 => AM.St.ld σ v9 (v10 + (1 : Nat)) fun v11 => AM.asI IntKind.i64 v11 fun v12 => some (Value.tuple #[Value.int IntKind.i64 v12, Value.bool true], σ))
                  (AM.lpAt Proofs.Tryd.prog AM.Wp.env L k (19 : Nat) [true, false, true] [] n
                    [((1 : Nat), Value.string s1), ((9 : Nat), Value.slice s9 s9n s9z), ((10 : Nat), Value.int IntKind.i64 s10), ((11 : Nat), Value.int IntKind.i64 (IntKind.wrap IntKind.i64 (s11 + (1 : Int))))] σ)))
  (some (Value.tuple #[Value.int IntKind.i64 (0 : Int), Value.bool false], σ)) := by kernel_rfl
/-! (*isobar/isobarref09.Sender).Ack: 20; parameters [s, n] -/
theorem f20_eq (L k : Nat) (σ : St) (a0 : Nat) (a1 : Int) : evCall Go.Proofs.Tryd.prog Go.AM.Wp.env L (k + 1) 20 [.pointer (some ⟨a0, 0, none⟩), .int .i64 a1] σ =
    AM.br (decide (a1 < (0 : Int))) (some (Value.int IntKind.i64 (5 : Int), σ))
  (AM.St.ld σ a0 (1 : Nat) fun v1 =>
    AM.asI IntKind.i64 v1 fun v2 =>
      AM.br (decide (a1 > v2)) (some (Value.int IntKind.i64 (5 : Int), σ))
        (AM.St.ld σ a0 (2 : Nat) fun v3 => AM.asI IntKind.i64 v3 fun v4 => AM.St.put σ a0 (2 : Nat) [Value.int IntKind.i64 (AM.mx v4 a1)] fun v5 => some (Value.int IntKind.i64 (0 : Int), v5))) := by kernel_rfl
/-! isobar/isobarref03.Same: 21; parameters [a, b] -/
theorem f21_eq (L k : Nat) (σ : St) (a0 : Option Addr) (a0n a0z : Nat) (a1 : Option Addr) (a1n a1z : Nat) : evCall Go.Proofs.Tryd.prog Go.AM.Wp.env L (k + 1) 21 [.slice a0 a0n a0z, .slice a1 a1n a1z] σ =
    AM.br ((↑a0n : Int) != (↑a1n : Int)) (some (Value.bool false, σ))
  (AM.lpAt Proofs.Tryd.prog AM.Wp.env L k (21 : Nat) [true, true, false, true] [] L
    [((0 : Nat), Value.slice a0 a0n a0z), ((1 : Nat), Value.slice a1 a1n a1z), ((12 : Nat), Value.int IntKind.i64 (↑a0n : Int)), ((13 : Nat), Value.int IntKind.i64 (0 : Int))] σ) := by kernel_rfl
theorem f21_l4 (L k n : Nat) (σ : St) (s0 : Option Addr) (s0n s0z : Nat) (s1 : Option Addr) (s1n s1z : Nat) (s12 : Int) (s13 : Int) : lpAt Go.Proofs.Tryd.prog Go.AM.Wp.env L k 21 [true, true, false, true] [] (n + 1) [(0, .slice s0 s0n s0z), (1, .slice s1 s1n s1z), (12, .int .i64 s12), (13, .int .i64 s13)] σ =
    AM.br (decide (s13 < s12))
  (AM.need (AM.inRange s13 (↑s0n : Int))
    (AM.adr s0 fun v1 v2 =>
      AM.St.ld σ v1 (v2 + Int.toNat s13 * (1 : Nat)) fun v3 =>
        AM.asS v3 fun v4 =>
          AM.need (AM.inRange s13 (↑s1n : Int))
            (AM.adr s1 fun v5 v6 =>
              AM.St.ld σ v5 (v6 + Int.toNat s13 * (1 : Nat)) fun v7 =>
                AM.asS v7 fun v8 =>
                  AM.br (!ByteArray.toList v4 == ByteArray.toList v8) (some (Value.bool false, σ))
                    (AM.lpAt Proofs.Tryd.prog AM.Wp.env L k (21 : Nat) [true, true, false, true] [] n
                      [((0 : Nat), Value.slice s0 s0n s0z), ((1 : Nat), Value.slice s1 s1n s1z), ((12 : Nat), Value.int IntKind.i64 s12), ((13 : Nat), Value.int IntKind.i64 (IntKind.wrap IntKind.i64 (s13 + (1 : Int))))] σ))))
  (some (Value.bool true, σ)) := by kernel_rfl
/-! (*isobar/window.Sender[int]).Push: 22; parameters [s, x] -/
theorem f22_eq (L k : Nat) (σ : St) (a0 : Nat) (a1 : Int) : evCall Go.Proofs.Tryd.prog Go.AM.Wp.env L (k + 1) 22 [.pointer (some ⟨a0, 0, none⟩), .int .i64 a1] σ =
    AM.St.ld σ a0 (0 : Nat) fun v1 =>
  AM.asSl v1 fun v2 v3 v4 =>
    AM.St.row (AM.St.new σ (AM.Blk.own [Value.int IntKind.i64 a1] (3 : Nat))) (some { block := AM.St.next σ, off := (0 : Nat) }) (1 : Nat) fun v5 =>
      AM.grow (3 : Nat) (1 : Nat) (8 : Nat) v2 v3 v4 (1 : Nat) v5 (AM.St.new σ (AM.Blk.own [Value.int IntKind.i64 a1] (3 : Nat))) fun v6 v7 v8 v9 => AM.St.put v9 a0 (0 : Nat) [Value.slice v6 v7 v8] fun v10 => some (Value.tuple #[], v10) := by kernel_rfl
/-! (*isobar/window.Sender[int]).Send: 23; parameters [s] -/
theorem f23_eq (L k : Nat) (σ : St) (a0 : Nat) : evCall Go.Proofs.Tryd.prog Go.AM.Wp.env L (k + 1) 23 [.pointer (some ⟨a0, 0, none⟩)] σ =
    AM.St.ld σ a0 (1 : Nat) fun v1 =>
  AM.asI IntKind.i64 v1 fun v2 =>
    AM.St.ld σ a0 (1 : Nat) fun v3 =>
      AM.asI IntKind.i64 v3 fun v4 =>
        AM.St.ld σ a0 (0 : Nat) fun v5 =>
          AM.asSl v5 fun v6 v7 v8 =>
            AM.St.ld σ a0 (2 : Nat) fun v9 =>
              AM.asI IntKind.i64 v9 fun v10 =>
                AM.St.put σ a0 (1 : Nat) [Value.int IntKind.i64 (AM.mx v4 (AM.mn (↑v7 : Int) (IntKind.wrap IntKind.i64 (v10 + (4 : Int)))))] fun v11 =>
                  AM.St.ld v11 a0 (1 : Nat) fun v12 =>
                    AM.asI IntKind.i64 v12 fun v13 =>
                      AM.bnd (AM.evCall Proofs.Tryd.prog AM.Wp.env L k (30 : Nat) [Value.pointer (some { block := a0, off := (0 : Nat) }), Value.int IntKind.i64 v2, Value.int IntKind.i64 v13] v11) fun v14 v15 =>
                        AM.asSl v14 fun v16 v17 v18 => some (Value.slice v16 v17 v18, v15) := by kernel_rfl
/-! (*isobar/window.Receiver[int]).Take: 24; parameters [r, p] -/
theorem f24_eq (L k : Nat) (σ : St) (a0 : Nat) (a1_0 : Int) (a1_1 : Int) : evCall Go.Proofs.Tryd.prog Go.AM.Wp.env L (k + 1) 24 [.pointer (some ⟨a0, 0, none⟩), .agg [.int .i64 a1_0, .int .i64 a1_1].toArray] σ =
    AM.St.ld (AM.St.new σ (AM.Blk.own [Value.int IntKind.i64 a1_0, Value.int IntKind.i64 a1_1] (71 : Nat))) (AM.St.next σ) (0 : Nat) fun v1 =>
  AM.asI IntKind.i64 v1 fun v2 =>
    AM.St.ld (AM.St.new σ (AM.Blk.own [Value.int IntKind.i64 a1_0, Value.int IntKind.i64 a1_1] (71 : Nat))) a0 (0 : Nat) fun v3 =>
      AM.asSl v3 fun v4 v5 v6 =>
        AM.br (v2 == IntKind.wrap IntKind.i64 ((↑v5 : Int) + (1 : Int)))
          (AM.St.ld (AM.St.new σ (AM.Blk.own [Value.int IntKind.i64 a1_0, Value.int IntKind.i64 a1_1] (71 : Nat))) a0 (0 : Nat) fun v7 =>
            AM.asSl v7 fun v8 v9 v10 =>
              AM.St.ld (AM.St.new σ (AM.Blk.own [Value.int IntKind.i64 a1_0, Value.int IntKind.i64 a1_1] (71 : Nat))) (AM.St.next σ) (1 : Nat) fun v11 =>
                AM.asI IntKind.i64 v11 fun v12 =>
                  AM.St.ld (AM.St.new (AM.St.new σ (AM.Blk.own [Value.int IntKind.i64 a1_0, Value.int IntKind.i64 a1_1] (71 : Nat))) (AM.Blk.own [Value.int IntKind.i64 v12] (3 : Nat))) a0 (0 : Nat) fun v13 =>
                    AM.asSl v13 fun v14 v15 v16 =>
                      AM.chk (Value.slice v14 v15 v16) (Value.slice v8 v9 v10)
                        (AM.St.row (AM.St.new (AM.St.new σ (AM.Blk.own [Value.int IntKind.i64 a1_0, Value.int IntKind.i64 a1_1] (71 : Nat))) (AM.Blk.own [Value.int IntKind.i64 v12] (3 : Nat)))
                          (some { block := AM.St.next (AM.St.new σ (AM.Blk.own [Value.int IntKind.i64 a1_0, Value.int IntKind.i64 a1_1] (71 : Nat))), off := (0 : Nat) }) (1 : Nat) fun v17 =>
                          AM.grow (3 : Nat) (1 : Nat) (8 : Nat) v8 v9 v10 (1 : Nat) v17
                            (AM.St.new (AM.St.new σ (AM.Blk.own [Value.int IntKind.i64 a1_0, Value.int IntKind.i64 a1_1] (71 : Nat))) (AM.Blk.own [Value.int IntKind.i64 v12] (3 : Nat))) fun v18 v19 v20 v21 =>
                            AM.St.put v21 a0 (0 : Nat) [Value.slice v18 v19 v20] fun v22 => AM.St.ld v22 a0 (0 : Nat) fun v23 => AM.asSl v23 fun v24 v25 v26 => some (Value.int IntKind.i64 (↑v25 : Int), v22)))
          (AM.St.ld (AM.St.new σ (AM.Blk.own [Value.int IntKind.i64 a1_0, Value.int IntKind.i64 a1_1] (71 : Nat))) a0 (0 : Nat) fun v27 =>
            AM.asSl v27 fun v28 v29 v30 => some (Value.int IntKind.i64 (↑v29 : Int), AM.St.new σ (AM.Blk.own [Value.int IntKind.i64 a1_0, Value.int IntKind.i64 a1_1] (71 : Nat)))) := by kernel_rfl
/-! (*isobar/window.Sender[string]).packets: 25; parameters [s, from, to] -/
theorem f25_eq (L k : Nat) (σ : St) (a0 : Nat) (a1 : Int) (a2 : Int) : evCall Go.Proofs.Tryd.prog Go.AM.Wp.env L (k + 1) 25 [.pointer (some ⟨a0, 0, none⟩), .int .i64 a1, .int .i64 a2] σ =
    AM.lpAt Proofs.Tryd.prog AM.Wp.env L k (25 : Nat) [true, true, false, true] [] L
  [((0 : Nat), Value.pointer (some { block := a0, off := (0 : Nat) })), ((2 : Nat), Value.int IntKind.i64 a2), ((7 : Nat), Value.slice none (0 : Nat) (0 : Nat)), ((8 : Nat), Value.int IntKind.i64 a1)] σ := by kernel_rfl
theorem f25_l3 (L k n : Nat) (σ : St) (s0 o0 : Nat) (s2 : Int) (s7 : Option Addr) (s7n s7z : Nat) (s8 : Int) : lpAt Go.Proofs.Tryd.prog Go.AM.Wp.env L k 25 [true, true, false, true] [] (n + 1) [(0, .pointer (some ⟨s0, o0, none⟩)), (2, .int .i64 s2), (7, .slice s7 s7n s7z), (8, .int .i64 s8)] σ =
    AM.br (decide (s8 < s2))
  (AM.St.ld σ s0 (o0 + (0 : Nat)) fun v1 =>
    AM.asSl v1 fun v2 v3 v4 =>
      AM.need (AM.inRange s8 (↑v3 : Int))
        (AM.adr v2 fun v5 v6 =>
          AM.St.ld σ v5 (v6 + Int.toNat s8 * (1 : Nat)) fun v7 =>
            AM.asS v7 fun v8 =>
              AM.need true
                (AM.need true
                  (AM.need true
                    (AM.St.row (AM.St.new σ (AM.Blk.own [Value.int IntKind.i64 (IntKind.wrap IntKind.i64 (s8 + (1 : Int))), Value.string v8] (37 : Nat))) (some { block := AM.St.next σ, off := (0 : Nat) }) (2 : Nat) fun v9 =>
                      AM.grow (37 : Nat) (2 : Nat) (24 : Nat) s7 s7n s7z (1 : Nat) v9 (AM.St.new σ (AM.Blk.own [Value.int IntKind.i64 (IntKind.wrap IntKind.i64 (s8 + (1 : Int))), Value.string v8] (37 : Nat))) fun v10 v11 v12 v13 =>
                        AM.lpAt Proofs.Tryd.prog AM.Wp.env L k (25 : Nat) [true, true, false, true] [] n
                          [((0 : Nat), Value.pointer (some { block := s0, off := o0 })), ((2 : Nat), Value.int IntKind.i64 s2), ((7 : Nat), Value.slice v10 v11 v12),
                            ((8 : Nat), Value.int IntKind.i64 (IntKind.wrap IntKind.i64 (s8 + (1 : Int))))]
                          v13)))))
  (some (Value.slice s7 s7n s7z, σ)) := by kernel_rfl
/-! isobar/fault.Wrap: 27; parameters [op, at, err] -/
theorem f27_eq (L k : Nat) (σ : St) (a0 : ByteArray) (a1 : Int) (a2 : Value) : evCall Go.Proofs.Tryd.prog Go.AM.Wp.env L (k + 1) 27 [.string a0, .int .i64 a1, a2] σ =
    AM.eqNil a2 fun v1 =>
  AM.br v1 (some (Value.nilIface, σ))
    (AM.eqErr a2 (30 : Nat) IntKind.i64 (0 : Int) fun v2 =>
      AM.br v2 (some (Value.nilIface, σ))
        (AM.need true
          (AM.need (AM.oneCell a2) (AM.need true (some (Value.iface (81 : Nat) (Value.pointer (some { block := AM.St.next σ, off := (0 : Nat) })), AM.St.new σ (AM.Blk.own [Value.string a0, Value.int IntKind.i64 a1, a2] (83 : Nat)))))))) := by kernel_rfl
/-! slices.Clone[[]string,string]: 28; parameters [s] -/
theorem f28_eq (L k : Nat) (σ : St) (a0 : Option Addr) (a0n a0z : Nat) : evCall Go.Proofs.Tryd.prog Go.AM.Wp.env L (k + 1) 28 [.slice a0 a0n a0z] σ =
    AM.br (Option.isNone a0) (some (Value.slice none (0 : Nat) (0 : Nat), σ))
  (AM.St.row (AM.St.new σ (AM.Blk.own [] (9 : Nat))) a0 (a0n * (1 : Nat)) fun v1 =>
    AM.grow (9 : Nat) (1 : Nat) (16 : Nat) (some { block := AM.St.next σ, off := (0 : Nat) }) (0 : Nat) (1 : Nat) a0n v1 (AM.St.new σ (AM.Blk.own [] (9 : Nat))) fun v2 v3 v4 v5 => some (Value.slice v2 v3 v4, v5)) := by kernel_rfl
/-! isobar/fault.faults: 29; parameters [err] -/
theorem f29_eq (L k : Nat) (σ : St) (a0 : Value) : evCall Go.Proofs.Tryd.prog Go.AM.Wp.env L (k + 1) 29 [a0] σ =
    AM.lpAt Proofs.Tryd.prog AM.Wp.env L k (29 : Nat) [true, true, true, false] [] L [((0 : Nat), a0), ((3 : Nat), Value.slice none (0 : Nat) (0 : Nat)), ((4 : Nat), Value.pointer (some { block := AM.St.next σ, off := (0 : Nat) }))]
  (AM.St.new σ (AM.Blk.own [Value.pointer none] (81 : Nat))) := by kernel_rfl
theorem f29_l3 (L k n : Nat) (σ : St) (s0 : Value) (s3 : Option Addr) (s3n s3z : Nat) (s4 : Value) : lpAt Go.Proofs.Tryd.prog Go.AM.Wp.env L k 29 [true, true, true, false] [] (n + 1) [(0, s0), (3, .slice s3 s3n s3z), (4, s4)] σ =
    AM.bnd (AM.evCall Proofs.Tryd.prog AM.Wp.env L k (26 : Nat) [s0, Value.iface (97 : Nat) s4] σ) fun v1 v2 =>
  AM.asB v1 fun v3 =>
    AM.br v3
      (AM.asP s4 fun v4 =>
        AM.adr v4 fun v5 v6 =>
          AM.St.ld v2 v5 v6 fun v7 =>
            AM.asP v7 fun v8 =>
              AM.br (!Option.isNone v8)
                (AM.asP s4 fun v9 =>
                  AM.adr v9 fun v10 v11 =>
                    AM.St.ld v2 v10 v11 fun v12 =>
                      AM.asP v12 fun v13 =>
                        AM.St.row (AM.St.new v2 (AM.Blk.own [Value.pointer v13] (81 : Nat))) (some { block := AM.St.next v2, off := (0 : Nat) }) (1 : Nat) fun v14 =>
                          AM.grow (81 : Nat) (1 : Nat) (8 : Nat) s3 s3n s3z (1 : Nat) v14 (AM.St.new v2 (AM.Blk.own [Value.pointer v13] (81 : Nat))) fun v15 v16 v17 v18 =>
                            AM.asP s4 fun v19 =>
                              AM.adr v19 fun v20 v21 =>
                                AM.St.ld v18 v20 v21 fun v22 =>
                                  AM.asP v22 fun v23 =>
                                    AM.adr v23 fun v24 v25 =>
                                      AM.St.ld v18 v24 (v25 + (2 : Nat)) fun v26 =>
                                        AM.lpAt Proofs.Tryd.prog AM.Wp.env L k (29 : Nat) [true, true, true, false] [] n [((0 : Nat), v26), ((3 : Nat), Value.slice v15 v16 v17), ((4 : Nat), s4)] v18)
                (some (Value.slice s3 s3n s3z, v2)))
      (some (Value.slice s3 s3n s3z, v2)) := by kernel_rfl
/-! (*isobar/window.Sender[int]).packets: 30; parameters [s, from, to] -/
theorem f30_eq (L k : Nat) (σ : St) (a0 : Nat) (a1 : Int) (a2 : Int) : evCall Go.Proofs.Tryd.prog Go.AM.Wp.env L (k + 1) 30 [.pointer (some ⟨a0, 0, none⟩), .int .i64 a1, .int .i64 a2] σ =
    AM.lpAt Proofs.Tryd.prog AM.Wp.env L k (30 : Nat) [true, true, false, true] [] L
  [((0 : Nat), Value.pointer (some { block := a0, off := (0 : Nat) })), ((2 : Nat), Value.int IntKind.i64 a2), ((7 : Nat), Value.slice none (0 : Nat) (0 : Nat)), ((8 : Nat), Value.int IntKind.i64 a1)] σ := by kernel_rfl
theorem f30_l3 (L k n : Nat) (σ : St) (s0 o0 : Nat) (s2 : Int) (s7 : Option Addr) (s7n s7z : Nat) (s8 : Int) : lpAt Go.Proofs.Tryd.prog Go.AM.Wp.env L k 30 [true, true, false, true] [] (n + 1) [(0, .pointer (some ⟨s0, o0, none⟩)), (2, .int .i64 s2), (7, .slice s7 s7n s7z), (8, .int .i64 s8)] σ =
    AM.br (decide (s8 < s2))
  (AM.St.ld σ s0 (o0 + (0 : Nat)) fun v1 =>
    AM.asSl v1 fun v2 v3 v4 =>
      AM.need (AM.inRange s8 (↑v3 : Int))
        (AM.adr v2 fun v5 v6 =>
          AM.St.ld σ v5 (v6 + Int.toNat s8 * (1 : Nat)) fun v7 =>
            AM.asI IntKind.i64 v7 fun v8 =>
              AM.need true
                (AM.need true
                  (AM.need true
                    (AM.St.row (AM.St.new σ (AM.Blk.own [Value.int IntKind.i64 (IntKind.wrap IntKind.i64 (s8 + (1 : Int))), Value.int IntKind.i64 v8] (71 : Nat))) (some { block := AM.St.next σ, off := (0 : Nat) }) (2 : Nat) fun v9 =>
                      AM.grow (71 : Nat) (2 : Nat) (16 : Nat) s7 s7n s7z (1 : Nat) v9 (AM.St.new σ (AM.Blk.own [Value.int IntKind.i64 (IntKind.wrap IntKind.i64 (s8 + (1 : Int))), Value.int IntKind.i64 v8] (71 : Nat))) fun v10 v11 v12 v13 =>
                        AM.lpAt Proofs.Tryd.prog AM.Wp.env L k (30 : Nat) [true, true, false, true] [] n
                          [((0 : Nat), Value.pointer (some { block := s0, off := o0 })), ((2 : Nat), Value.int IntKind.i64 s2), ((7 : Nat), Value.slice v10 v11 v12),
                            ((8 : Nat), Value.int IntKind.i64 (IntKind.wrap IntKind.i64 (s8 + (1 : Int))))]
                          v13)))))
  (some (Value.slice s7 s7n s7z, σ)) := by kernel_rfl
end Go.AM.Wp
