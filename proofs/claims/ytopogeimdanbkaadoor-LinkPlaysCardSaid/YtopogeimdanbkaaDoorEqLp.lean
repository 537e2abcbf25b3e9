/-
  WHAT EACH FUNCTION DOES, word by word (printed).
-/
import Derived.Test.YtopogeimdanbkaaDoorAm0
import Derived.Test.YtopogeimdanbkaaDoorEnvLp
set_option linter.unusedVariables false
set_option linter.unusedSimpArgs false
set_option linter.unusedSectionVars false
namespace Go.AM.Lp
open Go.Proofs
/-! isobar/isobarlaw10.LinkPlays: 6; parameters [room, l] -/
theorem f6_eq (L k : Nat) (σ : St) (a0 : Int) (a1 : Option Addr) (a1n a1z : Nat) : evCall Go.Proofs.Tryd.prog Go.AM.Lp.env L (k + 1) 6 [.int .i64 a0, .slice a1 a1n a1z] σ =
    AM.bnd (AM.evCall Proofs.Tryd.prog AM.Lp.env L k (8 : Nat) [] σ) fun v1 v2 =>
  AM.asB v1 fun v3 =>
    AM.br (!v3) (AM.bnd (AM.evCall Proofs.Tryd.prog AM.Lp.env L k (8 : Nat) [] v2) fun v4 v5 => AM.asB v4 fun v6 => some (Value.bool v6, v5))
      (AM.bnd (AM.evCall Proofs.Tryd.prog AM.Lp.env L k (21 : Nat) [Value.slice a1 a1n a1z] v2) fun v7 v8 =>
        AM.asB v7 fun v9 =>
          AM.br (!v9) (AM.bnd (AM.evCall Proofs.Tryd.prog AM.Lp.env L k (8 : Nat) [] v8) fun v10 v11 => AM.asB v10 fun v12 => some (Value.bool v12, v11))
            (AM.bnd (AM.evCall Proofs.Tryd.prog AM.Lp.env L k (9 : Nat) [Value.int IntKind.i64 a0] v8) fun v13 v14 =>
              AM.asP v13 fun v15 =>
                AM.bnd (AM.evCall Proofs.Tryd.prog AM.Lp.env L k (22 : Nat) [Value.int IntKind.i64 a0] v14) fun v16 v17 =>
                  AM.asP v16 fun v18 =>
                    AM.br (Option.isNone v15) (some (Value.bool false, v17))
                      (AM.lpAt Proofs.Tryd.prog AM.Lp.env L k (6 : Nat) [true, true, true, true, false, true] [] L
                        [((1 : Nat), Value.slice a1 a1n a1z), ((5 : Nat), Value.pointer v15), ((6 : Nat), Value.pointer v18), ((33 : Nat), Value.int IntKind.i64 (↑a1n : Int)), ((34 : Nat), Value.int IntKind.i64 (0 : Int))] v17))) := by kernel_rfl
theorem f6_l7 (L k n : Nat) (σ : St) (s1 : Option Addr) (s1n s1z : Nat) (s5 o5 : Nat) (s6 o6 : Nat) (s33 : Int) (s34 : Int) : lpAt Go.Proofs.Tryd.prog Go.AM.Lp.env L k 6 [true, true, true, true, false, true] [] (n + 1) [(1, .slice s1 s1n s1z), (5, .pointer (some ⟨s5, o5, none⟩)), (6, .pointer (some ⟨s6, o6, none⟩)), (33, .int .i64 s33), (34, .int .i64 s34)] σ =
    AM.br (decide (s34 < s33))
  (AM.need (AM.inRange s34 (↑s1n : Int))
    (AM.adr s1 fun v1 v2 =>
      AM.St.lds σ v1 (v2 + Int.toNat s34 * (4 : Nat)) (4 : Nat) fun v3 =>
        AM.uncons v3 fun v4 v5 =>
          AM.asI IntKind.i64 v4 fun v6 =>
            AM.uncons v5 fun v7 v8 =>
              AM.asI IntKind.i64 v7 fun v9 =>
                AM.uncons v8 fun v10 v11 =>
                  AM.asS v10 fun v12 =>
                    AM.uncons v11 fun v13 v14 =>
                      AM.asB v13 fun v15 =>
                        AM.endl v14
                          (AM.St.put (AM.St.new σ (AM.Blk.own [Value.int IntKind.i64 (0 : Int), Value.int IntKind.i64 (0 : Int), Value.string { data := #[] }, Value.bool false] (48 : Nat))) (AM.St.next σ) (0 : Nat)
                            [Value.int IntKind.i64 v6, Value.int IntKind.i64 v9, Value.string v12, Value.bool v15] fun v16 =>
                            AM.St.ld v16 (AM.St.next σ) (1 : Nat) fun v17 =>
                              AM.asI IntKind.i64 v17 fun v18 =>
                                AM.St.ld v16 (AM.St.next σ) (0 : Nat) fun v19 =>
                                  AM.asI IntKind.i64 v19 fun v20 =>
                                    AM.br (v20 == (1 : Int))
                                      (AM.St.ld v16 s6 (o6 + (0 : Nat)) fun v21 =>
                                        AM.asSl v21 fun v22 v23 v24 =>
                                          AM.St.ld v16 (AM.St.next σ) (2 : Nat) fun v25 =>
                                            AM.asS v25 fun v26 =>
                                              AM.bnd (AM.evCall Proofs.Tryd.prog AM.Lp.env L k (10 : Nat) [Value.pointer (some { block := s5, off := o5 }), Value.string v26] v16) fun v27 v28 =>
                                                AM.St.ld v28 (AM.St.next σ) (2 : Nat) fun v29 =>
                                                  AM.asS v29 fun v30 =>
                                                    AM.St.ld v16 (AM.St.next σ) (2 : Nat) fun v31 =>
                                                      AM.asS v31 fun v32 =>
                                                        AM.chk (Value.string v32) (Value.string v30)
                                                          (AM.bnd (AM.evCall Proofs.Tryd.prog AM.Lp.env L k (23 : Nat) [Value.pointer (some { block := s6, off := o6 }), Value.string v30] v28) fun v33 v34 =>
                                                            AM.asI IntKind.i64 v33 fun v35 =>
                                                              AM.bnd (AM.evCall Proofs.Tryd.prog AM.Lp.env L k (29 : Nat) [v27, Value.string { data := #[(108 : UInt8), (105 : UInt8), (110 : UInt8), (107 : UInt8)] }] v34) fun v36 v37 =>
                                                                AM.asT v36 fun v38 =>
                                                                  AM.uncons v38 fun v39 v40 =>
                                                                    AM.asI IntKind.i64 v39 fun v41 =>
                                                                      AM.uncons v40 fun v42 v43 =>
                                                                        AM.asB v42 fun v44 =>
                                                                          AM.endl v43
                                                                            (AM.bnd (AM.evCall Proofs.Tryd.prog AM.Lp.env L k (11 : Nat) [v27] v37) fun v45 v46 =>
                                                                              AM.asI IntKind.i64 v45 fun v47 =>
                                                                                AM.br (v47 != v35) (some (Value.bool false, v46))
                                                                                  (AM.br (!v44 == (v35 != (0 : Int))) (some (Value.bool false, v46))
                                                                                    (AM.br v44
                                                                                      (AM.br (v41 != (↑v23 : Int)) (some (Value.bool false, v46))
                                                                                        (AM.bnd (AM.evCall Proofs.Tryd.prog AM.Lp.env L k (12 : Nat) [Value.pointer (some { block := s5, off := o5 })] v46) fun v48 v49 =>
                                                                                          AM.asI IntKind.i64 v48 fun v50 =>
                                                                                            AM.St.ld v49 s6 (o6 + (0 : Nat)) fun v51 =>
                                                                                              AM.asSl v51 fun v52 v53 v54 =>
                                                                                                AM.St.ld v46 s6 (o6 + (0 : Nat)) fun v55 =>
                                                                                                  AM.asSl v55 fun v56 v57 v58 =>
                                                                                                    AM.chk (Value.slice v56 v57 v58) (Value.slice v52 v53 v54)
                                                                                                      (AM.br (v50 != (↑v53 : Int)) (some (Value.bool false, v49))
                                                                                                        (AM.lpAt Proofs.Tryd.prog AM.Lp.env L k (6 : Nat) [true, true, true, true, false, true] [] n
                                                                                                          [((1 : Nat), Value.slice s1 s1n s1z), ((5 : Nat), Value.pointer (some { block := s5, off := o5 })),
                                                                                                            ((6 : Nat), Value.pointer (some { block := s6, off := o6 })), ((33 : Nat), Value.int IntKind.i64 s33),
                                                                                                            ((34 : Nat), Value.int IntKind.i64 (IntKind.wrap IntKind.i64 (s34 + (1 : Int))))]
                                                                                                          v49))))
                                                                                      (AM.bnd (AM.evCall Proofs.Tryd.prog AM.Lp.env L k (12 : Nat) [Value.pointer (some { block := s5, off := o5 })] v46) fun v59 v60 =>
                                                                                        AM.asI IntKind.i64 v59 fun v61 =>
                                                                                          AM.St.ld v60 s6 (o6 + (0 : Nat)) fun v62 =>
                                                                                            AM.asSl v62 fun v63 v64 v65 =>
                                                                                              AM.St.ld v46 s6 (o6 + (0 : Nat)) fun v66 =>
                                                                                                AM.asSl v66 fun v67 v68 v69 =>
                                                                                                  AM.chk (Value.slice v67 v68 v69) (Value.slice v63 v64 v65)
                                                                                                    (AM.br (v61 != (↑v64 : Int)) (some (Value.bool false, v60))
                                                                                                      (AM.lpAt Proofs.Tryd.prog AM.Lp.env L k (6 : Nat) [true, true, true, true, false, true] [] n
                                                                                                        [((1 : Nat), Value.slice s1 s1n s1z), ((5 : Nat), Value.pointer (some { block := s5, off := o5 })),
                                                                                                          ((6 : Nat), Value.pointer (some { block := s6, off := o6 })), ((33 : Nat), Value.int IntKind.i64 s33),
                                                                                                          ((34 : Nat), Value.int IntKind.i64 (IntKind.wrap IntKind.i64 (s34 + (1 : Int))))]
                                                                                                        v60))))))))
                                      (AM.br (v20 == (2 : Int))
                                        (AM.St.ld v16 (AM.St.next σ) (1 : Nat) fun v70 =>
                                          AM.asI IntKind.i64 v70 fun v71 =>
                                            AM.bnd (AM.evCall Proofs.Tryd.prog AM.Lp.env L k (13 : Nat) [Value.pointer (some { block := s5, off := o5 }), Value.int IntKind.i64 v71] v16) fun v72 v73 =>
                                              AM.asT v72 fun v74 =>
                                                AM.uncons v74 fun v75 v76 =>
                                                  AM.asS v75 fun v77 =>
                                                    AM.uncons v76 fun v78 v79 =>
                                                      AM.endl v79
                                                        (AM.St.ld v73 (AM.St.next σ) (1 : Nat) fun v80 =>
                                                          AM.asI IntKind.i64 v80 fun v81 =>
                                                            AM.bnd (AM.evCall Proofs.Tryd.prog AM.Lp.env L k (24 : Nat) [Value.pointer (some { block := s6, off := o6 }), Value.int IntKind.i64 v81] v73) fun v82 v83 =>
                                                              AM.asT v82 fun v84 =>
                                                                AM.uncons v84 fun v85 v86 =>
                                                                  AM.asS v85 fun v87 =>
                                                                    AM.uncons v86 fun v88 v89 =>
                                                                      AM.asI IntKind.i64 v88 fun v90 =>
                                                                        AM.endl v89
                                                                          (AM.br (!ByteArray.toList v77 == ByteArray.toList v87) (some (Value.bool false, v83))
                                                                            (AM.bnd (AM.evCall Proofs.Tryd.prog AM.Lp.env L k (29 : Nat) [v78, Value.string { data := #[(108 : UInt8), (105 : UInt8), (110 : UInt8), (107 : UInt8)] }] v83)
                                                                              fun v91 v92 =>
                                                                              AM.asT v91 fun v93 =>
                                                                                AM.uncons v93 fun v94 v95 =>
                                                                                  AM.asI IntKind.i64 v94 fun v96 =>
                                                                                    AM.uncons v95 fun v97 v98 =>
                                                                                      AM.asB v97 fun v99 =>
                                                                                        AM.endl v98
                                                                                          (AM.bnd (AM.evCall Proofs.Tryd.prog AM.Lp.env L k (11 : Nat) [v78] v92) fun v100 v101 =>
                                                                                            AM.asI IntKind.i64 v100 fun v102 =>
                                                                                              AM.br (v102 != v90) (some (Value.bool false, v101))
                                                                                                (AM.br (!v99 == (v90 != (0 : Int))) (some (Value.bool false, v101))
                                                                                                  (AM.br v99
                                                                                                    (AM.br (v96 != v18) (some (Value.bool false, v101))
                                                                                                      (AM.bnd (AM.evCall Proofs.Tryd.prog AM.Lp.env L k (12 : Nat) [Value.pointer (some { block := s5, off := o5 })] v101) fun v103 v104 =>
                                                                                                        AM.asI IntKind.i64 v103 fun v105 =>
                                                                                                          AM.St.ld v104 s6 (o6 + (0 : Nat)) fun v106 =>
                                                                                                            AM.asSl v106 fun v107 v108 v109 =>
                                                                                                              AM.St.ld v101 s6 (o6 + (0 : Nat)) fun v110 =>
                                                                                                                AM.asSl v110 fun v111 v112 v113 =>
                                                                                                                  AM.chk (Value.slice v111 v112 v113) (Value.slice v107 v108 v109)
                                                                                                                    (AM.br (v105 != (↑v108 : Int)) (some (Value.bool false, v104))
                                                                                                                      (AM.lpAt Proofs.Tryd.prog AM.Lp.env L k (6 : Nat) [true, true, true, true, false, true] [] n
                                                                                                                        [((1 : Nat), Value.slice s1 s1n s1z), ((5 : Nat), Value.pointer (some { block := s5, off := o5 })),
                                                                                                                          ((6 : Nat), Value.pointer (some { block := s6, off := o6 })), ((33 : Nat), Value.int IntKind.i64 s33),
                                                                                                                          ((34 : Nat), Value.int IntKind.i64 (IntKind.wrap IntKind.i64 (s34 + (1 : Int))))]
                                                                                                                        v104))))
                                                                                                    (AM.bnd (AM.evCall Proofs.Tryd.prog AM.Lp.env L k (12 : Nat) [Value.pointer (some { block := s5, off := o5 })] v101) fun v114 v115 =>
                                                                                                      AM.asI IntKind.i64 v114 fun v116 =>
                                                                                                        AM.St.ld v115 s6 (o6 + (0 : Nat)) fun v117 =>
                                                                                                          AM.asSl v117 fun v118 v119 v120 =>
                                                                                                            AM.St.ld v101 s6 (o6 + (0 : Nat)) fun v121 =>
                                                                                                              AM.asSl v121 fun v122 v123 v124 =>
                                                                                                                AM.chk (Value.slice v122 v123 v124) (Value.slice v118 v119 v120)
                                                                                                                  (AM.br (v116 != (↑v119 : Int)) (some (Value.bool false, v115))
                                                                                                                    (AM.lpAt Proofs.Tryd.prog AM.Lp.env L k (6 : Nat) [true, true, true, true, false, true] [] n
                                                                                                                      [((1 : Nat), Value.slice s1 s1n s1z), ((5 : Nat), Value.pointer (some { block := s5, off := o5 })),
                                                                                                                        ((6 : Nat), Value.pointer (some { block := s6, off := o6 })), ((33 : Nat), Value.int IntKind.i64 s33),
                                                                                                                        ((34 : Nat), Value.int IntKind.i64 (IntKind.wrap IntKind.i64 (s34 + (1 : Int))))]
                                                                                                                      v115))))))))))
                                        (AM.br (v20 == (3 : Int))
                                          (AM.St.ld v16 (AM.St.next σ) (1 : Nat) fun v125 =>
                                            AM.asI IntKind.i64 v125 fun v126 =>
                                              AM.bnd (AM.evCall Proofs.Tryd.prog AM.Lp.env L k (25 : Nat) [Value.pointer (some { block := s5, off := o5 }), Value.int IntKind.i64 v126] v16) fun v127 v128 =>
                                                AM.St.ld v128 (AM.St.next σ) (1 : Nat) fun v129 =>
                                                  AM.asI IntKind.i64 v129 fun v130 =>
                                                    AM.St.ld v16 (AM.St.next σ) (1 : Nat) fun v131 =>
                                                      AM.asI IntKind.i64 v131 fun v132 =>
                                                        AM.chk (Value.int IntKind.i64 v132) (Value.int IntKind.i64 v130)
                                                          (AM.bnd (AM.evCall Proofs.Tryd.prog AM.Lp.env L k (26 : Nat) [Value.pointer (some { block := s6, off := o6 }), Value.int IntKind.i64 v130] v128) fun v133 v134 =>
                                                            AM.asI IntKind.i64 v133 fun v135 =>
                                                              AM.bnd (AM.evCall Proofs.Tryd.prog AM.Lp.env L k (29 : Nat) [v127, Value.string { data := #[(108 : UInt8), (105 : UInt8), (110 : UInt8), (107 : UInt8)] }] v134) fun v136 v137 =>
                                                                AM.asT v136 fun v138 =>
                                                                  AM.uncons v138 fun v139 v140 =>
                                                                    AM.asI IntKind.i64 v139 fun v141 =>
                                                                      AM.uncons v140 fun v142 v143 =>
                                                                        AM.asB v142 fun v144 =>
                                                                          AM.endl v143
                                                                            (AM.bnd (AM.evCall Proofs.Tryd.prog AM.Lp.env L k (11 : Nat) [v127] v137) fun v145 v146 =>
                                                                              AM.asI IntKind.i64 v145 fun v147 =>
                                                                                AM.br (v147 != v135) (some (Value.bool false, v146))
                                                                                  (AM.br (!v144 == (v135 != (0 : Int))) (some (Value.bool false, v146))
                                                                                    (AM.br v144
                                                                                      (AM.br (v141 != v18) (some (Value.bool false, v146))
                                                                                        (AM.bnd (AM.evCall Proofs.Tryd.prog AM.Lp.env L k (12 : Nat) [Value.pointer (some { block := s5, off := o5 })] v146) fun v148 v149 =>
                                                                                          AM.asI IntKind.i64 v148 fun v150 =>
                                                                                            AM.St.ld v149 s6 (o6 + (0 : Nat)) fun v151 =>
                                                                                              AM.asSl v151 fun v152 v153 v154 =>
                                                                                                AM.St.ld v146 s6 (o6 + (0 : Nat)) fun v155 =>
                                                                                                  AM.asSl v155 fun v156 v157 v158 =>
                                                                                                    AM.chk (Value.slice v156 v157 v158) (Value.slice v152 v153 v154)
                                                                                                      (AM.br (v150 != (↑v153 : Int)) (some (Value.bool false, v149))
                                                                                                        (AM.lpAt Proofs.Tryd.prog AM.Lp.env L k (6 : Nat) [true, true, true, true, false, true] [] n
                                                                                                          [((1 : Nat), Value.slice s1 s1n s1z), ((5 : Nat), Value.pointer (some { block := s5, off := o5 })),
                                                                                                            ((6 : Nat), Value.pointer (some { block := s6, off := o6 })), ((33 : Nat), Value.int IntKind.i64 s33),
                                                                                                            ((34 : Nat), Value.int IntKind.i64 (IntKind.wrap IntKind.i64 (s34 + (1 : Int))))]
                                                                                                          v149))))
                                                                                      (AM.bnd (AM.evCall Proofs.Tryd.prog AM.Lp.env L k (12 : Nat) [Value.pointer (some { block := s5, off := o5 })] v146) fun v159 v160 =>
                                                                                        AM.asI IntKind.i64 v159 fun v161 =>
                                                                                          AM.St.ld v160 s6 (o6 + (0 : Nat)) fun v162 =>
                                                                                            AM.asSl v162 fun v163 v164 v165 =>
                                                                                              AM.St.ld v146 s6 (o6 + (0 : Nat)) fun v166 =>
                                                                                                AM.asSl v166 fun v167 v168 v169 =>
                                                                                                  AM.chk (Value.slice v167 v168 v169) (Value.slice v163 v164 v165)
                                                                                                    (AM.br (v161 != (↑v164 : Int)) (some (Value.bool false, v160))
                                                                                                      (AM.lpAt Proofs.Tryd.prog AM.Lp.env L k (6 : Nat) [true, true, true, true, false, true] [] n
                                                                                                        [((1 : Nat), Value.slice s1 s1n s1z), ((5 : Nat), Value.pointer (some { block := s5, off := o5 })),
                                                                                                          ((6 : Nat), Value.pointer (some { block := s6, off := o6 })), ((33 : Nat), Value.int IntKind.i64 s33),
                                                                                                          ((34 : Nat), Value.int IntKind.i64 (IntKind.wrap IntKind.i64 (s34 + (1 : Int))))]
                                                                                                        v160))))))))
                                          (AM.br (v20 == (4 : Int))
                                            (AM.St.ld v16 (AM.St.next σ) (1 : Nat) fun v170 =>
                                              AM.asI IntKind.i64 v170 fun v171 =>
                                                AM.bnd (AM.evCall Proofs.Tryd.prog AM.Lp.env L k (27 : Nat) [Value.pointer (some { block := s5, off := o5 }), Value.int IntKind.i64 v171] v16) fun v172 v173 =>
                                                  AM.St.ld v173 (AM.St.next σ) (1 : Nat) fun v174 =>
                                                    AM.asI IntKind.i64 v174 fun v175 =>
                                                      AM.St.ld v16 (AM.St.next σ) (1 : Nat) fun v176 =>
                                                        AM.asI IntKind.i64 v176 fun v177 =>
                                                          AM.chk (Value.int IntKind.i64 v177) (Value.int IntKind.i64 v175)
                                                            (AM.bnd (AM.evCall Proofs.Tryd.prog AM.Lp.env L k (28 : Nat) [Value.pointer (some { block := s6, off := o6 }), Value.int IntKind.i64 v175] v173) fun v178 v179 =>
                                                              AM.asI IntKind.i64 v178 fun v180 =>
                                                                AM.bnd (AM.evCall Proofs.Tryd.prog AM.Lp.env L k (29 : Nat) [v172, Value.string { data := #[(108 : UInt8), (105 : UInt8), (110 : UInt8), (107 : UInt8)] }] v179)
                                                                  fun v181 v182 =>
                                                                  AM.asT v181 fun v183 =>
                                                                    AM.uncons v183 fun v184 v185 =>
                                                                      AM.asI IntKind.i64 v184 fun v186 =>
                                                                        AM.uncons v185 fun v187 v188 =>
                                                                          AM.asB v187 fun v189 =>
                                                                            AM.endl v188
                                                                              (AM.bnd (AM.evCall Proofs.Tryd.prog AM.Lp.env L k (11 : Nat) [v172] v182) fun v190 v191 =>
                                                                                AM.asI IntKind.i64 v190 fun v192 =>
                                                                                  AM.br (v192 != v180) (some (Value.bool false, v191))
                                                                                    (AM.br (!v189 == (v180 != (0 : Int))) (some (Value.bool false, v191))
                                                                                      (AM.br v189
                                                                                        (AM.br (v186 != v18) (some (Value.bool false, v191))
                                                                                          (AM.bnd (AM.evCall Proofs.Tryd.prog AM.Lp.env L k (12 : Nat) [Value.pointer (some { block := s5, off := o5 })] v191) fun v193 v194 =>
                                                                                            AM.asI IntKind.i64 v193 fun v195 =>
                                                                                              AM.St.ld v194 s6 (o6 + (0 : Nat)) fun v196 =>
                                                                                                AM.asSl v196 fun v197 v198 v199 =>
                                                                                                  AM.St.ld v191 s6 (o6 + (0 : Nat)) fun v200 =>
                                                                                                    AM.asSl v200 fun v201 v202 v203 =>
                                                                                                      AM.chk (Value.slice v201 v202 v203) (Value.slice v197 v198 v199)
                                                                                                        (AM.br (v195 != (↑v198 : Int)) (some (Value.bool false, v194))
                                                                                                          (AM.lpAt Proofs.Tryd.prog AM.Lp.env L k (6 : Nat) [true, true, true, true, false, true] [] n
                                                                                                            [((1 : Nat), Value.slice s1 s1n s1z), ((5 : Nat), Value.pointer (some { block := s5, off := o5 })),
                                                                                                              ((6 : Nat), Value.pointer (some { block := s6, off := o6 })), ((33 : Nat), Value.int IntKind.i64 s33),
                                                                                                              ((34 : Nat), Value.int IntKind.i64 (IntKind.wrap IntKind.i64 (s34 + (1 : Int))))]
                                                                                                            v194))))
                                                                                        (AM.bnd (AM.evCall Proofs.Tryd.prog AM.Lp.env L k (12 : Nat) [Value.pointer (some { block := s5, off := o5 })] v191) fun v204 v205 =>
                                                                                          AM.asI IntKind.i64 v204 fun v206 =>
                                                                                            AM.St.ld v205 s6 (o6 + (0 : Nat)) fun v207 =>
                                                                                              AM.asSl v207 fun v208 v209 v210 =>
                                                                                                AM.St.ld v191 s6 (o6 + (0 : Nat)) fun v211 =>
                                                                                                  AM.asSl v211 fun v212 v213 v214 =>
                                                                                                    AM.chk (Value.slice v212 v213 v214) (Value.slice v208 v209 v210)
                                                                                                      (AM.br (v206 != (↑v209 : Int)) (some (Value.bool false, v205))
                                                                                                        (AM.lpAt Proofs.Tryd.prog AM.Lp.env L k (6 : Nat) [true, true, true, true, false, true] [] n
                                                                                                          [((1 : Nat), Value.slice s1 s1n s1z), ((5 : Nat), Value.pointer (some { block := s5, off := o5 })),
                                                                                                            ((6 : Nat), Value.pointer (some { block := s6, off := o6 })), ((33 : Nat), Value.int IntKind.i64 s33),
                                                                                                            ((34 : Nat), Value.int IntKind.i64 (IntKind.wrap IntKind.i64 (s34 + (1 : Int))))]
                                                                                                          v205))))))))
                                            (AM.br (v20 == (5 : Int))
                                              (AM.St.ld v16 (AM.St.next σ) (3 : Nat) fun v215 =>
                                                AM.asB v215 fun v216 =>
                                                  AM.bnd (AM.evCall Proofs.Tryd.prog AM.Lp.env L k (20 : Nat) [Value.pointer (some { block := s5, off := o5 }), Value.bool v216] v16) fun v217 v218 =>
                                                    AM.asT v217 fun v219 =>
                                                      AM.endl v219
                                                        (AM.St.ld v218 (AM.St.next σ) (3 : Nat) fun v220 =>
                                                          AM.asB v220 fun v221 =>
                                                            AM.St.put v218 s6 (o6 + (2 : Nat)) [Value.bool v221] fun v222 =>
                                                              AM.bnd (AM.evCall Proofs.Tryd.prog AM.Lp.env L k (29 : Nat) [Value.nilIface, Value.string { data := #[(108 : UInt8), (105 : UInt8), (110 : UInt8), (107 : UInt8)] }] v222)
                                                                fun v223 v224 =>
                                                                AM.asT v223 fun v225 =>
                                                                  AM.uncons v225 fun v226 v227 =>
                                                                    AM.asI IntKind.i64 v226 fun v228 =>
                                                                      AM.uncons v227 fun v229 v230 =>
                                                                        AM.asB v229 fun v231 =>
                                                                          AM.endl v230
                                                                            (AM.bnd (AM.evCall Proofs.Tryd.prog AM.Lp.env L k (11 : Nat) [Value.nilIface] v224) fun v232 v233 =>
                                                                              AM.asI IntKind.i64 v232 fun v234 =>
                                                                                AM.br (v234 != (0 : Int)) (some (Value.bool false, v233))
                                                                                  (AM.br (!v231 == false) (some (Value.bool false, v233))
                                                                                    (AM.br v231
                                                                                      (AM.br (v228 != v18) (some (Value.bool false, v233))
                                                                                        (AM.bnd (AM.evCall Proofs.Tryd.prog AM.Lp.env L k (12 : Nat) [Value.pointer (some { block := s5, off := o5 })] v233) fun v235 v236 =>
                                                                                          AM.asI IntKind.i64 v235 fun v237 =>
                                                                                            AM.St.ld v236 s6 (o6 + (0 : Nat)) fun v238 =>
                                                                                              AM.asSl v238 fun v239 v240 v241 =>
                                                                                                AM.St.ld v233 s6 (o6 + (0 : Nat)) fun v242 =>
                                                                                                  AM.asSl v242 fun v243 v244 v245 =>
                                                                                                    AM.chk (Value.slice v243 v244 v245) (Value.slice v239 v240 v241)
                                                                                                      (AM.br (v237 != (↑v240 : Int)) (some (Value.bool false, v236))
                                                                                                        (AM.lpAt Proofs.Tryd.prog AM.Lp.env L k (6 : Nat) [true, true, true, true, false, true] [] n
                                                                                                          [((1 : Nat), Value.slice s1 s1n s1z), ((5 : Nat), Value.pointer (some { block := s5, off := o5 })),
                                                                                                            ((6 : Nat), Value.pointer (some { block := s6, off := o6 })), ((33 : Nat), Value.int IntKind.i64 s33),
                                                                                                            ((34 : Nat), Value.int IntKind.i64 (IntKind.wrap IntKind.i64 (s34 + (1 : Int))))]
                                                                                                          v236))))
                                                                                      (AM.bnd (AM.evCall Proofs.Tryd.prog AM.Lp.env L k (12 : Nat) [Value.pointer (some { block := s5, off := o5 })] v233) fun v246 v247 =>
                                                                                        AM.asI IntKind.i64 v246 fun v248 =>
                                                                                          AM.St.ld v247 s6 (o6 + (0 : Nat)) fun v249 =>
                                                                                            AM.asSl v249 fun v250 v251 v252 =>
                                                                                              AM.St.ld v233 s6 (o6 + (0 : Nat)) fun v253 =>
                                                                                                AM.asSl v253 fun v254 v255 v256 =>
                                                                                                  AM.chk (Value.slice v254 v255 v256) (Value.slice v250 v251 v252)
                                                                                                    (AM.br (v248 != (↑v251 : Int)) (some (Value.bool false, v247))
                                                                                                      (AM.lpAt Proofs.Tryd.prog AM.Lp.env L k (6 : Nat) [true, true, true, true, false, true] [] n
                                                                                                        [((1 : Nat), Value.slice s1 s1n s1z), ((5 : Nat), Value.pointer (some { block := s5, off := o5 })),
                                                                                                          ((6 : Nat), Value.pointer (some { block := s6, off := o6 })), ((33 : Nat), Value.int IntKind.i64 s33),
                                                                                                          ((34 : Nat), Value.int IntKind.i64 (IntKind.wrap IntKind.i64 (s34 + (1 : Int))))]
                                                                                                        v247))))))))
                                              (AM.bnd (AM.evCall Proofs.Tryd.prog AM.Lp.env L k (29 : Nat) [Value.nilIface, Value.string { data := #[(108 : UInt8), (105 : UInt8), (110 : UInt8), (107 : UInt8)] }] v16) fun v257 v258 =>
                                                AM.asT v257 fun v259 =>
                                                  AM.uncons v259 fun v260 v261 =>
                                                    AM.asI IntKind.i64 v260 fun v262 =>
                                                      AM.uncons v261 fun v263 v264 =>
                                                        AM.asB v263 fun v265 =>
                                                          AM.endl v264
                                                            (AM.bnd (AM.evCall Proofs.Tryd.prog AM.Lp.env L k (11 : Nat) [Value.nilIface] v258) fun v266 v267 =>
                                                              AM.asI IntKind.i64 v266 fun v268 =>
                                                                AM.br (v268 != (0 : Int)) (some (Value.bool false, v267))
                                                                  (AM.br (!v265 == false) (some (Value.bool false, v267))
                                                                    (AM.br v265
                                                                      (AM.br (v262 != v18) (some (Value.bool false, v267))
                                                                        (AM.bnd (AM.evCall Proofs.Tryd.prog AM.Lp.env L k (12 : Nat) [Value.pointer (some { block := s5, off := o5 })] v267) fun v269 v270 =>
                                                                          AM.asI IntKind.i64 v269 fun v271 =>
                                                                            AM.St.ld v270 s6 (o6 + (0 : Nat)) fun v272 =>
                                                                              AM.asSl v272 fun v273 v274 v275 =>
                                                                                AM.St.ld v267 s6 (o6 + (0 : Nat)) fun v276 =>
                                                                                  AM.asSl v276 fun v277 v278 v279 =>
                                                                                    AM.chk (Value.slice v277 v278 v279) (Value.slice v273 v274 v275)
                                                                                      (AM.br (v271 != (↑v274 : Int)) (some (Value.bool false, v270))
                                                                                        (AM.lpAt Proofs.Tryd.prog AM.Lp.env L k (6 : Nat) [true, true, true, true, false, true] [] n
                                                                                          [((1 : Nat), Value.slice s1 s1n s1z), ((5 : Nat), Value.pointer (some { block := s5, off := o5 })),
                                                                                            ((6 : Nat), Value.pointer (some { block := s6, off := o6 })), ((33 : Nat), Value.int IntKind.i64 s33),
                                                                                            ((34 : Nat), Value.int IntKind.i64 (IntKind.wrap IntKind.i64 (s34 + (1 : Int))))]
                                                                                          v270))))
                                                                      (AM.bnd (AM.evCall Proofs.Tryd.prog AM.Lp.env L k (12 : Nat) [Value.pointer (some { block := s5, off := o5 })] v267) fun v280 v281 =>
                                                                        AM.asI IntKind.i64 v280 fun v282 =>
                                                                          AM.St.ld v281 s6 (o6 + (0 : Nat)) fun v283 =>
                                                                            AM.asSl v283 fun v284 v285 v286 =>
                                                                              AM.St.ld v267 s6 (o6 + (0 : Nat)) fun v287 =>
                                                                                AM.asSl v287 fun v288 v289 v290 =>
                                                                                  AM.chk (Value.slice v288 v289 v290) (Value.slice v284 v285 v286)
                                                                                    (AM.br (v282 != (↑v285 : Int)) (some (Value.bool false, v281))
                                                                                      (AM.lpAt Proofs.Tryd.prog AM.Lp.env L k (6 : Nat) [true, true, true, true, false, true] [] n
                                                                                        [((1 : Nat), Value.slice s1 s1n s1z), ((5 : Nat), Value.pointer (some { block := s5, off := o5 })),
                                                                                          ((6 : Nat), Value.pointer (some { block := s6, off := o6 })), ((33 : Nat), Value.int IntKind.i64 s33),
                                                                                          ((34 : Nat), Value.int IntKind.i64 (IntKind.wrap IntKind.i64 (s34 + (1 : Int))))]
                                                                                        v281))))))))))))))
  (some (Value.bool true, σ)) := by kernel_rfl
/-! isobar/isobarlaw10.LinkNil: 7; parameters [i, x] -/
theorem f7_eq (L k : Nat) (σ : St) (a0 : Int) (a1 : ByteArray) : evCall Go.Proofs.Tryd.prog Go.AM.Lp.env L (k + 1) 7 [.int .i64 a0, .string a1] σ =
    AM.bnd (AM.evCall Proofs.Tryd.prog AM.Lp.env L k (8 : Nat) [] σ) fun v1 v2 =>
  AM.asB v1 fun v3 =>
    AM.br (!v3) (AM.bnd (AM.evCall Proofs.Tryd.prog AM.Lp.env L k (8 : Nat) [] v2) fun v4 v5 => AM.asB v4 fun v6 => some (Value.bool v6, v5))
      (AM.br (decide ((↑(ByteArray.size a1) : Int) > (100 : Int))) (AM.bnd (AM.evCall Proofs.Tryd.prog AM.Lp.env L k (8 : Nat) [] v2) fun v7 v8 => AM.asB v7 fun v9 => some (Value.bool v9, v8))
        (AM.bnd (AM.evCall Proofs.Tryd.prog AM.Lp.env L k (20 : Nat) [Value.pointer none, Value.bool true] v2) fun v10 v11 =>
          AM.asT v10 fun v12 =>
            AM.endl v12
              (AM.bnd (AM.evCall Proofs.Tryd.prog AM.Lp.env L k (13 : Nat) [Value.pointer none, Value.int IntKind.i64 a0] v11) fun v13 v14 =>
                AM.asT v13 fun v15 =>
                  AM.uncons v15 fun v16 v17 =>
                    AM.asS v16 fun v18 =>
                      AM.uncons v17 fun v19 v20 =>
                        AM.endl v20
                          (AM.bnd (AM.evCall Proofs.Tryd.prog AM.Lp.env L k (29 : Nat) [v19, Value.string { data := #[(108 : UInt8), (105 : UInt8), (110 : UInt8), (107 : UInt8)] }] v14) fun v21 v22 =>
                            AM.asT v21 fun v23 =>
                              AM.uncons v23 fun v24 v25 =>
                                AM.asI IntKind.i64 v24 fun v26 =>
                                  AM.uncons v25 fun v27 v28 =>
                                    AM.asB v27 fun v29 =>
                                      AM.endl v28
                                        (AM.br (ByteArray.toList v18 == ByteArray.toList { data := #[] })
                                          (AM.bnd (AM.evCall Proofs.Tryd.prog AM.Lp.env L k (11 : Nat) [v19] (AM.St.new v22 (AM.Blk.own [Value.slice none (0 : Nat) (0 : Nat), Value.int IntKind.i64 (0 : Int), Value.bool false] (59 : Nat))))
                                            fun v30 v31 =>
                                            AM.asI IntKind.i64 v30 fun v32 =>
                                              AM.br (v32 == (11 : Int))
                                                (AM.br (v26 == (0 : Int))
                                                  (AM.br v29
                                                    (AM.bnd (AM.evCall Proofs.Tryd.prog AM.Lp.env L k (10 : Nat) [Value.pointer none, Value.string a1] v31) fun v33 v34 =>
                                                      AM.bnd (AM.evCall Proofs.Tryd.prog AM.Lp.env L k (11 : Nat) [v33] v34) fun v35 v36 =>
                                                        AM.asI IntKind.i64 v35 fun v37 =>
                                                          AM.br (v37 == (11 : Int))
                                                            (AM.bnd (AM.evCall Proofs.Tryd.prog AM.Lp.env L k (25 : Nat) [Value.pointer none, Value.int IntKind.i64 a0] v36) fun v38 v39 =>
                                                              AM.bnd (AM.evCall Proofs.Tryd.prog AM.Lp.env L k (11 : Nat) [v38] v39) fun v40 v41 =>
                                                                AM.asI IntKind.i64 v40 fun v42 =>
                                                                  AM.br (v42 == (11 : Int))
                                                                    (AM.bnd (AM.evCall Proofs.Tryd.prog AM.Lp.env L k (27 : Nat) [Value.pointer none, Value.int IntKind.i64 a0] v41) fun v43 v44 =>
                                                                      AM.bnd (AM.evCall Proofs.Tryd.prog AM.Lp.env L k (11 : Nat) [v43] v44) fun v45 v46 =>
                                                                        AM.asI IntKind.i64 v45 fun v47 =>
                                                                          AM.br (v47 == (11 : Int))
                                                                            (AM.bnd (AM.evCall Proofs.Tryd.prog AM.Lp.env L k (12 : Nat) [Value.pointer none] v46) fun v48 v49 =>
                                                                              AM.asI IntKind.i64 v48 fun v50 =>
                                                                                AM.br (v50 == (0 : Int))
                                                                                  (AM.bnd (AM.evCall Proofs.Tryd.prog AM.Lp.env L k (10 : Nat) [Value.pointer (some { block := AM.St.next v22, off := (0 : Nat) }), Value.string a1] v49)
                                                                                    fun v51 v52 =>
                                                                                    AM.bnd (AM.evCall Proofs.Tryd.prog AM.Lp.env L k (11 : Nat) [v51] v52) fun v53 v54 =>
                                                                                      AM.asI IntKind.i64 v53 fun v55 =>
                                                                                        AM.br (v55 == (6 : Int))
                                                                                          (AM.bnd (AM.evCall Proofs.Tryd.prog AM.Lp.env L k (12 : Nat) [Value.pointer (some { block := AM.St.next v22, off := (0 : Nat) })] v54) fun v56 v57 =>
                                                                                            AM.asI IntKind.i64 v56 fun v58 => some (Value.bool (v58 == (0 : Int)), v57))
                                                                                          (some (Value.bool false, v54)))
                                                                                  (some (Value.bool false, v49)))
                                                                            (some (Value.bool false, v46)))
                                                                    (some (Value.bool false, v41)))
                                                            (some (Value.bool false, v36)))
                                                    (some (Value.bool false, v31)))
                                                  (some (Value.bool false, v31)))
                                                (some (Value.bool false, v31)))
                                          (some (Value.bool false, AM.St.new v22 (AM.Blk.own [Value.slice none (0 : Nat) (0 : Nat), Value.int IntKind.i64 (0 : Int), Value.bool false] (59 : Nat))))))))) := by kernel_rfl
/-! isobar/isobarlaw10.awake: 8; parameters [] -/
theorem f8_eq (L k : Nat) (σ : St)  : evCall Go.Proofs.Tryd.prog Go.AM.Lp.env L (k + 1) 8 [] σ =
    AM.bnd (AM.evCall Proofs.Tryd.prog AM.Lp.env L k (14 : Nat) [Value.int IntKind.i64 (2 : Int)] σ) fun v1 v2 =>
  AM.asP v1 fun v3 =>
    AM.br (Option.isNone v3) (some (Value.bool false, v2))
      (AM.bnd (AM.evCall Proofs.Tryd.prog AM.Lp.env L k (15 : Nat) [Value.pointer v3, Value.int IntKind.i64 (7 : Int)] v2) fun v4 v5 =>
        AM.eqNil v4 fun v6 =>
          AM.br (!v6) (some (Value.bool false, v5))
            (AM.bnd (AM.evCall Proofs.Tryd.prog AM.Lp.env L k (17 : Nat) [Value.pointer v3, Value.int IntKind.i64 (0 : Int)] v5) fun v7 v8 =>
              AM.eqNil v7 fun v9 =>
                AM.br (!v9) (some (Value.bool false, v8))
                  (AM.bnd (AM.evCall Proofs.Tryd.prog AM.Lp.env L k (16 : Nat) [Value.pointer v3] v8) fun v10 v11 =>
                    AM.asI IntKind.i64 v10 fun v12 =>
                      AM.br (v12 != (2 : Int)) (some (Value.bool false, v11))
                        (AM.bnd (AM.evCall Proofs.Tryd.prog AM.Lp.env L k (19 : Nat) [Value.pointer v3, Value.int IntKind.i64 (1 : Int)] v11) fun v13 v14 =>
                          AM.asT v13 fun v15 =>
                            AM.uncons v15 fun v16 v17 =>
                              AM.asI IntKind.i64 v16 fun v18 =>
                                AM.uncons v17 fun v19 v20 =>
                                  AM.endl v20
                                    (AM.br (v18 == (7 : Int))
                                      (AM.eqNil v19 fun v21 =>
                                        AM.br v21 (AM.bnd (AM.evCall Proofs.Tryd.prog AM.Lp.env L k (16 : Nat) [Value.pointer v3] v14) fun v22 v23 => AM.asI IntKind.i64 v22 fun v24 => some (Value.bool (v24 == (1 : Int)), v23))
                                          (some (Value.bool false, v14)))
                                      (some (Value.bool false, v14))))))) := by kernel_rfl
/-! isobar/link.New[string]: 9; parameters [room] -/
theorem f9_eq (L k : Nat) (σ : St) (a0 : Int) : evCall Go.Proofs.Tryd.prog Go.AM.Lp.env L (k + 1) 9 [.int .i64 a0] σ =
    some (Value.pointer (some { block := AM.St.next σ, off := (0 : Nat) }), AM.St.new σ (AM.Blk.own [Value.slice none (0 : Nat) (0 : Nat), Value.int IntKind.i64 (AM.mx (0 : Int) (AM.mn a0 (4096 : Int))), Value.bool false] (59 : Nat))) := by kernel_rfl
/-! (*isobar/link.Link[string]).Send: 10; parameters [l, x] -/
theorem f10_eq (L k : Nat) (σ : St) (a0 : Nat) (a1 : ByteArray) : evCall Go.Proofs.Tryd.prog Go.AM.Lp.env L (k + 1) 10 [.pointer (some ⟨a0, 0, none⟩), .string a1] σ =
    AM.St.ld σ a0 (0 : Nat) fun v1 =>
  AM.asSl v1 fun v2 v3 v4 => AM.bnd (AM.evCall Proofs.Tryd.prog AM.Lp.env L k (31 : Nat) [Value.pointer (some { block := a0, off := (0 : Nat) }), Value.string a1, Value.int IntKind.i64 (↑v3 : Int)] σ) fun v5 v6 => some (AM.pack [v5], v6) := by kernel_rfl
/-! isobar/fault.Code: 11; parameters [err] -/
theorem f11_eq (L k : Nat) (σ : St) (a0 : Value) : evCall Go.Proofs.Tryd.prog Go.AM.Lp.env L (k + 1) 11 [a0] σ =
    AM.bnd (AM.evCall Proofs.Tryd.prog AM.Lp.env L k (32 : Nat) [a0, Value.iface (64 : Nat) (Value.pointer (some { block := AM.St.next σ, off := (0 : Nat) }))] (AM.St.new σ (AM.Blk.own [Value.int IntKind.i64 (0 : Int)] (29 : Nat))))
  fun v1 v2 => AM.asB v1 fun v3 => AM.br (!v3) (some (Value.int IntKind.i64 (0 : Int), v2)) (AM.St.ld v2 (AM.St.next σ) (0 : Nat) fun v4 => AM.asI IntKind.i64 v4 fun v5 => some (Value.int IntKind.i64 v5, v2)) := by kernel_rfl
/-! (*isobar/link.Link[string]).Len: 12; parameters [l] -/
theorem f12_eq (L k : Nat) (σ : St) (a0 : Nat) : evCall Go.Proofs.Tryd.prog Go.AM.Lp.env L (k + 1) 12 [.pointer (some ⟨a0, 0, none⟩)] σ =
    AM.St.ld σ a0 (0 : Nat) fun v1 => AM.asSl v1 fun v2 v3 v4 => some (Value.int IntKind.i64 (↑v3 : Int), σ) := by kernel_rfl
/-! (*isobar/link.Link[string]).Deliver: 13; parameters [l, i] -/
theorem f13_eq (L k : Nat) (σ : St) (a0 : Nat) (a1 : Int) : evCall Go.Proofs.Tryd.prog Go.AM.Lp.env L (k + 1) 13 [.pointer (some ⟨a0, 0, none⟩), .int .i64 a1] σ =
    AM.St.ld σ a0 (2 : Nat) fun v1 =>
  AM.asB v1 fun v2 =>
    AM.br v2 (AM.bnd (AM.evCall Proofs.Tryd.prog AM.Lp.env L k (30 : Nat) [Value.int IntKind.i64 a1, Value.int IntKind.i64 (11 : Int)] σ) fun v3 v4 => some (Value.tuple #[Value.string { data := #[] }, v3], v4))
      (AM.bnd (AM.evCall Proofs.Tryd.prog AM.Lp.env L k (33 : Nat) [Value.pointer (some { block := a0, off := (0 : Nat) }), Value.int IntKind.i64 a1] σ) fun v5 v6 =>
        AM.eqNil v5 fun v7 =>
          AM.br (!v7) (some (Value.tuple #[Value.string { data := #[] }, v5], v6))
            (AM.St.ld v6 a0 (0 : Nat) fun v8 =>
              AM.asSl v8 fun v9 v10 v11 =>
                AM.need (AM.inRange a1 (↑v10 : Int))
                  (AM.adr v9 fun v12 v13 =>
                    AM.St.ld v6 v12 (v13 + Int.toNat a1 * (1 : Nat)) fun v14 =>
                      AM.asS v14 fun v15 =>
                        AM.bnd (AM.evCall Proofs.Tryd.prog AM.Lp.env L k (27 : Nat) [Value.pointer (some { block := a0, off := (0 : Nat) }), Value.int IntKind.i64 a1] v6) fun v16 v17 => some (Value.tuple #[Value.string v15, v16], v17)))) := by kernel_rfl
/-! isobar/link.New[int]: 14; parameters [room] -/
theorem f14_eq (L k : Nat) (σ : St) (a0 : Int) : evCall Go.Proofs.Tryd.prog Go.AM.Lp.env L (k + 1) 14 [.int .i64 a0] σ =
    some (Value.pointer (some { block := AM.St.next σ, off := (0 : Nat) }), AM.St.new σ (AM.Blk.own [Value.slice none (0 : Nat) (0 : Nat), Value.int IntKind.i64 (AM.mx (0 : Int) (AM.mn a0 (4096 : Int))), Value.bool false] (67 : Nat))) := by kernel_rfl
/-! (*isobar/link.Link[int]).Send: 15; parameters [l, x] -/
theorem f15_eq (L k : Nat) (σ : St) (a0 : Nat) (a1 : Int) : evCall Go.Proofs.Tryd.prog Go.AM.Lp.env L (k + 1) 15 [.pointer (some ⟨a0, 0, none⟩), .int .i64 a1] σ =
    AM.St.ld σ a0 (0 : Nat) fun v1 =>
  AM.asSl v1 fun v2 v3 v4 =>
    AM.bnd (AM.evCall Proofs.Tryd.prog AM.Lp.env L k (34 : Nat) [Value.pointer (some { block := a0, off := (0 : Nat) }), Value.int IntKind.i64 a1, Value.int IntKind.i64 (↑v3 : Int)] σ) fun v5 v6 => some (AM.pack [v5], v6) := by kernel_rfl
/-! (*isobar/link.Link[int]).Len: 16; parameters [l] -/
theorem f16_eq (L k : Nat) (σ : St) (a0 : Nat) : evCall Go.Proofs.Tryd.prog Go.AM.Lp.env L (k + 1) 16 [.pointer (some ⟨a0, 0, none⟩)] σ =
    AM.St.ld σ a0 (0 : Nat) fun v1 => AM.asSl v1 fun v2 v3 v4 => some (Value.int IntKind.i64 (↑v3 : Int), σ) := by kernel_rfl
/-! (*isobar/link.Link[int]).Double: 17; parameters [l, i] -/
theorem f17_eq (L k : Nat) (σ : St) (a0 : Nat) (a1 : Int) : evCall Go.Proofs.Tryd.prog Go.AM.Lp.env L (k + 1) 17 [.pointer (some ⟨a0, 0, none⟩), .int .i64 a1] σ =
    AM.bnd (AM.evCall Proofs.Tryd.prog AM.Lp.env L k (35 : Nat) [Value.pointer (some { block := a0, off := (0 : Nat) }), Value.int IntKind.i64 a1] σ) fun v1 v2 =>
  AM.eqNil v1 fun v3 =>
    AM.br (!v3) (some (AM.pack [v1], v2))
      (AM.St.ld v2 a0 (0 : Nat) fun v4 =>
        AM.asSl v4 fun v5 v6 v7 =>
          AM.need (AM.inRange a1 (↑v6 : Int))
            (AM.adr v5 fun v8 v9 =>
              AM.St.ld v2 v8 (v9 + Int.toNat a1 * (1 : Nat)) fun v10 =>
                AM.asI IntKind.i64 v10 fun v11 =>
                  AM.bnd (AM.evCall Proofs.Tryd.prog AM.Lp.env L k (34 : Nat) [Value.pointer (some { block := a0, off := (0 : Nat) }), Value.int IntKind.i64 v11, Value.int IntKind.i64 a1] v2) fun v12 v13 => some (AM.pack [v12], v13))) := by kernel_rfl
/-! (*isobar/link.Link[int]).Drop: 18; parameters [l, i] -/
theorem f18_eq (L k : Nat) (σ : St) (a0 : Nat) (a1 : Int) : evCall Go.Proofs.Tryd.prog Go.AM.Lp.env L (k + 1) 18 [.pointer (some ⟨a0, 0, none⟩), .int .i64 a1] σ =
    AM.bnd (AM.evCall Proofs.Tryd.prog AM.Lp.env L k (35 : Nat) [Value.pointer (some { block := a0, off := (0 : Nat) }), Value.int IntKind.i64 a1] σ) fun v1 v2 =>
  AM.eqNil v1 fun v3 =>
    AM.br (!v3) (some (AM.pack [v1], v2))
      (AM.St.ld v2 a0 (0 : Nat) fun v4 =>
        AM.asSl v4 fun v5 v6 v7 =>
          AM.need (Nat.beq v7 (0 : Nat) || Nat.beq v7 (1 : Nat))
            (AM.need (AM.inRange a1 ((↑v6 : Int) + (1 : Int)))
              (AM.St.ld v2 a0 (0 : Nat) fun v8 =>
                AM.asSl v8 fun v9 v10 v11 =>
                  AM.need (Nat.beq v11 (0 : Nat) || Nat.beq v11 (1 : Nat))
                    (AM.need (AM.inRange (IntKind.wrap IntKind.i64 (a1 + (1 : Int))) ((↑v10 : Int) + (1 : Int)))
                      (AM.cpy (1 : Nat) (AM.subA v5 (Int.toNat a1 * (1 : Nat))) (AM.subA v9 (Int.toNat (IntKind.wrap IntKind.i64 (a1 + (1 : Int))) * (1 : Nat)))
                        (min (v10 - Int.toNat (IntKind.wrap IntKind.i64 (a1 + (1 : Int)))) (v6 - Int.toNat a1)) v2 fun v12 =>
                        AM.St.ld v12 a0 (0 : Nat) fun v13 =>
                          AM.asSl v13 fun v14 v15 v16 =>
                            AM.need (Nat.beq v16 (0 : Nat) || Nat.beq v16 (1 : Nat))
                              (AM.need (AM.inRange (IntKind.wrap IntKind.i64 (a1 + (↑(min (v10 - Int.toNat (IntKind.wrap IntKind.i64 (a1 + (1 : Int)))) (v6 - Int.toNat a1)) : Int))) ((↑v15 : Int) + (1 : Int)))
                                (AM.St.put v12 a0 (0 : Nat)
                                  [Value.slice (AM.subA v14 (0 : Nat)) (Int.toNat (IntKind.wrap IntKind.i64 (a1 + (↑(min (v10 - Int.toNat (IntKind.wrap IntKind.i64 (a1 + (1 : Int)))) (v6 - Int.toNat a1)) : Int))) - (0 : Nat)) v16]
                                  fun v17 => some (Value.nilIface, v17)))))))) := by kernel_rfl
/-! (*isobar/link.Link[int]).Deliver: 19; parameters [l, i] -/
theorem f19_eq (L k : Nat) (σ : St) (a0 : Nat) (a1 : Int) : evCall Go.Proofs.Tryd.prog Go.AM.Lp.env L (k + 1) 19 [.pointer (some ⟨a0, 0, none⟩), .int .i64 a1] σ =
    AM.St.ld σ a0 (2 : Nat) fun v1 =>
  AM.asB v1 fun v2 =>
    AM.br v2 (AM.bnd (AM.evCall Proofs.Tryd.prog AM.Lp.env L k (30 : Nat) [Value.int IntKind.i64 a1, Value.int IntKind.i64 (11 : Int)] σ) fun v3 v4 => some (Value.tuple #[Value.int IntKind.i64 (0 : Int), v3], v4))
      (AM.bnd (AM.evCall Proofs.Tryd.prog AM.Lp.env L k (35 : Nat) [Value.pointer (some { block := a0, off := (0 : Nat) }), Value.int IntKind.i64 a1] σ) fun v5 v6 =>
        AM.eqNil v5 fun v7 =>
          AM.br (!v7) (some (Value.tuple #[Value.int IntKind.i64 (0 : Int), v5], v6))
            (AM.St.ld v6 a0 (0 : Nat) fun v8 =>
              AM.asSl v8 fun v9 v10 v11 =>
                AM.need (AM.inRange a1 (↑v10 : Int))
                  (AM.adr v9 fun v12 v13 =>
                    AM.St.ld v6 v12 (v13 + Int.toNat a1 * (1 : Nat)) fun v14 =>
                      AM.asI IntKind.i64 v14 fun v15 =>
                        AM.bnd (AM.evCall Proofs.Tryd.prog AM.Lp.env L k (18 : Nat) [Value.pointer (some { block := a0, off := (0 : Nat) }), Value.int IntKind.i64 a1] v6) fun v16 v17 =>
                          some (Value.tuple #[Value.int IntKind.i64 v15, v16], v17)))) := by kernel_rfl
/-! (*isobar/link.Link[string]).Cut: 20; parameters [l, cut] -/
theorem f20_eq (L k : Nat) (σ : St) (a0 : Nat) (a1 : Bool) : evCall Go.Proofs.Tryd.prog Go.AM.Lp.env L (k + 1) 20 [.pointer (some ⟨a0, 0, none⟩), .bool a1] σ =
    AM.St.put σ a0 (2 : Nat) [Value.bool a1] fun v1 => some (Value.tuple #[], v1) := by kernel_rfl
/-! isobar/isobarlaw10.few: 21; parameters [l] -/
theorem f21_eq (L k : Nat) (σ : St) (a0 : Option Addr) (a0n a0z : Nat) : evCall Go.Proofs.Tryd.prog Go.AM.Lp.env L (k + 1) 21 [.slice a0 a0n a0z] σ =
    AM.br (decide ((↑a0n : Int) > (300 : Int))) (some (Value.bool false, σ))
  (AM.lpAt Proofs.Tryd.prog AM.Lp.env L k (21 : Nat) [true, true, false, true] [] L [((0 : Nat), Value.slice a0 a0n a0z), ((8 : Nat), Value.int IntKind.i64 (↑a0n : Int)), ((9 : Nat), Value.int IntKind.i64 (0 : Int))] σ) := by kernel_rfl
theorem f21_l4 (L k n : Nat) (σ : St) (s0 : Option Addr) (s0n s0z : Nat) (s8 : Int) (s9 : Int) : lpAt Go.Proofs.Tryd.prog Go.AM.Lp.env L k 21 [true, true, false, true] [] (n + 1) [(0, .slice s0 s0n s0z), (8, .int .i64 s8), (9, .int .i64 s9)] σ =
    AM.br (decide (s9 < s8))
  (AM.need (AM.inRange s9 (↑s0n : Int))
    (AM.adr s0 fun v1 v2 =>
      AM.St.ld σ v1 (v2 + Int.toNat s9 * (4 : Nat) + (2 : Nat)) fun v3 =>
        AM.asS v3 fun v4 =>
          AM.br (decide ((↑(ByteArray.size v4) : Int) > (100 : Int))) (some (Value.bool false, σ))
            (AM.lpAt Proofs.Tryd.prog AM.Lp.env L k (21 : Nat) [true, true, false, true] [] n
              [((0 : Nat), Value.slice s0 s0n s0z), ((8 : Nat), Value.int IntKind.i64 s8), ((9 : Nat), Value.int IntKind.i64 (IntKind.wrap IntKind.i64 (s9 + (1 : Int))))] σ)))
  (some (Value.bool true, σ)) := by kernel_rfl
/-! isobar/isobarref10.New: 22; parameters [room] -/
theorem f22_eq (L k : Nat) (σ : St) (a0 : Int) : evCall Go.Proofs.Tryd.prog Go.AM.Lp.env L (k + 1) 22 [.int .i64 a0] σ =
    some (Value.pointer (some { block := AM.St.next σ, off := (0 : Nat) }), AM.St.new σ (AM.Blk.own [Value.slice none (0 : Nat) (0 : Nat), Value.int IntKind.i64 (AM.mx (0 : Int) (AM.mn a0 (4096 : Int))), Value.bool false] (50 : Nat))) := by kernel_rfl
/-! (*isobar/isobarref10.Link).Send: 23; parameters [l, x] -/
theorem f23_eq (L k : Nat) (σ : St) (a0 : Nat) (a1 : ByteArray) : evCall Go.Proofs.Tryd.prog Go.AM.Lp.env L (k + 1) 23 [.pointer (some ⟨a0, 0, none⟩), .string a1] σ =
    AM.St.ld σ a0 (0 : Nat) fun v1 =>
  AM.asSl v1 fun v2 v3 v4 =>
    AM.St.ld σ a0 (1 : Nat) fun v5 =>
      AM.asI IntKind.i64 v5 fun v6 =>
        AM.br (decide ((↑v3 : Int) ≥ v6)) (some (Value.int IntKind.i64 (6 : Int), σ))
          (AM.St.ld σ a0 (0 : Nat) fun v7 =>
            AM.asSl v7 fun v8 v9 v10 =>
              AM.St.row (AM.St.new σ (AM.Blk.own [Value.string a1] (9 : Nat))) (some { block := AM.St.next σ, off := (0 : Nat) }) (1 : Nat) fun v11 =>
                AM.grow (9 : Nat) (1 : Nat) (16 : Nat) v8 v9 v10 (1 : Nat) v11 (AM.St.new σ (AM.Blk.own [Value.string a1] (9 : Nat))) fun v12 v13 v14 v15 =>
                  AM.St.put v15 a0 (0 : Nat) [Value.slice v12 v13 v14] fun v16 => some (Value.int IntKind.i64 (0 : Int), v16)) := by kernel_rfl
/-! (*isobar/isobarref10.Link).Deliver: 24; parameters [l, i] -/
theorem f24_eq (L k : Nat) (σ : St) (a0 : Nat) (a1 : Int) : evCall Go.Proofs.Tryd.prog Go.AM.Lp.env L (k + 1) 24 [.pointer (some ⟨a0, 0, none⟩), .int .i64 a1] σ =
    AM.St.ld σ a0 (2 : Nat) fun v1 =>
  AM.asB v1 fun v2 =>
    AM.br v2 (some (Value.tuple #[Value.string { data := #[] }, Value.int IntKind.i64 (11 : Int)], σ))
      (AM.bnd (AM.evCall Proofs.Tryd.prog AM.Lp.env L k (36 : Nat) [Value.pointer (some { block := a0, off := (0 : Nat) }), Value.int IntKind.i64 a1] σ) fun v3 v4 =>
        AM.asB v3 fun v5 =>
          AM.br (!v5) (some (Value.tuple #[Value.string { data := #[] }, Value.int IntKind.i64 (5 : Int)], v4))
            (AM.St.ld v4 a0 (0 : Nat) fun v6 =>
              AM.asSl v6 fun v7 v8 v9 =>
                AM.need (AM.inRange a1 (↑v8 : Int))
                  (AM.adr v7 fun v10 v11 =>
                    AM.St.ld v4 v10 (v11 + Int.toNat a1 * (1 : Nat)) fun v12 =>
                      AM.asS v12 fun v13 =>
                        AM.bnd (AM.evCall Proofs.Tryd.prog AM.Lp.env L k (28 : Nat) [Value.pointer (some { block := a0, off := (0 : Nat) }), Value.int IntKind.i64 a1] v4) fun v14 v15 =>
                          AM.asI IntKind.i64 v14 fun v16 => some (Value.tuple #[Value.string v13, Value.int IntKind.i64 (0 : Int)], v15)))) := by kernel_rfl
/-! (*isobar/link.Link[string]).Double: 25; parameters [l, i] -/
theorem f25_eq (L k : Nat) (σ : St) (a0 : Nat) (a1 : Int) : evCall Go.Proofs.Tryd.prog Go.AM.Lp.env L (k + 1) 25 [.pointer (some ⟨a0, 0, none⟩), .int .i64 a1] σ =
    AM.bnd (AM.evCall Proofs.Tryd.prog AM.Lp.env L k (33 : Nat) [Value.pointer (some { block := a0, off := (0 : Nat) }), Value.int IntKind.i64 a1] σ) fun v1 v2 =>
  AM.eqNil v1 fun v3 =>
    AM.br (!v3) (some (AM.pack [v1], v2))
      (AM.St.ld v2 a0 (0 : Nat) fun v4 =>
        AM.asSl v4 fun v5 v6 v7 =>
          AM.need (AM.inRange a1 (↑v6 : Int))
            (AM.adr v5 fun v8 v9 =>
              AM.St.ld v2 v8 (v9 + Int.toNat a1 * (1 : Nat)) fun v10 =>
                AM.asS v10 fun v11 =>
                  AM.bnd (AM.evCall Proofs.Tryd.prog AM.Lp.env L k (31 : Nat) [Value.pointer (some { block := a0, off := (0 : Nat) }), Value.string v11, Value.int IntKind.i64 a1] v2) fun v12 v13 => some (AM.pack [v12], v13))) := by kernel_rfl
/-! (*isobar/isobarref10.Link).Double: 26; parameters [l, i] -/
theorem f26_eq (L k : Nat) (σ : St) (a0 : Nat) (a1 : Int) : evCall Go.Proofs.Tryd.prog Go.AM.Lp.env L (k + 1) 26 [.pointer (some ⟨a0, 0, none⟩), .int .i64 a1] σ =
    AM.bnd (AM.evCall Proofs.Tryd.prog AM.Lp.env L k (36 : Nat) [Value.pointer (some { block := a0, off := (0 : Nat) }), Value.int IntKind.i64 a1] σ) fun v1 v2 =>
  AM.asB v1 fun v3 =>
    AM.br (!v3) (some (Value.int IntKind.i64 (5 : Int), v2))
      (AM.St.ld v2 a0 (0 : Nat) fun v4 =>
        AM.asSl v4 fun v5 v6 v7 =>
          AM.need (AM.inRange a1 (↑v6 : Int))
            (AM.adr v5 fun v8 v9 =>
              AM.St.ld v2 v8 (v9 + Int.toNat a1 * (1 : Nat)) fun v10 =>
                AM.asS v10 fun v11 =>
                  AM.bnd (AM.evCall Proofs.Tryd.prog AM.Lp.env L k (23 : Nat) [Value.pointer (some { block := a0, off := (0 : Nat) }), Value.string v11] v2) fun v12 v13 =>
                    AM.asI IntKind.i64 v12 fun v14 => some (Value.int IntKind.i64 v14, v13))) := by kernel_rfl
/-! (*isobar/link.Link[string]).Drop: 27; parameters [l, i] -/
theorem f27_eq (L k : Nat) (σ : St) (a0 : Nat) (a1 : Int) : evCall Go.Proofs.Tryd.prog Go.AM.Lp.env L (k + 1) 27 [.pointer (some ⟨a0, 0, none⟩), .int .i64 a1] σ =
    AM.bnd (AM.evCall Proofs.Tryd.prog AM.Lp.env L k (33 : Nat) [Value.pointer (some { block := a0, off := (0 : Nat) }), Value.int IntKind.i64 a1] σ) fun v1 v2 =>
  AM.eqNil v1 fun v3 =>
    AM.br (!v3) (some (AM.pack [v1], v2))
      (AM.St.ld v2 a0 (0 : Nat) fun v4 =>
        AM.asSl v4 fun v5 v6 v7 =>
          AM.need (Nat.beq v7 (0 : Nat) || Nat.beq v7 (1 : Nat))
            (AM.need (AM.inRange a1 ((↑v6 : Int) + (1 : Int)))
              (AM.St.ld v2 a0 (0 : Nat) fun v8 =>
                AM.asSl v8 fun v9 v10 v11 =>
                  AM.need (Nat.beq v11 (0 : Nat) || Nat.beq v11 (1 : Nat))
                    (AM.need (AM.inRange (IntKind.wrap IntKind.i64 (a1 + (1 : Int))) ((↑v10 : Int) + (1 : Int)))
                      (AM.cpy (1 : Nat) (AM.subA v5 (Int.toNat a1 * (1 : Nat))) (AM.subA v9 (Int.toNat (IntKind.wrap IntKind.i64 (a1 + (1 : Int))) * (1 : Nat)))
                        (min (v10 - Int.toNat (IntKind.wrap IntKind.i64 (a1 + (1 : Int)))) (v6 - Int.toNat a1)) v2 fun v12 =>
                        AM.St.ld v12 a0 (0 : Nat) fun v13 =>
                          AM.asSl v13 fun v14 v15 v16 =>
                            AM.need (Nat.beq v16 (0 : Nat) || Nat.beq v16 (1 : Nat))
                              (AM.need (AM.inRange (IntKind.wrap IntKind.i64 (a1 + (↑(min (v10 - Int.toNat (IntKind.wrap IntKind.i64 (a1 + (1 : Int)))) (v6 - Int.toNat a1)) : Int))) ((↑v15 : Int) + (1 : Int)))
                                (AM.St.put v12 a0 (0 : Nat)
                                  [Value.slice (AM.subA v14 (0 : Nat)) (Int.toNat (IntKind.wrap IntKind.i64 (a1 + (↑(min (v10 - Int.toNat (IntKind.wrap IntKind.i64 (a1 + (1 : Int)))) (v6 - Int.toNat a1)) : Int))) - (0 : Nat)) v16]
                                  fun v17 => some (Value.nilIface, v17)))))))) := by kernel_rfl
/-! (*isobar/isobarref10.Link).Drop: 28; parameters [l, i] -/
theorem f28_eq (L k : Nat) (σ : St) (a0 : Nat) (a1 : Int) : evCall Go.Proofs.Tryd.prog Go.AM.Lp.env L (k + 1) 28 [.pointer (some ⟨a0, 0, none⟩), .int .i64 a1] σ =
    AM.bnd (AM.evCall Proofs.Tryd.prog AM.Lp.env L k (36 : Nat) [Value.pointer (some { block := a0, off := (0 : Nat) }), Value.int IntKind.i64 a1] σ) fun v1 v2 =>
  AM.asB v1 fun v3 =>
    AM.br (!v3) (some (Value.int IntKind.i64 (5 : Int), v2))
      (AM.St.ld v2 a0 (0 : Nat) fun v4 =>
        AM.asSl v4 fun v5 v6 v7 =>
          AM.need (Nat.beq v7 (0 : Nat) || Nat.beq v7 (1 : Nat))
            (AM.need (AM.inRange a1 ((↑v6 : Int) + (1 : Int)))
              (AM.St.row v2 (AM.subA v5 (0 : Nat)) ((Int.toNat a1 - (0 : Nat)) * (1 : Nat)) fun v8 =>
                AM.grow (9 : Nat) (1 : Nat) (16 : Nat) none (0 : Nat) (0 : Nat) (Int.toNat a1 - (0 : Nat)) v8 v2 fun v9 v10 v11 v12 =>
                  AM.St.ld v12 a0 (0 : Nat) fun v13 =>
                    AM.asSl v13 fun v14 v15 v16 =>
                      AM.need (Nat.beq v16 (0 : Nat) || Nat.beq v16 (1 : Nat))
                        (AM.need (AM.inRange (IntKind.wrap IntKind.i64 (a1 + (1 : Int))) ((↑v15 : Int) + (1 : Int)))
                          (AM.St.row v12 (AM.subA v14 (Int.toNat (IntKind.wrap IntKind.i64 (a1 + (1 : Int))) * (1 : Nat))) ((v15 - Int.toNat (IntKind.wrap IntKind.i64 (a1 + (1 : Int)))) * (1 : Nat)) fun v17 =>
                            AM.grow (9 : Nat) (1 : Nat) (16 : Nat) v9 v10 v11 (v15 - Int.toNat (IntKind.wrap IntKind.i64 (a1 + (1 : Int)))) v17 v12 fun v18 v19 v20 v21 =>
                              AM.St.put v21 a0 (0 : Nat) [Value.slice v18 v19 v20] fun v22 => some (Value.int IntKind.i64 (0 : Int), v22)))))) := by kernel_rfl
/-! isobar/fault.First: 29; parameters [err, op] -/
theorem f29_eq (L k : Nat) (σ : St) (a0 : Value) (a1 : ByteArray) : evCall Go.Proofs.Tryd.prog Go.AM.Lp.env L (k + 1) 29 [a0, .string a1] σ =
    AM.bnd (AM.evCall Proofs.Tryd.prog AM.Lp.env L k (37 : Nat) [a0] σ) fun v1 v2 =>
  AM.asSl v1 fun v3 v4 v5 =>
    AM.lpAt Proofs.Tryd.prog AM.Lp.env L k (29 : Nat) [true, false, true] [] L [((1 : Nat), Value.string a1), ((9 : Nat), Value.slice v3 v4 v5), ((10 : Nat), Value.int IntKind.i64 (↑v4 : Int)), ((11 : Nat), Value.int IntKind.i64 (0 : Int))]
      v2 := by kernel_rfl
theorem f29_l2 (L k n : Nat) (σ : St) (s1 : ByteArray) (s9 : Option Addr) (s9n s9z : Nat) (s10 : Int) (s11 : Int) : lpAt Go.Proofs.Tryd.prog Go.AM.Lp.env L k 29 [true, false, true] [] (n + 1) [(1, .string s1), (9, .slice s9 s9n s9z), (10, .int .i64 s10), (11, .int .i64 s11)] σ =
    AM.br (decide (s11 < s10))
  (AM.need (AM.inRange s11 (↑s9n : Int))
    (AM.adr s9 fun v1 v2 =>
      AM.St.ld σ v1 (v2 + Int.toNat s11 * (1 : Nat)) fun v3 =>
        AM.asP v3 fun v4 =>
          AM.adr v4 fun v5 v6 =>
            AM.St.ld σ v5 (v6 + (0 : Nat)) fun v7 =>
              AM.asS v7 fun v8 =>
                AM.br (ByteArray.toList v8 == ByteArray.toList s1) (AM.adr v4 fun v9 v10 => AM.St.ld σ v9 (v10 + (1 : Nat)) fun v11 => AM.asI IntKind.i64 v11 fun v12 => some (Value.tuple #[Value.int IntKind.i64 v12, Value.bool true], σ))
                  (AM.lpAt Proofs.Tryd.prog AM.Lp.env L k (29 : Nat) [true, false, true] [] n
                    [((1 : Nat), Value.string s1), ((9 : Nat), Value.slice s9 s9n s9z), ((10 : Nat), Value.int IntKind.i64 s10), ((11 : Nat), Value.int IntKind.i64 (IntKind.wrap IntKind.i64 (s11 + (1 : Int))))] σ)))
  (some (Value.tuple #[Value.int IntKind.i64 (0 : Int), Value.bool false], σ)) := by kernel_rfl
/-! isobar/link.wrong: 30; parameters [at, e] -/
theorem f30_eq (L k : Nat) (σ : St) (a0 : Int) (a1 : Int) : evCall Go.Proofs.Tryd.prog Go.AM.Lp.env L (k + 1) 30 [.int .i64 a0, .int .i64 a1] σ =
    AM.bnd (AM.evCall Proofs.Tryd.prog AM.Lp.env L k (38 : Nat) [Value.string { data := #[(108 : UInt8), (105 : UInt8), (110 : UInt8), (107 : UInt8)] }, Value.int IntKind.i64 a0, Value.iface (29 : Nat) (Value.int IntKind.i64 a1)] σ)
  fun v1 v2 => some (AM.pack [v1], v2) := by kernel_rfl
/-! (*isobar/link.Link[string]).put: 31; parameters [l, x, at] -/
theorem f31_eq (L k : Nat) (σ : St) (a0 : Nat) (a1 : ByteArray) (a2 : Int) : evCall Go.Proofs.Tryd.prog Go.AM.Lp.env L (k + 1) 31 [.pointer (some ⟨a0, 0, none⟩), .string a1, .int .i64 a2] σ =
    AM.St.ld σ a0 (0 : Nat) fun v1 =>
  AM.asSl v1 fun v2 v3 v4 =>
    AM.St.ld σ a0 (1 : Nat) fun v5 =>
      AM.asI IntKind.i64 v5 fun v6 =>
        AM.br (decide ((↑v3 : Int) ≥ v6)) (AM.bnd (AM.evCall Proofs.Tryd.prog AM.Lp.env L k (30 : Nat) [Value.int IntKind.i64 a2, Value.int IntKind.i64 (6 : Int)] σ) fun v7 v8 => some (AM.pack [v7], v8))
          (AM.St.ld σ a0 (0 : Nat) fun v9 =>
            AM.asSl v9 fun v10 v11 v12 =>
              AM.St.row (AM.St.new σ (AM.Blk.own [Value.string a1] (9 : Nat))) (some { block := AM.St.next σ, off := (0 : Nat) }) (1 : Nat) fun v13 =>
                AM.grow (9 : Nat) (1 : Nat) (16 : Nat) v10 v11 v12 (1 : Nat) v13 (AM.St.new σ (AM.Blk.own [Value.string a1] (9 : Nat))) fun v14 v15 v16 v17 =>
                  AM.St.put v17 a0 (0 : Nat) [Value.slice v14 v15 v16] fun v18 => some (Value.nilIface, v18)) := by kernel_rfl
/-! (*isobar/link.Link[string]).there: 33; parameters [l, i] -/
theorem f33_eq (L k : Nat) (σ : St) (a0 : Nat) (a1 : Int) : evCall Go.Proofs.Tryd.prog Go.AM.Lp.env L (k + 1) 33 [.pointer (some ⟨a0, 0, none⟩), .int .i64 a1] σ =
    AM.br (decide (a1 < (0 : Int))) (AM.bnd (AM.evCall Proofs.Tryd.prog AM.Lp.env L k (30 : Nat) [Value.int IntKind.i64 a1, Value.int IntKind.i64 (5 : Int)] σ) fun v1 v2 => some (AM.pack [v1], v2))
  (AM.St.ld σ a0 (0 : Nat) fun v3 =>
    AM.asSl v3 fun v4 v5 v6 =>
      AM.br (decide (a1 ≥ (↑v5 : Int))) (AM.bnd (AM.evCall Proofs.Tryd.prog AM.Lp.env L k (30 : Nat) [Value.int IntKind.i64 a1, Value.int IntKind.i64 (5 : Int)] σ) fun v7 v8 => some (AM.pack [v7], v8)) (some (Value.nilIface, σ))) := by kernel_rfl
/-! (*isobar/link.Link[int]).put: 34; parameters [l, x, at] -/
theorem f34_eq (L k : Nat) (σ : St) (a0 : Nat) (a1 : Int) (a2 : Int) : evCall Go.Proofs.Tryd.prog Go.AM.Lp.env L (k + 1) 34 [.pointer (some ⟨a0, 0, none⟩), .int .i64 a1, .int .i64 a2] σ =
    AM.St.ld σ a0 (0 : Nat) fun v1 =>
  AM.asSl v1 fun v2 v3 v4 =>
    AM.St.ld σ a0 (1 : Nat) fun v5 =>
      AM.asI IntKind.i64 v5 fun v6 =>
        AM.br (decide ((↑v3 : Int) ≥ v6)) (AM.bnd (AM.evCall Proofs.Tryd.prog AM.Lp.env L k (30 : Nat) [Value.int IntKind.i64 a2, Value.int IntKind.i64 (6 : Int)] σ) fun v7 v8 => some (AM.pack [v7], v8))
          (AM.St.ld σ a0 (0 : Nat) fun v9 =>
            AM.asSl v9 fun v10 v11 v12 =>
              AM.St.row (AM.St.new σ (AM.Blk.own [Value.int IntKind.i64 a1] (3 : Nat))) (some { block := AM.St.next σ, off := (0 : Nat) }) (1 : Nat) fun v13 =>
                AM.grow (3 : Nat) (1 : Nat) (8 : Nat) v10 v11 v12 (1 : Nat) v13 (AM.St.new σ (AM.Blk.own [Value.int IntKind.i64 a1] (3 : Nat))) fun v14 v15 v16 v17 =>
                  AM.St.put v17 a0 (0 : Nat) [Value.slice v14 v15 v16] fun v18 => some (Value.nilIface, v18)) := by kernel_rfl
/-! (*isobar/link.Link[int]).there: 35; parameters [l, i] -/
theorem f35_eq (L k : Nat) (σ : St) (a0 : Nat) (a1 : Int) : evCall Go.Proofs.Tryd.prog Go.AM.Lp.env L (k + 1) 35 [.pointer (some ⟨a0, 0, none⟩), .int .i64 a1] σ =
    AM.br (decide (a1 < (0 : Int))) (AM.bnd (AM.evCall Proofs.Tryd.prog AM.Lp.env L k (30 : Nat) [Value.int IntKind.i64 a1, Value.int IntKind.i64 (5 : Int)] σ) fun v1 v2 => some (AM.pack [v1], v2))
  (AM.St.ld σ a0 (0 : Nat) fun v3 =>
    AM.asSl v3 fun v4 v5 v6 =>
      AM.br (decide (a1 ≥ (↑v5 : Int))) (AM.bnd (AM.evCall Proofs.Tryd.prog AM.Lp.env L k (30 : Nat) [Value.int IntKind.i64 a1, Value.int IntKind.i64 (5 : Int)] σ) fun v7 v8 => some (AM.pack [v7], v8)) (some (Value.nilIface, σ))) := by kernel_rfl
/-! (*isobar/isobarref10.Link).there: 36; parameters [l, i] -/
theorem f36_eq (L k : Nat) (σ : St) (a0 : Nat) (a1 : Int) : evCall Go.Proofs.Tryd.prog Go.AM.Lp.env L (k + 1) 36 [.pointer (some ⟨a0, 0, none⟩), .int .i64 a1] σ =
    AM.br (decide (a1 ≥ (0 : Int))) (AM.St.ld σ a0 (0 : Nat) fun v1 => AM.asSl v1 fun v2 v3 v4 => some (Value.bool (decide (a1 < (↑v3 : Int))), σ)) (some (Value.bool false, σ)) := by kernel_rfl
/-! isobar/fault.faults: 37; parameters [err] -/
theorem f37_eq (L k : Nat) (σ : St) (a0 : Value) : evCall Go.Proofs.Tryd.prog Go.AM.Lp.env L (k + 1) 37 [a0] σ =
    AM.lpAt Proofs.Tryd.prog AM.Lp.env L k (37 : Nat) [true, true, true, false] [] L [((0 : Nat), a0), ((3 : Nat), Value.slice none (0 : Nat) (0 : Nat)), ((4 : Nat), Value.pointer (some { block := AM.St.next σ, off := (0 : Nat) }))]
  (AM.St.new σ (AM.Blk.own [Value.pointer none] (72 : Nat))) := by kernel_rfl
theorem f37_l3 (L k n : Nat) (σ : St) (s0 : Value) (s3 : Option Addr) (s3n s3z : Nat) (s4 : Value) : lpAt Go.Proofs.Tryd.prog Go.AM.Lp.env L k 37 [true, true, true, false] [] (n + 1) [(0, s0), (3, .slice s3 s3n s3z), (4, s4)] σ =
    AM.bnd (AM.evCall Proofs.Tryd.prog AM.Lp.env L k (32 : Nat) [s0, Value.iface (88 : Nat) s4] σ) fun v1 v2 =>
  AM.asB v1 fun v3 =>
    AM.br v3
      (AM.asP s4 fun v4 =>
        AM.adr v4 fun v5 v6 =>
          AM.St.ld v2 v5 v6 fun v7 =>
            AM.asP v7 fun v8 =>
              AM.br (!Option.isNone v8)
                (AM.asP s4 fun v9 =>
                  AM.adr v9 fun v10 v11 =>
                    AM.St.ld v2 v10 v11 fun v12 =>
                      AM.asP v12 fun v13 =>
                        AM.St.row (AM.St.new v2 (AM.Blk.own [Value.pointer v13] (72 : Nat))) (some { block := AM.St.next v2, off := (0 : Nat) }) (1 : Nat) fun v14 =>
                          AM.grow (72 : Nat) (1 : Nat) (8 : Nat) s3 s3n s3z (1 : Nat) v14 (AM.St.new v2 (AM.Blk.own [Value.pointer v13] (72 : Nat))) fun v15 v16 v17 v18 =>
                            AM.asP s4 fun v19 =>
                              AM.adr v19 fun v20 v21 =>
                                AM.St.ld v18 v20 v21 fun v22 =>
                                  AM.asP v22 fun v23 =>
                                    AM.adr v23 fun v24 v25 =>
                                      AM.St.ld v18 v24 (v25 + (2 : Nat)) fun v26 =>
                                        AM.lpAt Proofs.Tryd.prog AM.Lp.env L k (37 : Nat) [true, true, true, false] [] n [((0 : Nat), v26), ((3 : Nat), Value.slice v15 v16 v17), ((4 : Nat), s4)] v18)
                (some (Value.slice s3 s3n s3z, v2)))
      (some (Value.slice s3 s3n s3z, v2)) := by kernel_rfl
/-! isobar/fault.Wrap: 38; parameters [op, at, err] -/
theorem f38_eq (L k : Nat) (σ : St) (a0 : ByteArray) (a1 : Int) (a2 : Value) : evCall Go.Proofs.Tryd.prog Go.AM.Lp.env L (k + 1) 38 [.string a0, .int .i64 a1, a2] σ =
    AM.eqNil a2 fun v1 =>
  AM.br v1 (some (Value.nilIface, σ))
    (AM.eqErr a2 (29 : Nat) IntKind.i64 (0 : Int) fun v2 =>
      AM.br v2 (some (Value.nilIface, σ))
        (AM.need true
          (AM.need (AM.oneCell a2) (AM.need true (some (Value.iface (72 : Nat) (Value.pointer (some { block := AM.St.next σ, off := (0 : Nat) })), AM.St.new σ (AM.Blk.own [Value.string a0, Value.int IntKind.i64 a1, a2] (74 : Nat)))))))) := by kernel_rfl
end Go.AM.Lp
