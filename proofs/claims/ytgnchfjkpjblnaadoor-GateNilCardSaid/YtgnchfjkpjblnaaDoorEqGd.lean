/-
  WHAT EACH FUNCTION DOES, word by word (printed).
-/
import Derived.Test.YtgnchfjkpjblnaaDoorAm0
import Derived.Test.YtgnchfjkpjblnaaDoorEnvGd
set_option linter.unusedVariables false
set_option linter.unusedSimpArgs false
set_option linter.unusedSectionVars false
namespace Go.AM.Gd
open Go.Proofs
/-! isobar/isobarlaw08.GateOnce: 3; parameters [round, ticks, by] -/
theorem f3_eq (L k : Nat) (σ : St) (a0 : Int) (a1 : Int) (a2 : Bool) : evCall Go.Proofs.Tryd.prog Go.AM.Gd.env L (k + 1) 3 [.int .u16 a0, .int .u8 a1, .bool a2] σ =
    AM.bnd (AM.evCall Proofs.Tryd.prog AM.Gd.env L k (6 : Nat) [] σ) fun v1 v2 =>
  AM.asB v1 fun v3 =>
    AM.br (!v3) (some (Value.bool false, v2))
      (AM.bnd (AM.evCall Proofs.Tryd.prog AM.Gd.env L k (7 : Nat) [] v2) fun v4 v5 =>
        AM.asP v4 fun v6 =>
          AM.bnd
            (AM.evCall Proofs.Tryd.prog AM.Gd.env L k (8 : Nat)
              [Value.pointer v6, Value.int IntKind.i64 (IntKind.wrap IntKind.i64 ((1 : Int) + IntKind.wrap IntKind.i64 a0)), Value.int IntKind.i64 (IntKind.wrap IntKind.i64 ((1 : Int) + Int.tmod (IntKind.wrap IntKind.i64 a1) (20 : Int)))]
              v5)
            fun v7 v8 =>
            AM.eqNil v7 fun v9 =>
              AM.br (!v9) (some (Value.bool false, v8))
                (AM.bnd
                  (AM.evCall Proofs.Tryd.prog AM.Gd.env L k (8 : Nat)
                    [Value.pointer v6, Value.int IntKind.i64 (IntKind.wrap IntKind.i64 ((1 : Int) + IntKind.wrap IntKind.i64 a0)),
                      Value.int IntKind.i64 (IntKind.wrap IntKind.i64 ((1 : Int) + Int.tmod (IntKind.wrap IntKind.i64 a1) (20 : Int)))]
                    v8)
                  fun v10 v11 =>
                  AM.eqNil v10 fun v12 =>
                    AM.br (!v12) (some (Value.bool false, v11))
                      (AM.br a2
                        (AM.bnd (AM.evCall Proofs.Tryd.prog AM.Gd.env L k (9 : Nat) [Value.pointer v6, Value.int IntKind.i64 (IntKind.wrap IntKind.i64 ((1 : Int) + IntKind.wrap IntKind.i64 a0))] v11) fun v13 v14 =>
                          AM.asT v13 fun v15 =>
                            AM.uncons v15 fun v16 v17 =>
                              AM.asSl v16 fun v18 v19 v20 =>
                                AM.uncons v17 fun v21 v22 =>
                                  AM.endl v22
                                    (AM.eqNil v21 fun v23 =>
                                      AM.br (!v23) (some (Value.bool false, v14))
                                        (AM.bnd (AM.evCall Proofs.Tryd.prog AM.Gd.env L k (9 : Nat) [Value.pointer v6, Value.int IntKind.i64 (IntKind.wrap IntKind.i64 ((1 : Int) + IntKind.wrap IntKind.i64 a0))] v14) fun v24 v25 =>
                                          AM.asT v24 fun v26 =>
                                            AM.uncons v26 fun v27 v28 =>
                                              AM.asSl v27 fun v29 v30 v31 =>
                                                AM.uncons v28 fun v32 v33 =>
                                                  AM.endl v33
                                                    (AM.bnd (AM.evCall Proofs.Tryd.prog AM.Gd.env L k (11 : Nat) [v32] v25) fun v34 v35 =>
                                                      AM.asI IntKind.i64 v34 fun v36 =>
                                                        AM.br (v36 == (9 : Int))
                                                          (AM.bnd
                                                            (AM.evCall Proofs.Tryd.prog AM.Gd.env L k (8 : Nat)
                                                              [Value.pointer v6, Value.int IntKind.i64 (IntKind.wrap IntKind.i64 ((1 : Int) + IntKind.wrap IntKind.i64 a0)),
                                                                Value.int IntKind.i64 (IntKind.wrap IntKind.i64 ((1 : Int) + Int.tmod (IntKind.wrap IntKind.i64 a1) (20 : Int)))]
                                                              v35)
                                                            fun v37 v38 =>
                                                            AM.bnd (AM.evCall Proofs.Tryd.prog AM.Gd.env L k (11 : Nat) [v37] v38) fun v39 v40 =>
                                                              AM.asI IntKind.i64 v39 fun v41 =>
                                                                AM.br (v41 == (10 : Int))
                                                                  (AM.bnd
                                                                    (AM.evCall Proofs.Tryd.prog AM.Gd.env L k (8 : Nat)
                                                                      [Value.pointer v6, Value.int IntKind.i64 (IntKind.wrap IntKind.i64 (IntKind.wrap IntKind.i64 ((1 : Int) + IntKind.wrap IntKind.i64 a0) + (1 : Int))),
                                                                        Value.int IntKind.i64 (IntKind.wrap IntKind.i64 ((1 : Int) + Int.tmod (IntKind.wrap IntKind.i64 a1) (20 : Int)))]
                                                                      v40)
                                                                    fun v42 v43 =>
                                                                    AM.eqNil v42 fun v44 =>
                                                                      AM.br v44
                                                                        (AM.bnd (AM.evCall Proofs.Tryd.prog AM.Gd.env L k (12 : Nat) [Value.pointer v6] v43) fun v45 v46 =>
                                                                          AM.asI IntKind.i64 v45 fun v47 =>
                                                                            some (Value.bool (v47 == IntKind.wrap IntKind.i64 (IntKind.wrap IntKind.i64 ((1 : Int) + IntKind.wrap IntKind.i64 a0) + (1 : Int))), v46))
                                                                        (some (Value.bool false, v43)))
                                                                  (some (Value.bool false, v40)))
                                                          (some (Value.bool false, v35))))))
                        (AM.lpAt Proofs.Tryd.prog AM.Gd.env L k (3 : Nat) [true, true, true, true, true, false, true, true, true] [] L
                          [((7 : Nat), Value.pointer v6), ((8 : Nat), Value.int IntKind.i64 (IntKind.wrap IntKind.i64 ((1 : Int) + IntKind.wrap IntKind.i64 a0))),
                            ((9 : Nat), Value.int IntKind.i64 (IntKind.wrap IntKind.i64 ((1 : Int) + Int.tmod (IntKind.wrap IntKind.i64 a1) (20 : Int)))),
                            ((45 : Nat), Value.int IntKind.i64 (IntKind.wrap IntKind.i64 ((1 : Int) + Int.tmod (IntKind.wrap IntKind.i64 a1) (20 : Int)))), ((46 : Nat), Value.int IntKind.i64 (0 : Int))]
                          v11)))) := by kernel_rfl
theorem f3_l12 (L k n : Nat) (σ : St) (s7 o7 : Nat) (s8 : Int) (s9 : Int) (s45 : Int) (s46 : Int) : lpAt Go.Proofs.Tryd.prog Go.AM.Gd.env L k 3 [true, true, true, true, true, false, true, true, true] [] (n + 1) [(7, .pointer (some ⟨s7, o7, none⟩)), (8, .int .i64 s8), (9, .int .i64 s9), (45, .int .i64 s45), (46, .int .i64 s46)] σ =
    AM.br (decide (s46 < s45))
  (AM.bnd (AM.evCall Proofs.Tryd.prog AM.Gd.env L k (10 : Nat) [Value.pointer (some { block := s7, off := o7 })] σ) fun v1 v2 =>
    AM.asSl v1 fun v3 v4 v5 =>
      AM.lpAt Proofs.Tryd.prog AM.Gd.env L k (3 : Nat) [true, true, true, true, true, false, true, true, true] [] n
        [((7 : Nat), Value.pointer (some { block := s7, off := o7 })), ((8 : Nat), Value.int IntKind.i64 s8), ((9 : Nat), Value.int IntKind.i64 s9), ((45 : Nat), Value.int IntKind.i64 s45),
          ((46 : Nat), Value.int IntKind.i64 (IntKind.wrap IntKind.i64 (s46 + (1 : Int))))]
        v2)
  (AM.bnd (AM.evCall Proofs.Tryd.prog AM.Gd.env L k (9 : Nat) [Value.pointer (some { block := s7, off := o7 }), Value.int IntKind.i64 s8] σ) fun v6 v7 =>
    AM.asT v6 fun v8 =>
      AM.uncons v8 fun v9 v10 =>
        AM.asSl v9 fun v11 v12 v13 =>
          AM.uncons v10 fun v14 v15 =>
            AM.endl v15
              (AM.bnd (AM.evCall Proofs.Tryd.prog AM.Gd.env L k (11 : Nat) [v14] v7) fun v16 v17 =>
                AM.asI IntKind.i64 v16 fun v18 =>
                  AM.br (v18 == (9 : Int))
                    (AM.bnd (AM.evCall Proofs.Tryd.prog AM.Gd.env L k (8 : Nat) [Value.pointer (some { block := s7, off := o7 }), Value.int IntKind.i64 s8, Value.int IntKind.i64 s9] v17) fun v19 v20 =>
                      AM.bnd (AM.evCall Proofs.Tryd.prog AM.Gd.env L k (11 : Nat) [v19] v20) fun v21 v22 =>
                        AM.asI IntKind.i64 v21 fun v23 =>
                          AM.br (v23 == (10 : Int))
                            (AM.bnd (AM.evCall Proofs.Tryd.prog AM.Gd.env L k (8 : Nat) [Value.pointer (some { block := s7, off := o7 }), Value.int IntKind.i64 (IntKind.wrap IntKind.i64 (s8 + (1 : Int))), Value.int IntKind.i64 s9] v22)
                              fun v24 v25 =>
                              AM.eqNil v24 fun v26 =>
                                AM.br v26
                                  (AM.bnd (AM.evCall Proofs.Tryd.prog AM.Gd.env L k (12 : Nat) [Value.pointer (some { block := s7, off := o7 })] v25) fun v27 v28 =>
                                    AM.asI IntKind.i64 v27 fun v29 => some (Value.bool (v29 == IntKind.wrap IntKind.i64 (s8 + (1 : Int))), v28))
                                  (some (Value.bool false, v25)))
                            (some (Value.bool false, v22)))
                    (some (Value.bool false, v17)))) := by kernel_rfl
/-! isobar/isobarlaw08.GateNil: 5; parameters [round, ticks, code] -/
theorem f5_eq (L k : Nat) (σ : St) (a0 : Int) (a1 : Int) (a2 : Int) : evCall Go.Proofs.Tryd.prog Go.AM.Gd.env L (k + 1) 5 [.int .i64 a0, .int .i64 a1, .int .i64 a2] σ =
    AM.bnd (AM.evCall Proofs.Tryd.prog AM.Gd.env L k (6 : Nat) [] σ) fun v1 v2 =>
  AM.asB v1 fun v3 =>
    AM.br (!v3) (some (Value.bool false, v2))
      (AM.bnd (AM.evCall Proofs.Tryd.prog AM.Gd.env L k (9 : Nat) [Value.pointer none, Value.int IntKind.i64 a0] v2) fun v4 v5 =>
        AM.asT v4 fun v6 =>
          AM.uncons v6 fun v7 v8 =>
            AM.asSl v7 fun v9 v10 v11 =>
              AM.uncons v8 fun v12 v13 =>
                AM.endl v13
                  (AM.bnd (AM.evCall Proofs.Tryd.prog AM.Gd.env L k (18 : Nat) [Value.pointer none, Value.agg #[Value.int IntKind.i64 (0 : Int), Value.int IntKind.i64 (0 : Int), Value.string { data := #[] }]] v5) fun v14 v15 =>
                    AM.asT v14 fun v16 =>
                      AM.uncons v16 fun v17 v18 =>
                        AM.asB v17 fun v19 =>
                          AM.uncons v18 fun v20 v21 =>
                            AM.endl v21
                              (AM.bnd (AM.evCall Proofs.Tryd.prog AM.Gd.env L k (21 : Nat) [v20, Value.string { data := #[(103 : UInt8), (97 : UInt8), (116 : UInt8), (101 : UInt8)] }] v15) fun v22 v23 =>
                                AM.asT v22 fun v24 =>
                                  AM.uncons v24 fun v25 v26 =>
                                    AM.asI IntKind.i64 v25 fun v27 =>
                                      AM.uncons v26 fun v28 v29 =>
                                        AM.asB v28 fun v30 =>
                                          AM.endl v29
                                            (AM.br (a2 == (1 : Int))
                                              (AM.bnd (AM.evCall Proofs.Tryd.prog AM.Gd.env L k (8 : Nat) [Value.pointer none, Value.int IntKind.i64 a0, Value.int IntKind.i64 a1] v23) fun v31 v32 =>
                                                AM.bnd (AM.evCall Proofs.Tryd.prog AM.Gd.env L k (11 : Nat) [v31] v32) fun v33 v34 =>
                                                  AM.asI IntKind.i64 v33 fun v35 =>
                                                    AM.br (v35 == (9 : Int))
                                                      (AM.br ((↑v10 : Int) == (0 : Int))
                                                        (AM.bnd (AM.evCall Proofs.Tryd.prog AM.Gd.env L k (11 : Nat) [v12] v34) fun v36 v37 =>
                                                          AM.asI IntKind.i64 v36 fun v38 =>
                                                            AM.br (v38 == (9 : Int))
                                                              (AM.br (!v19)
                                                                (AM.bnd (AM.evCall Proofs.Tryd.prog AM.Gd.env L k (11 : Nat) [v20] v37) fun v39 v40 =>
                                                                  AM.asI IntKind.i64 v39 fun v41 =>
                                                                    AM.br (v41 == (9 : Int))
                                                                      (AM.br (v27 == (0 : Int))
                                                                        (AM.br v30
                                                                          (AM.bnd (AM.evCall Proofs.Tryd.prog AM.Gd.env L k (10 : Nat) [Value.pointer none] v40) fun v42 v43 =>
                                                                            AM.asSl v42 fun v44 v45 v46 =>
                                                                              AM.br ((↑v45 : Int) == (0 : Int))
                                                                                (AM.bnd (AM.evCall Proofs.Tryd.prog AM.Gd.env L k (12 : Nat) [Value.pointer none] v43) fun v47 v48 =>
                                                                                  AM.asI IntKind.i64 v47 fun v49 =>
                                                                                    AM.bnd (AM.evCall Proofs.Tryd.prog AM.Gd.env L k (23 : Nat) [Value.pointer none] v48) fun v50 v51 =>
                                                                                      AM.asI IntKind.i64 v50 fun v52 =>
                                                                                        AM.br (IntKind.wrap IntKind.i64 (v49 + v52) == (0 : Int))
                                                                                          (AM.bnd (AM.evCall Proofs.Tryd.prog AM.Gd.env L k (22 : Nat) [Value.int IntKind.i64 a2] v51) fun v53 v54 =>
                                                                                            AM.asB v53 fun v55 => some (Value.bool (v55 == true), v54))
                                                                                          (some (Value.bool false, v51)))
                                                                                (some (Value.bool false, v43)))
                                                                          (some (Value.bool false, v40)))
                                                                        (some (Value.bool false, v40)))
                                                                      (some (Value.bool false, v40)))
                                                                (some (Value.bool false, v37)))
                                                              (some (Value.bool false, v37)))
                                                        (some (Value.bool false, v34)))
                                                      (some (Value.bool false, v34)))
                                              (AM.br (a2 == (7 : Int))
                                                (AM.bnd (AM.evCall Proofs.Tryd.prog AM.Gd.env L k (8 : Nat) [Value.pointer none, Value.int IntKind.i64 a0, Value.int IntKind.i64 a1] v23) fun v56 v57 =>
                                                  AM.bnd (AM.evCall Proofs.Tryd.prog AM.Gd.env L k (11 : Nat) [v56] v57) fun v58 v59 =>
                                                    AM.asI IntKind.i64 v58 fun v60 =>
                                                      AM.br (v60 == (9 : Int))
                                                        (AM.br ((↑v10 : Int) == (0 : Int))
                                                          (AM.bnd (AM.evCall Proofs.Tryd.prog AM.Gd.env L k (11 : Nat) [v12] v59) fun v61 v62 =>
                                                            AM.asI IntKind.i64 v61 fun v63 =>
                                                              AM.br (v63 == (9 : Int))
                                                                (AM.br (!v19)
                                                                  (AM.bnd (AM.evCall Proofs.Tryd.prog AM.Gd.env L k (11 : Nat) [v20] v62) fun v64 v65 =>
                                                                    AM.asI IntKind.i64 v64 fun v66 =>
                                                                      AM.br (v66 == (9 : Int))
                                                                        (AM.br (v27 == (0 : Int))
                                                                          (AM.br v30
                                                                            (AM.bnd (AM.evCall Proofs.Tryd.prog AM.Gd.env L k (10 : Nat) [Value.pointer none] v65) fun v67 v68 =>
                                                                              AM.asSl v67 fun v69 v70 v71 =>
                                                                                AM.br ((↑v70 : Int) == (0 : Int))
                                                                                  (AM.bnd (AM.evCall Proofs.Tryd.prog AM.Gd.env L k (12 : Nat) [Value.pointer none] v68) fun v72 v73 =>
                                                                                    AM.asI IntKind.i64 v72 fun v74 =>
                                                                                      AM.bnd (AM.evCall Proofs.Tryd.prog AM.Gd.env L k (23 : Nat) [Value.pointer none] v73) fun v75 v76 =>
                                                                                        AM.asI IntKind.i64 v75 fun v77 =>
                                                                                          AM.br (IntKind.wrap IntKind.i64 (v74 + v77) == (0 : Int))
                                                                                            (AM.bnd (AM.evCall Proofs.Tryd.prog AM.Gd.env L k (22 : Nat) [Value.int IntKind.i64 a2] v76) fun v78 v79 =>
                                                                                              AM.asB v78 fun v80 => some (Value.bool (v80 == true), v79))
                                                                                            (some (Value.bool false, v76)))
                                                                                  (some (Value.bool false, v68)))
                                                                            (some (Value.bool false, v65)))
                                                                          (some (Value.bool false, v65)))
                                                                        (some (Value.bool false, v65)))
                                                                  (some (Value.bool false, v62)))
                                                                (some (Value.bool false, v62)))
                                                          (some (Value.bool false, v59)))
                                                        (some (Value.bool false, v59)))
                                                (AM.br (a2 == (9 : Int))
                                                  (AM.bnd (AM.evCall Proofs.Tryd.prog AM.Gd.env L k (8 : Nat) [Value.pointer none, Value.int IntKind.i64 a0, Value.int IntKind.i64 a1] v23) fun v81 v82 =>
                                                    AM.bnd (AM.evCall Proofs.Tryd.prog AM.Gd.env L k (11 : Nat) [v81] v82) fun v83 v84 =>
                                                      AM.asI IntKind.i64 v83 fun v85 =>
                                                        AM.br (v85 == (9 : Int))
                                                          (AM.br ((↑v10 : Int) == (0 : Int))
                                                            (AM.bnd (AM.evCall Proofs.Tryd.prog AM.Gd.env L k (11 : Nat) [v12] v84) fun v86 v87 =>
                                                              AM.asI IntKind.i64 v86 fun v88 =>
                                                                AM.br (v88 == (9 : Int))
                                                                  (AM.br (!v19)
                                                                    (AM.bnd (AM.evCall Proofs.Tryd.prog AM.Gd.env L k (11 : Nat) [v20] v87) fun v89 v90 =>
                                                                      AM.asI IntKind.i64 v89 fun v91 =>
                                                                        AM.br (v91 == (9 : Int))
                                                                          (AM.br (v27 == (0 : Int))
                                                                            (AM.br v30
                                                                              (AM.bnd (AM.evCall Proofs.Tryd.prog AM.Gd.env L k (10 : Nat) [Value.pointer none] v90) fun v92 v93 =>
                                                                                AM.asSl v92 fun v94 v95 v96 =>
                                                                                  AM.br ((↑v95 : Int) == (0 : Int))
                                                                                    (AM.bnd (AM.evCall Proofs.Tryd.prog AM.Gd.env L k (12 : Nat) [Value.pointer none] v93) fun v97 v98 =>
                                                                                      AM.asI IntKind.i64 v97 fun v99 =>
                                                                                        AM.bnd (AM.evCall Proofs.Tryd.prog AM.Gd.env L k (23 : Nat) [Value.pointer none] v98) fun v100 v101 =>
                                                                                          AM.asI IntKind.i64 v100 fun v102 =>
                                                                                            AM.br (IntKind.wrap IntKind.i64 (v99 + v102) == (0 : Int))
                                                                                              (AM.bnd (AM.evCall Proofs.Tryd.prog AM.Gd.env L k (22 : Nat) [Value.int IntKind.i64 a2] v101) fun v103 v104 =>
                                                                                                AM.asB v103 fun v105 => some (Value.bool (v105 == true), v104))
                                                                                              (some (Value.bool false, v101)))
                                                                                    (some (Value.bool false, v93)))
                                                                              (some (Value.bool false, v90)))
                                                                            (some (Value.bool false, v90)))
                                                                          (some (Value.bool false, v90)))
                                                                    (some (Value.bool false, v87)))
                                                                  (some (Value.bool false, v87)))
                                                            (some (Value.bool false, v84)))
                                                          (some (Value.bool false, v84)))
                                                  (AM.bnd (AM.evCall Proofs.Tryd.prog AM.Gd.env L k (8 : Nat) [Value.pointer none, Value.int IntKind.i64 a0, Value.int IntKind.i64 a1] v23) fun v106 v107 =>
                                                    AM.bnd (AM.evCall Proofs.Tryd.prog AM.Gd.env L k (11 : Nat) [v106] v107) fun v108 v109 =>
                                                      AM.asI IntKind.i64 v108 fun v110 =>
                                                        AM.br (v110 == (9 : Int))
                                                          (AM.br ((↑v10 : Int) == (0 : Int))
                                                            (AM.bnd (AM.evCall Proofs.Tryd.prog AM.Gd.env L k (11 : Nat) [v12] v109) fun v111 v112 =>
                                                              AM.asI IntKind.i64 v111 fun v113 =>
                                                                AM.br (v113 == (9 : Int))
                                                                  (AM.br (!v19)
                                                                    (AM.bnd (AM.evCall Proofs.Tryd.prog AM.Gd.env L k (11 : Nat) [v20] v112) fun v114 v115 =>
                                                                      AM.asI IntKind.i64 v114 fun v116 =>
                                                                        AM.br (v116 == (9 : Int))
                                                                          (AM.br (v27 == (0 : Int))
                                                                            (AM.br v30
                                                                              (AM.bnd (AM.evCall Proofs.Tryd.prog AM.Gd.env L k (10 : Nat) [Value.pointer none] v115) fun v117 v118 =>
                                                                                AM.asSl v117 fun v119 v120 v121 =>
                                                                                  AM.br ((↑v120 : Int) == (0 : Int))
                                                                                    (AM.bnd (AM.evCall Proofs.Tryd.prog AM.Gd.env L k (12 : Nat) [Value.pointer none] v118) fun v122 v123 =>
                                                                                      AM.asI IntKind.i64 v122 fun v124 =>
                                                                                        AM.bnd (AM.evCall Proofs.Tryd.prog AM.Gd.env L k (23 : Nat) [Value.pointer none] v123) fun v125 v126 =>
                                                                                          AM.asI IntKind.i64 v125 fun v127 =>
                                                                                            AM.br (IntKind.wrap IntKind.i64 (v124 + v127) == (0 : Int))
                                                                                              (AM.bnd (AM.evCall Proofs.Tryd.prog AM.Gd.env L k (22 : Nat) [Value.int IntKind.i64 a2] v126) fun v128 v129 =>
                                                                                                AM.asB v128 fun v130 => some (Value.bool (v130 == (a2 == (10 : Int))), v129))
                                                                                              (some (Value.bool false, v126)))
                                                                                    (some (Value.bool false, v118)))
                                                                              (some (Value.bool false, v115)))
                                                                            (some (Value.bool false, v115)))
                                                                          (some (Value.bool false, v115)))
                                                                    (some (Value.bool false, v112)))
                                                                  (some (Value.bool false, v112)))
                                                            (some (Value.bool false, v109)))
                                                          (some (Value.bool false, v109))))))))) := by kernel_rfl
/-! isobar/isobarlaw08.awake: 6; parameters [] -/
theorem f6_eq (L k : Nat) (σ : St)  : evCall Go.Proofs.Tryd.prog Go.AM.Gd.env L (k + 1) 6 [] σ =
    AM.bnd (AM.evCall Proofs.Tryd.prog AM.Gd.env L k (7 : Nat) [] σ) fun v1 v2 =>
  AM.asP v1 fun v3 =>
    AM.br (Option.isNone v3) (some (Value.bool false, v2))
      (AM.bnd (AM.evCall Proofs.Tryd.prog AM.Gd.env L k (8 : Nat) [Value.pointer v3, Value.int IntKind.i64 (1 : Int), Value.int IntKind.i64 (1 : Int)] v2) fun v4 v5 =>
        AM.eqNil v4 fun v6 =>
          AM.br (!v6) (some (Value.bool false, v5))
            (AM.bnd (AM.evCall Proofs.Tryd.prog AM.Gd.env L k (18 : Nat) [Value.pointer v3, Value.agg #[Value.int IntKind.i64 (5 : Int), Value.int IntKind.i64 (0 : Int), Value.string { data := #[] }]] v5) fun v7 v8 =>
              AM.asT v7 fun v9 =>
                AM.uncons v9 fun v10 v11 =>
                  AM.asB v10 fun v12 =>
                    AM.uncons v11 fun v13 v14 =>
                      AM.endl v14
                        (AM.bnd (AM.evCall Proofs.Tryd.prog AM.Gd.env L k (10 : Nat) [Value.pointer v3] v8) fun v15 v16 =>
                          AM.asSl v15 fun v17 v18 v19 =>
                            AM.br (!v12)
                              (AM.eqNil v13 fun v20 =>
                                AM.br v20
                                  (AM.br ((↑v18 : Int) == (1 : Int))
                                    (AM.need (AM.inRange (0 : Int) (↑v18 : Int))
                                      (AM.adr v17 fun v21 v22 =>
                                        AM.St.ld v16 v21 (v22 + (0 : Nat) + (0 : Nat)) fun v23 =>
                                          AM.asI IntKind.i64 v23 fun v24 =>
                                            AM.br (v24 == (5 : Int)) (AM.bnd (AM.evCall Proofs.Tryd.prog AM.Gd.env L k (22 : Nat) [Value.int IntKind.i64 (7 : Int)] v16) fun v25 v26 => AM.asB v25 fun v27 => some (Value.bool v27, v26))
                                              (some (Value.bool false, v16))))
                                    (some (Value.bool false, v16)))
                                  (some (Value.bool false, v16)))
                              (some (Value.bool false, v16))))) := by kernel_rfl
/-! isobar/gate.New: 7; parameters [] -/
theorem f7_eq (L k : Nat) (σ : St)  : evCall Go.Proofs.Tryd.prog Go.AM.Gd.env L (k + 1) 7 [] σ =
    some
  (Value.pointer (some { block := AM.St.next σ, off := (0 : Nat) }),
    AM.St.new σ (AM.Blk.own [Value.int IntKind.i64 (0 : Int), Value.int IntKind.i64 (0 : Int), Value.int IntKind.i64 (0 : Int), Value.slice none (0 : Nat) (0 : Nat)] (44 : Nat))) := by kernel_rfl
/-! (*isobar/gate.Gate).Freeze: 8; parameters [g, round, ticks] -/
theorem f8_eq (L k : Nat) (σ : St) (a0 : Nat) (a1 : Int) (a2 : Int) : evCall Go.Proofs.Tryd.prog Go.AM.Gd.env L (k + 1) 8 [.pointer (some ⟨a0, 0, none⟩), .int .i64 a1, .int .i64 a2] σ =
    AM.br (decide (a1 < (1 : Int))) (AM.bnd (AM.evCall Proofs.Tryd.prog AM.Gd.env L k (24 : Nat) [Value.int IntKind.i64 a1, Value.int IntKind.i64 (1 : Int)] σ) fun v1 v2 => some (AM.pack [v1], v2))
  (AM.br (decide (a2 < (1 : Int))) (AM.bnd (AM.evCall Proofs.Tryd.prog AM.Gd.env L k (24 : Nat) [Value.int IntKind.i64 a1, Value.int IntKind.i64 (1 : Int)] σ) fun v3 v4 => some (AM.pack [v3], v4))
    (AM.St.ld σ a0 (0 : Nat) fun v5 =>
      AM.asI IntKind.i64 v5 fun v6 =>
        AM.br (a1 != v6)
          (AM.St.ld σ a0 (2 : Nat) fun v7 =>
            AM.asI IntKind.i64 v7 fun v8 =>
              AM.br (decide (a1 ≤ v8)) (AM.bnd (AM.evCall Proofs.Tryd.prog AM.Gd.env L k (24 : Nat) [Value.int IntKind.i64 a1, Value.int IntKind.i64 (10 : Int)] σ) fun v9 v10 => some (AM.pack [v9], v10))
                (AM.St.put σ a0 (0 : Nat) [Value.int IntKind.i64 a1] fun v11 => AM.St.put v11 a0 (2 : Nat) [Value.int IntKind.i64 a1] fun v12 => AM.St.put v12 a0 (1 : Nat) [Value.int IntKind.i64 a2] fun v13 => some (Value.nilIface, v13)))
          (AM.St.put σ a0 (0 : Nat) [Value.int IntKind.i64 a1] fun v14 => AM.St.put v14 a0 (2 : Nat) [Value.int IntKind.i64 a1] fun v15 => AM.St.put v15 a0 (1 : Nat) [Value.int IntKind.i64 a2] fun v16 => some (Value.nilIface, v16)))) := by kernel_rfl
/-! (*isobar/gate.Gate).Thaw: 9; parameters [g, round] -/
theorem f9_eq (L k : Nat) (σ : St) (a0 : Nat) (a1 : Int) : evCall Go.Proofs.Tryd.prog Go.AM.Gd.env L (k + 1) 9 [.pointer (some ⟨a0, 0, none⟩), .int .i64 a1] σ =
    AM.St.ld σ a0 (0 : Nat) fun v1 =>
  AM.asI IntKind.i64 v1 fun v2 =>
    AM.br (v2 == (0 : Int)) (AM.bnd (AM.evCall Proofs.Tryd.prog AM.Gd.env L k (24 : Nat) [Value.int IntKind.i64 a1, Value.int IntKind.i64 (9 : Int)] σ) fun v3 v4 => some (Value.tuple #[Value.slice none (0 : Nat) (0 : Nat), v3], v4))
      (AM.St.ld σ a0 (0 : Nat) fun v5 =>
        AM.asI IntKind.i64 v5 fun v6 =>
          AM.br (v6 != a1) (AM.bnd (AM.evCall Proofs.Tryd.prog AM.Gd.env L k (24 : Nat) [Value.int IntKind.i64 a1, Value.int IntKind.i64 (9 : Int)] σ) fun v7 v8 => some (Value.tuple #[Value.slice none (0 : Nat) (0 : Nat), v7], v8))
            (AM.bnd (AM.evCall Proofs.Tryd.prog AM.Gd.env L k (25 : Nat) [Value.pointer (some { block := a0, off := (0 : Nat) }), Value.int IntKind.i64 (2 : Int)] σ) fun v9 v10 =>
              AM.asSl v9 fun v11 v12 v13 => some (Value.tuple #[Value.slice v11 v12 v13, Value.nilIface], v10))) := by kernel_rfl
/-! (*isobar/gate.Gate).Tick: 10; parameters [g] -/
theorem f10_eq (L k : Nat) (σ : St) (a0 : Nat) : evCall Go.Proofs.Tryd.prog Go.AM.Gd.env L (k + 1) 10 [.pointer (some ⟨a0, 0, none⟩)] σ =
    AM.bnd (AM.evCall Proofs.Tryd.prog AM.Gd.env L k (12 : Nat) [Value.pointer (some { block := a0, off := (0 : Nat) })] σ) fun v1 v2 =>
  AM.asI IntKind.i64 v1 fun v3 =>
    AM.br (v3 == (0 : Int)) (some (Value.slice none (0 : Nat) (0 : Nat), v2))
      (AM.bnd (AM.evCall Proofs.Tryd.prog AM.Gd.env L k (25 : Nat) [Value.pointer (some { block := a0, off := (0 : Nat) }), Value.int IntKind.i64 (0 : Int)] v2) fun v4 v5 => AM.asSl v4 fun v6 v7 v8 => some (Value.slice v6 v7 v8, v5)) := by kernel_rfl
/-! isobar/fault.Code: 11; parameters [err] -/
theorem f11_eq (L k : Nat) (σ : St) (a0 : Value) : evCall Go.Proofs.Tryd.prog Go.AM.Gd.env L (k + 1) 11 [a0] σ =
    AM.bnd (AM.evCall Proofs.Tryd.prog AM.Gd.env L k (26 : Nat) [a0, Value.iface (68 : Nat) (Value.pointer (some { block := AM.St.next σ, off := (0 : Nat) }))] (AM.St.new σ (AM.Blk.own [Value.int IntKind.i64 (0 : Int)] (33 : Nat))))
  fun v1 v2 => AM.asB v1 fun v3 => AM.br (!v3) (some (Value.int IntKind.i64 (0 : Int), v2)) (AM.St.ld v2 (AM.St.next σ) (0 : Nat) fun v4 => AM.asI IntKind.i64 v4 fun v5 => some (Value.int IntKind.i64 v5, v2)) := by kernel_rfl
/-! (*isobar/gate.Gate).Frozen: 12; parameters [g] -/
theorem f12_eq (L k : Nat) (σ : St) (a0 : Nat) : evCall Go.Proofs.Tryd.prog Go.AM.Gd.env L (k + 1) 12 [.pointer (some ⟨a0, 0, none⟩)] σ =
    AM.St.ld σ a0 (0 : Nat) fun v1 => AM.asI IntKind.i64 v1 fun v2 => some (Value.int IntKind.i64 v2, σ) := by kernel_rfl
/-! (*isobar/gate.Gate).Enter: 18; parameters [g, c] -/
theorem f18_eq (L k : Nat) (σ : St) (a0 : Nat) (a1_0 : Int) (a1_1 : Int) (a1_2 : ByteArray) : evCall Go.Proofs.Tryd.prog Go.AM.Gd.env L (k + 1) 18 [.pointer (some ⟨a0, 0, none⟩), .agg [.int .i64 a1_0, .int .i64 a1_1, .string a1_2].toArray] σ =
    AM.St.ld (AM.St.new σ (AM.Blk.own [Value.int IntKind.i64 a1_0, Value.int IntKind.i64 a1_1, Value.string a1_2] (56 : Nat))) a0 (0 : Nat) fun v1 =>
  AM.asI IntKind.i64 v1 fun v2 =>
    AM.br (v2 == (0 : Int)) (some (Value.tuple #[Value.bool true, Value.nilIface], AM.St.new σ (AM.Blk.own [Value.int IntKind.i64 a1_0, Value.int IntKind.i64 a1_1, Value.string a1_2] (56 : Nat))))
      (AM.St.ld (AM.St.new σ (AM.Blk.own [Value.int IntKind.i64 a1_0, Value.int IntKind.i64 a1_1, Value.string a1_2] (56 : Nat))) a0 (3 : Nat) fun v3 =>
        AM.asSl v3 fun v4 v5 v6 =>
          AM.br (decide ((↑v5 : Int) ≥ (4 : Int)))
            (AM.St.ld (AM.St.new σ (AM.Blk.own [Value.int IntKind.i64 a1_0, Value.int IntKind.i64 a1_1, Value.string a1_2] (56 : Nat))) a0 (0 : Nat) fun v7 =>
              AM.asI IntKind.i64 v7 fun v8 =>
                AM.bnd
                  (AM.evCall Proofs.Tryd.prog AM.Gd.env L k (24 : Nat) [Value.int IntKind.i64 v8, Value.int IntKind.i64 (7 : Int)]
                    (AM.St.new σ (AM.Blk.own [Value.int IntKind.i64 a1_0, Value.int IntKind.i64 a1_1, Value.string a1_2] (56 : Nat))))
                  fun v9 v10 => some (Value.tuple #[Value.bool false, v9], v10))
            (AM.St.ld (AM.St.new σ (AM.Blk.own [Value.int IntKind.i64 a1_0, Value.int IntKind.i64 a1_1, Value.string a1_2] (56 : Nat))) a0 (3 : Nat) fun v11 =>
              AM.asSl v11 fun v12 v13 v14 =>
                AM.St.lds (AM.St.new σ (AM.Blk.own [Value.int IntKind.i64 a1_0, Value.int IntKind.i64 a1_1, Value.string a1_2] (56 : Nat))) (AM.St.next σ) (0 : Nat) (3 : Nat) fun v15 =>
                  AM.uncons v15 fun v16 v17 =>
                    AM.asI IntKind.i64 v16 fun v18 =>
                      AM.uncons v17 fun v19 v20 =>
                        AM.asI IntKind.i64 v19 fun v21 =>
                          AM.uncons v20 fun v22 v23 =>
                            AM.asS v22 fun v24 =>
                              AM.endl v23
                                (AM.St.ld
                                  (AM.St.new (AM.St.new σ (AM.Blk.own [Value.int IntKind.i64 a1_0, Value.int IntKind.i64 a1_1, Value.string a1_2] (56 : Nat)))
                                    (AM.Blk.own [Value.int IntKind.i64 v18, Value.int IntKind.i64 v21, Value.string v24] (56 : Nat)))
                                  a0 (3 : Nat) fun v25 =>
                                  AM.asSl v25 fun v26 v27 v28 =>
                                    AM.chk (Value.slice v26 v27 v28) (Value.slice v12 v13 v14)
                                      (AM.St.row
                                        (AM.St.new (AM.St.new σ (AM.Blk.own [Value.int IntKind.i64 a1_0, Value.int IntKind.i64 a1_1, Value.string a1_2] (56 : Nat)))
                                          (AM.Blk.own [Value.int IntKind.i64 v18, Value.int IntKind.i64 v21, Value.string v24] (56 : Nat)))
                                        (some { block := AM.St.next (AM.St.new σ (AM.Blk.own [Value.int IntKind.i64 a1_0, Value.int IntKind.i64 a1_1, Value.string a1_2] (56 : Nat))), off := (0 : Nat) }) (3 : Nat) fun v29 =>
                                        AM.grow (56 : Nat) (3 : Nat) (32 : Nat) v12 v13 v14 (1 : Nat) v29
                                          (AM.St.new (AM.St.new σ (AM.Blk.own [Value.int IntKind.i64 a1_0, Value.int IntKind.i64 a1_1, Value.string a1_2] (56 : Nat)))
                                            (AM.Blk.own [Value.int IntKind.i64 v18, Value.int IntKind.i64 v21, Value.string v24] (56 : Nat)))
                                          fun v30 v31 v32 v33 => AM.St.put v33 a0 (3 : Nat) [Value.slice v30 v31 v32] fun v34 => some (Value.tuple #[Value.bool false, Value.nilIface], v34))))) := by kernel_rfl
/-! isobar/fault.First: 21; parameters [err, op] -/
theorem f21_eq (L k : Nat) (σ : St) (a0 : Value) (a1 : ByteArray) : evCall Go.Proofs.Tryd.prog Go.AM.Gd.env L (k + 1) 21 [a0, .string a1] σ =
    AM.bnd (AM.evCall Proofs.Tryd.prog AM.Gd.env L k (28 : Nat) [a0] σ) fun v1 v2 =>
  AM.asSl v1 fun v3 v4 v5 =>
    AM.lpAt Proofs.Tryd.prog AM.Gd.env L k (21 : Nat) [true, false, true] [] L [((1 : Nat), Value.string a1), ((9 : Nat), Value.slice v3 v4 v5), ((10 : Nat), Value.int IntKind.i64 (↑v4 : Int)), ((11 : Nat), Value.int IntKind.i64 (0 : Int))]
      v2 := by kernel_rfl
theorem f21_l2 (L k n : Nat) (σ : St) (s1 : ByteArray) (s9 : Option Addr) (s9n s9z : Nat) (s10 : Int) (s11 : Int) : lpAt Go.Proofs.Tryd.prog Go.AM.Gd.env L k 21 [true, false, true] [] (n + 1) [(1, .string s1), (9, .slice s9 s9n s9z), (10, .int .i64 s10), (11, .int .i64 s11)] σ =
    AM.br (decide (s11 < s10))
  (AM.need (AM.inRange s11 (↑s9n : Int))
    (AM.adr s9 fun v1 v2 =>
      AM.St.ld σ v1 (v2 + Int.toNat s11 * (1 : Nat)) fun v3 =>
        AM.asP v3 fun v4 =>
          AM.adr v4 fun v5 v6 =>
            AM.St.ld σ v5 (v6 + (0 : Nat)) fun v7 =>
              AM.asS v7 fun v8 =>
                AM.br (ByteArray.toList v8 == ByteArray.toList s1) (AM.adr v4 fun v9 v10 => AM.St.ld σ v9 (v10 + (1 : Nat)) fun v11 => AM.asI IntKind.i64 v11 fun v12 => some (Value.tuple #[Value.int IntKind.i64 v12, Value.bool true], σ))
                  (AM.lpAt Proofs.Tryd.prog AM.Gd.env L k (21 : Nat) [true, false, true] [] n
                    [((1 : Nat), Value.string s1), ((9 : Nat), Value.slice s9 s9n s9z), ((10 : Nat), Value.int IntKind.i64 s10), ((11 : Nat), Value.int IntKind.i64 (IntKind.wrap IntKind.i64 (s11 + (1 : Int))))] σ)))
  (some (Value.tuple #[Value.int IntKind.i64 (0 : Int), Value.bool false], σ)) := by kernel_rfl
/-! isobar/gate.Known: 22; parameters [e] -/
theorem f22_eq (L k : Nat) (σ : St) (a0 : Int) : evCall Go.Proofs.Tryd.prog Go.AM.Gd.env L (k + 1) 22 [.int .i64 a0] σ =
    AM.br (a0 == (1 : Int)) (AM.br (a0 == (1 : Int)) (some (Value.bool true, σ)) (some (Value.bool false, σ)))
  (AM.br (a0 == (7 : Int)) (AM.br (a0 == (7 : Int)) (some (Value.bool true, σ)) (some (Value.bool false, σ)))
    (AM.br (a0 == (9 : Int)) (AM.br (a0 == (9 : Int)) (some (Value.bool true, σ)) (some (Value.bool false, σ))) (AM.br (a0 == (10 : Int)) (some (Value.bool true, σ)) (some (Value.bool false, σ))))) := by kernel_rfl
/-! (*isobar/gate.Gate).Waiting: 23; parameters [g] -/
theorem f23_eq (L k : Nat) (σ : St) (a0 : Nat) : evCall Go.Proofs.Tryd.prog Go.AM.Gd.env L (k + 1) 23 [.pointer (some ⟨a0, 0, none⟩)] σ =
    AM.St.ld σ a0 (3 : Nat) fun v1 => AM.asSl v1 fun v2 v3 v4 => some (Value.int IntKind.i64 (↑v3 : Int), σ) := by kernel_rfl
/-! isobar/gate.wrong: 24; parameters [round, e] -/
theorem f24_eq (L k : Nat) (σ : St) (a0 : Int) (a1 : Int) : evCall Go.Proofs.Tryd.prog Go.AM.Gd.env L (k + 1) 24 [.int .i64 a0, .int .i64 a1] σ =
    AM.bnd (AM.evCall Proofs.Tryd.prog AM.Gd.env L k (29 : Nat) [Value.string { data := #[(103 : UInt8), (97 : UInt8), (116 : UInt8), (101 : UInt8)] }, Value.int IntKind.i64 a0, Value.iface (33 : Nat) (Value.int IntKind.i64 a1)] σ) fun v1 v2 =>
  some (AM.pack [v1], v2) := by kernel_rfl
/-! (*isobar/gate.Gate).opens: 25; parameters [g, event] -/
theorem f25_eq (L k : Nat) (σ : St) (a0 : Nat) (a1 : Int) : evCall Go.Proofs.Tryd.prog Go.AM.Gd.env L (k + 1) 25 [.pointer (some ⟨a0, 0, none⟩), .int .i64 a1] σ =
    AM.br (a1 == (0 : Int))
  (AM.St.ld σ a0 (1 : Nat) fun v1 =>
    AM.asI IntKind.i64 v1 fun v2 =>
      AM.St.put σ a0 (1 : Nat) [Value.int IntKind.i64 (IntKind.wrap IntKind.i64 (v2 - (1 : Int)))] fun v3 =>
        AM.St.ld v3 a0 (1 : Nat) fun v4 =>
          AM.asI IntKind.i64 v4 fun v5 =>
            AM.br (decide (v5 > (0 : Int))) (some (Value.slice none (0 : Nat) (0 : Nat), v3))
              (AM.St.ld v3 a0 (3 : Nat) fun v6 =>
                AM.asSl v6 fun v7 v8 v9 =>
                  AM.St.put v3 a0 (3 : Nat) [Value.slice none (0 : Nat) (0 : Nat)] fun v10 =>
                    AM.St.put v10 a0 (0 : Nat) [Value.int IntKind.i64 (0 : Int)] fun v11 => AM.St.put v11 a0 (1 : Nat) [Value.int IntKind.i64 (0 : Int)] fun v12 => some (Value.slice v7 v8 v9, v12)))
  (AM.br (a1 == (1 : Int))
    (AM.br (a1 == (1 : Int))
      (AM.St.ld σ a0 (3 : Nat) fun v13 =>
        AM.asSl v13 fun v14 v15 v16 =>
          AM.St.put σ a0 (3 : Nat) [Value.slice none (0 : Nat) (0 : Nat)] fun v17 =>
            AM.St.put v17 a0 (0 : Nat) [Value.int IntKind.i64 (0 : Int)] fun v18 => AM.St.put v18 a0 (1 : Nat) [Value.int IntKind.i64 (0 : Int)] fun v19 => some (Value.slice v14 v15 v16, v19))
      (some (Value.slice none (0 : Nat) (0 : Nat), σ)))
    (AM.br (a1 == (2 : Int))
      (AM.St.ld σ a0 (3 : Nat) fun v20 =>
        AM.asSl v20 fun v21 v22 v23 =>
          AM.St.put σ a0 (3 : Nat) [Value.slice none (0 : Nat) (0 : Nat)] fun v24 =>
            AM.St.put v24 a0 (0 : Nat) [Value.int IntKind.i64 (0 : Int)] fun v25 => AM.St.put v25 a0 (1 : Nat) [Value.int IntKind.i64 (0 : Int)] fun v26 => some (Value.slice v21 v22 v23, v26))
      (some (Value.slice none (0 : Nat) (0 : Nat), σ)))) := by kernel_rfl
/-! isobar/fault.faults: 28; parameters [err] -/
theorem f28_eq (L k : Nat) (σ : St) (a0 : Value) : evCall Go.Proofs.Tryd.prog Go.AM.Gd.env L (k + 1) 28 [a0] σ =
    AM.lpAt Proofs.Tryd.prog AM.Gd.env L k (28 : Nat) [true, true, true, false] [] L [((0 : Nat), a0), ((3 : Nat), Value.slice none (0 : Nat) (0 : Nat)), ((4 : Nat), Value.pointer (some { block := AM.St.next σ, off := (0 : Nat) }))]
  (AM.St.new σ (AM.Blk.own [Value.pointer none] (71 : Nat))) := by kernel_rfl
theorem f28_l3 (L k n : Nat) (σ : St) (s0 : Value) (s3 : Option Addr) (s3n s3z : Nat) (s4 : Value) : lpAt Go.Proofs.Tryd.prog Go.AM.Gd.env L k 28 [true, true, true, false] [] (n + 1) [(0, s0), (3, .slice s3 s3n s3z), (4, s4)] σ =
    AM.bnd (AM.evCall Proofs.Tryd.prog AM.Gd.env L k (26 : Nat) [s0, Value.iface (87 : Nat) s4] σ) fun v1 v2 =>
  AM.asB v1 fun v3 =>
    AM.br v3
      (AM.asP s4 fun v4 =>
        AM.adr v4 fun v5 v6 =>
          AM.St.ld v2 v5 v6 fun v7 =>
            AM.asP v7 fun v8 =>
              AM.br (!Option.isNone v8)
                (AM.asP s4 fun v9 =>
                  AM.adr v9 fun v10 v11 =>
                    AM.St.ld v2 v10 v11 fun v12 =>
                      AM.asP v12 fun v13 =>
                        AM.St.row (AM.St.new v2 (AM.Blk.own [Value.pointer v13] (71 : Nat))) (some { block := AM.St.next v2, off := (0 : Nat) }) (1 : Nat) fun v14 =>
                          AM.grow (71 : Nat) (1 : Nat) (8 : Nat) s3 s3n s3z (1 : Nat) v14 (AM.St.new v2 (AM.Blk.own [Value.pointer v13] (71 : Nat))) fun v15 v16 v17 v18 =>
                            AM.asP s4 fun v19 =>
                              AM.adr v19 fun v20 v21 =>
                                AM.St.ld v18 v20 v21 fun v22 =>
                                  AM.asP v22 fun v23 =>
                                    AM.adr v23 fun v24 v25 =>
                                      AM.St.ld v18 v24 (v25 + (2 : Nat)) fun v26 =>
                                        AM.lpAt Proofs.Tryd.prog AM.Gd.env L k (28 : Nat) [true, true, true, false] [] n [((0 : Nat), v26), ((3 : Nat), Value.slice v15 v16 v17), ((4 : Nat), s4)] v18)
                (some (Value.slice s3 s3n s3z, v2)))
      (some (Value.slice s3 s3n s3z, v2)) := by kernel_rfl
/-! isobar/fault.Wrap: 29; parameters [op, at, err] -/
theorem f29_eq (L k : Nat) (σ : St) (a0 : ByteArray) (a1 : Int) (a2 : Value) : evCall Go.Proofs.Tryd.prog Go.AM.Gd.env L (k + 1) 29 [.string a0, .int .i64 a1, a2] σ =
    AM.eqNil a2 fun v1 =>
  AM.br v1 (some (Value.nilIface, σ))
    (AM.eqErr a2 (33 : Nat) IntKind.i64 (0 : Int) fun v2 =>
      AM.br v2 (some (Value.nilIface, σ))
        (AM.need true
          (AM.need (AM.oneCell a2) (AM.need true (some (Value.iface (71 : Nat) (Value.pointer (some { block := AM.St.next σ, off := (0 : Nat) })), AM.St.new σ (AM.Blk.own [Value.string a0, Value.int IntKind.i64 a1, a2] (73 : Nat)))))))) := by kernel_rfl
end Go.AM.Gd
