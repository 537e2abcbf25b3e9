/-
  WHAT EACH FUNCTION DOES, word by word (printed).
-/
import Derived.Test.YtopogeimdanbkaaDoorAm0
import Derived.Test.YtopogeimdanbkaaDoorEnvLd
set_option linter.unusedVariables false
set_option linter.unusedSimpArgs false
set_option linter.unusedSectionVars false
namespace Go.AM.Ld
open Go.Proofs
/-! isobar/isobarlaw10.LinkOrder: 3; parameters [l, back] -/
theorem f3_eq (L k : Nat) (σ : St) (a0 : Option Addr) (a0n a0z : Nat) (a1 : Bool) : evCall Go.Proofs.Tryd.prog Go.AM.Ld.env L (k + 1) 3 [.slice a0 a0n a0z, .bool a1] σ =
    AM.bnd (AM.evCall Proofs.Tryd.prog AM.Ld.env L k (8 : Nat) [] σ) fun v1 v2 =>
  AM.asB v1 fun v3 =>
    AM.br (!v3) (AM.bnd (AM.evCall Proofs.Tryd.prog AM.Ld.env L k (8 : Nat) [] v2) fun v4 v5 => AM.asB v4 fun v6 => some (Value.bool v6, v5))
      (AM.br (decide ((↑a0n : Int) > (200 : Int))) (AM.bnd (AM.evCall Proofs.Tryd.prog AM.Ld.env L k (8 : Nat) [] v2) fun v7 v8 => AM.asB v7 fun v9 => some (Value.bool v9, v8))
        (AM.bnd (AM.evCall Proofs.Tryd.prog AM.Ld.env L k (9 : Nat) [Value.int IntKind.i64 (↑a0n : Int)] v2) fun v10 v11 =>
          AM.asP v10 fun v12 =>
            AM.lpAt Proofs.Tryd.prog AM.Ld.env L k (3 : Nat) [true, true, true, false, true] [] L
              [((0 : Nat), Value.slice a0 a0n a0z), ((1 : Nat), Value.bool a1), ((5 : Nat), Value.pointer v12), ((26 : Nat), Value.int IntKind.i64 (↑a0n : Int)), ((27 : Nat), Value.int IntKind.i64 (0 : Int))] v11)) := by kernel_rfl
theorem f3_l5 (L k n : Nat) (σ : St) (s0 : Option Addr) (s0n s0z : Nat) (s1 : Bool) (s5 o5 : Nat) (s26 : Int) (s27 : Int) : lpAt Go.Proofs.Tryd.prog Go.AM.Ld.env L k 3 [true, true, true, false, true] [] (n + 1) [(0, .slice s0 s0n s0z), (1, .bool s1), (5, .pointer (some ⟨s5, o5, none⟩)), (26, .int .i64 s26), (27, .int .i64 s27)] σ =
    AM.br (decide (s27 < s26))
  (AM.need (AM.inRange s27 (↑s0n : Int))
    (AM.adr s0 fun v1 v2 =>
      AM.St.ld σ v1 (v2 + Int.toNat s27 * (1 : Nat)) fun v3 =>
        AM.asS v3 fun v4 =>
          AM.bnd (AM.evCall Proofs.Tryd.prog AM.Ld.env L k (10 : Nat) [Value.pointer (some { block := s5, off := o5 }), Value.string v4] σ) fun v5 v6 =>
            AM.eqNil v5 fun v7 =>
              AM.br (!v7) (some (Value.bool false, v6))
                (AM.lpAt Proofs.Tryd.prog AM.Ld.env L k (3 : Nat) [true, true, true, false, true] [] n
                  [((0 : Nat), Value.slice s0 s0n s0z), ((1 : Nat), Value.bool s1), ((5 : Nat), Value.pointer (some { block := s5, off := o5 })), ((26 : Nat), Value.int IntKind.i64 s26),
                    ((27 : Nat), Value.int IntKind.i64 (IntKind.wrap IntKind.i64 (s27 + (1 : Int))))]
                  v6)))
  (AM.bnd (AM.evCall Proofs.Tryd.prog AM.Ld.env L k (10 : Nat) [Value.pointer (some { block := s5, off := o5 }), Value.string { data := #[] }] σ) fun v8 v9 =>
    AM.bnd (AM.evCall Proofs.Tryd.prog AM.Ld.env L k (11 : Nat) [v8] v9) fun v10 v11 =>
      AM.asI IntKind.i64 v10 fun v12 =>
        AM.br (v12 != (6 : Int)) (some (Value.bool false, v11))
          (AM.lpAt Proofs.Tryd.prog AM.Ld.env L k (3 : Nat) [true, true, true, true, true, false, true] [] L
            [((0 : Nat), Value.slice s0 s0n s0z), ((1 : Nat), Value.bool s1), ((5 : Nat), Value.pointer (some { block := s5, off := o5 })), ((43 : Nat), Value.int IntKind.i64 (↑s0n : Int)), ((44 : Nat), Value.int IntKind.i64 (0 : Int))]
            v11)) := by kernel_rfl
theorem f3_l13 (L k n : Nat) (σ : St) (s0 : Option Addr) (s0n s0z : Nat) (s1 : Bool) (s5 o5 : Nat) (s43 : Int) (s44 : Int) : lpAt Go.Proofs.Tryd.prog Go.AM.Ld.env L k 3 [true, true, true, true, true, false, true] [] (n + 1) [(0, .slice s0 s0n s0z), (1, .bool s1), (5, .pointer (some ⟨s5, o5, none⟩)), (43, .int .i64 s43), (44, .int .i64 s44)] σ =
    AM.br (decide (s44 < s43))
  (AM.need (AM.inRange s44 (↑s0n : Int))
    (AM.adr s0 fun v1 v2 =>
      AM.St.ld σ v1 (v2 + Int.toNat s44 * (1 : Nat)) fun v3 =>
        AM.asS v3 fun v4 =>
          AM.br s1
            (AM.bnd (AM.evCall Proofs.Tryd.prog AM.Ld.env L k (12 : Nat) [Value.pointer (some { block := s5, off := o5 })] σ) fun v5 v6 =>
              AM.asI IntKind.i64 v5 fun v7 =>
                AM.need (AM.inRange (IntKind.wrap IntKind.i64 (IntKind.wrap IntKind.i64 ((↑s0n : Int) - (1 : Int)) - s44)) (↑s0n : Int))
                  (AM.adr s0 fun v8 v9 =>
                    AM.St.ld v6 v8 (v9 + Int.toNat (IntKind.wrap IntKind.i64 (IntKind.wrap IntKind.i64 ((↑s0n : Int) - (1 : Int)) - s44)) * (1 : Nat)) fun v10 =>
                      AM.asS v10 fun v11 =>
                        AM.St.ld σ v8 (v9 + Int.toNat (IntKind.wrap IntKind.i64 (IntKind.wrap IntKind.i64 ((↑s0n : Int) - (1 : Int)) - s44)) * (1 : Nat)) fun v12 =>
                          AM.asS v12 fun v13 =>
                            AM.chk (Value.string v13) (Value.string v11)
                              (AM.bnd (AM.evCall Proofs.Tryd.prog AM.Ld.env L k (13 : Nat) [Value.pointer (some { block := s5, off := o5 }), Value.int IntKind.i64 (IntKind.wrap IntKind.i64 (v7 - (1 : Int)))] v6) fun v14 v15 =>
                                AM.asT v14 fun v16 =>
                                  AM.uncons v16 fun v17 v18 =>
                                    AM.asS v17 fun v19 =>
                                      AM.uncons v18 fun v20 v21 =>
                                        AM.endl v21
                                          (AM.br (!ByteArray.toList v19 == ByteArray.toList v11) (some (Value.bool false, v15))
                                            (AM.eqNil v20 fun v22 =>
                                              AM.br (!v22) (some (Value.bool false, v15))
                                                (AM.lpAt Proofs.Tryd.prog AM.Ld.env L k (3 : Nat) [true, true, true, true, true, false, true] [] n
                                                  [((0 : Nat), Value.slice s0 s0n s0z), ((1 : Nat), Value.bool s1), ((5 : Nat), Value.pointer (some { block := s5, off := o5 })), ((43 : Nat), Value.int IntKind.i64 s43),
                                                    ((44 : Nat), Value.int IntKind.i64 (IntKind.wrap IntKind.i64 (s44 + (1 : Int))))]
                                                  v15))))))
            (AM.bnd (AM.evCall Proofs.Tryd.prog AM.Ld.env L k (13 : Nat) [Value.pointer (some { block := s5, off := o5 }), Value.int IntKind.i64 (0 : Int)] σ) fun v23 v24 =>
              AM.asT v23 fun v25 =>
                AM.uncons v25 fun v26 v27 =>
                  AM.asS v26 fun v28 =>
                    AM.uncons v27 fun v29 v30 =>
                      AM.endl v30
                        (AM.br (!ByteArray.toList v28 == ByteArray.toList v4) (some (Value.bool false, v24))
                          (AM.eqNil v29 fun v31 =>
                            AM.br (!v31) (some (Value.bool false, v24))
                              (AM.lpAt Proofs.Tryd.prog AM.Ld.env L k (3 : Nat) [true, true, true, true, true, false, true] [] n
                                [((0 : Nat), Value.slice s0 s0n s0z), ((1 : Nat), Value.bool s1), ((5 : Nat), Value.pointer (some { block := s5, off := o5 })), ((43 : Nat), Value.int IntKind.i64 s43),
                                  ((44 : Nat), Value.int IntKind.i64 (IntKind.wrap IntKind.i64 (s44 + (1 : Int))))]
                                v24))))))
  (AM.bnd (AM.evCall Proofs.Tryd.prog AM.Ld.env L k (13 : Nat) [Value.pointer (some { block := s5, off := o5 }), Value.int IntKind.i64 (0 : Int)] σ) fun v32 v33 =>
    AM.asT v32 fun v34 =>
      AM.uncons v34 fun v35 v36 =>
        AM.asS v35 fun v37 =>
          AM.uncons v36 fun v38 v39 =>
            AM.endl v39
              (AM.bnd (AM.evCall Proofs.Tryd.prog AM.Ld.env L k (12 : Nat) [Value.pointer (some { block := s5, off := o5 })] v33) fun v40 v41 =>
                AM.asI IntKind.i64 v40 fun v42 =>
                  AM.br (v42 == (0 : Int)) (AM.bnd (AM.evCall Proofs.Tryd.prog AM.Ld.env L k (11 : Nat) [v38] v41) fun v43 v44 => AM.asI IntKind.i64 v43 fun v45 => some (Value.bool (v45 == (5 : Int)), v44)) (some (Value.bool false, v41)))) := by kernel_rfl
/-! isobar/isobarlaw10.LinkRoom: 4; parameters [room, drop] -/
theorem f4_eq (L k : Nat) (σ : St) (a0 : Int) (a1 : Bool) : evCall Go.Proofs.Tryd.prog Go.AM.Ld.env L (k + 1) 4 [.int .i64 a0, .bool a1] σ =
    AM.bnd (AM.evCall Proofs.Tryd.prog AM.Ld.env L k (8 : Nat) [] σ) fun v1 v2 =>
  AM.asB v1 fun v3 =>
    AM.br (!v3) (some (Value.bool false, v2))
      (AM.bnd (AM.evCall Proofs.Tryd.prog AM.Ld.env L k (14 : Nat) [Value.int IntKind.i64 a0] v2) fun v4 v5 =>
        AM.asP v4 fun v6 =>
          AM.lpAt Proofs.Tryd.prog AM.Ld.env L k (4 : Nat) [true, true, true, true, false, true] [] L
            [((1 : Nat), Value.bool a1), ((5 : Nat), Value.pointer v6), ((6 : Nat), Value.int IntKind.i64 (AM.mx (0 : Int) (AM.mn a0 (4096 : Int)))), ((17 : Nat), Value.int IntKind.i64 (AM.mx (0 : Int) (AM.mn a0 (4096 : Int)))),
              ((18 : Nat), Value.int IntKind.i64 (0 : Int))]
            v5) := by kernel_rfl
theorem f4_l6 (L k n : Nat) (σ : St) (s1 : Bool) (s5 o5 : Nat) (s6 : Int) (s17 : Int) (s18 : Int) : lpAt Go.Proofs.Tryd.prog Go.AM.Ld.env L k 4 [true, true, true, true, false, true] [] (n + 1) [(1, .bool s1), (5, .pointer (some ⟨s5, o5, none⟩)), (6, .int .i64 s6), (17, .int .i64 s17), (18, .int .i64 s18)] σ =
    AM.br (decide (s18 < s17))
  (AM.bnd (AM.evCall Proofs.Tryd.prog AM.Ld.env L k (15 : Nat) [Value.pointer (some { block := s5, off := o5 }), Value.int IntKind.i64 s18] σ) fun v1 v2 =>
    AM.eqNil v1 fun v3 =>
      AM.br (!v3) (some (Value.bool false, v2))
        (AM.lpAt Proofs.Tryd.prog AM.Ld.env L k (4 : Nat) [true, true, true, true, false, true] [] n
          [((1 : Nat), Value.bool s1), ((5 : Nat), Value.pointer (some { block := s5, off := o5 })), ((6 : Nat), Value.int IntKind.i64 s6), ((17 : Nat), Value.int IntKind.i64 s17),
            ((18 : Nat), Value.int IntKind.i64 (IntKind.wrap IntKind.i64 (s18 + (1 : Int))))]
          v2))
  (AM.bnd (AM.evCall Proofs.Tryd.prog AM.Ld.env L k (15 : Nat) [Value.pointer (some { block := s5, off := o5 }), Value.int IntKind.i64 (0 : Int)] σ) fun v4 v5 =>
    AM.bnd (AM.evCall Proofs.Tryd.prog AM.Ld.env L k (11 : Nat) [v4] v5) fun v6 v7 =>
      AM.asI IntKind.i64 v6 fun v8 =>
        AM.br (v8 != (6 : Int)) (some (Value.bool false, v7))
          (AM.bnd (AM.evCall Proofs.Tryd.prog AM.Ld.env L k (16 : Nat) [Value.pointer (some { block := s5, off := o5 })] v7) fun v9 v10 =>
            AM.asI IntKind.i64 v9 fun v11 =>
              AM.br (v11 != s6) (some (Value.bool false, v10))
                (AM.br (s6 == (0 : Int))
                  (AM.bnd (AM.evCall Proofs.Tryd.prog AM.Ld.env L k (17 : Nat) [Value.pointer (some { block := s5, off := o5 }), Value.int IntKind.i64 (0 : Int)] v10) fun v12 v13 =>
                    AM.bnd (AM.evCall Proofs.Tryd.prog AM.Ld.env L k (11 : Nat) [v12] v13) fun v14 v15 => AM.asI IntKind.i64 v14 fun v16 => some (Value.bool (v16 == (5 : Int)), v15))
                  (AM.bnd (AM.evCall Proofs.Tryd.prog AM.Ld.env L k (17 : Nat) [Value.pointer (some { block := s5, off := o5 }), Value.int IntKind.i64 (IntKind.wrap IntKind.i64 (s6 - (1 : Int)))] v10) fun v17 v18 =>
                    AM.bnd (AM.evCall Proofs.Tryd.prog AM.Ld.env L k (11 : Nat) [v17] v18) fun v19 v20 =>
                      AM.asI IntKind.i64 v19 fun v21 =>
                        AM.br (v21 != (6 : Int)) (some (Value.bool false, v20))
                          (AM.br s1
                            (AM.bnd (AM.evCall Proofs.Tryd.prog AM.Ld.env L k (18 : Nat) [Value.pointer (some { block := s5, off := o5 }), Value.int IntKind.i64 (0 : Int)] v20) fun v22 v23 =>
                              AM.eqNil v22 fun v24 =>
                                AM.br (!v24) (some (Value.bool false, v23))
                                  (AM.bnd (AM.evCall Proofs.Tryd.prog AM.Ld.env L k (16 : Nat) [Value.pointer (some { block := s5, off := o5 })] v23) fun v25 v26 =>
                                    AM.asI IntKind.i64 v25 fun v27 =>
                                      AM.br (v27 == IntKind.wrap IntKind.i64 (s6 - (1 : Int)))
                                        (AM.bnd (AM.evCall Proofs.Tryd.prog AM.Ld.env L k (15 : Nat) [Value.pointer (some { block := s5, off := o5 }), Value.int IntKind.i64 (9 : Int)] v26) fun v28 v29 =>
                                          AM.eqNil v28 fun v30 =>
                                            AM.br v30
                                              (AM.bnd (AM.evCall Proofs.Tryd.prog AM.Ld.env L k (16 : Nat) [Value.pointer (some { block := s5, off := o5 })] v29) fun v31 v32 =>
                                                AM.asI IntKind.i64 v31 fun v33 => some (Value.bool (v33 == s6), v32))
                                              (some (Value.bool false, v29)))
                                        (some (Value.bool false, v26))))
                            (AM.bnd (AM.evCall Proofs.Tryd.prog AM.Ld.env L k (19 : Nat) [Value.pointer (some { block := s5, off := o5 }), Value.int IntKind.i64 (0 : Int)] v20) fun v34 v35 =>
                              AM.asT v34 fun v36 =>
                                AM.uncons v36 fun v37 v38 =>
                                  AM.asI IntKind.i64 v37 fun v39 =>
                                    AM.uncons v38 fun v40 v41 =>
                                      AM.endl v41
                                        (AM.br (v39 != (0 : Int)) (some (Value.bool false, v35))
                                          (AM.eqNil v40 fun v42 =>
                                            AM.br (!v42) (some (Value.bool false, v35))
                                              (AM.bnd (AM.evCall Proofs.Tryd.prog AM.Ld.env L k (16 : Nat) [Value.pointer (some { block := s5, off := o5 })] v35) fun v43 v44 =>
                                                AM.asI IntKind.i64 v43 fun v45 =>
                                                  AM.br (v45 == IntKind.wrap IntKind.i64 (s6 - (1 : Int)))
                                                    (AM.bnd (AM.evCall Proofs.Tryd.prog AM.Ld.env L k (15 : Nat) [Value.pointer (some { block := s5, off := o5 }), Value.int IntKind.i64 (9 : Int)] v44) fun v46 v47 =>
                                                      AM.eqNil v46 fun v48 =>
                                                        AM.br v48
                                                          (AM.bnd (AM.evCall Proofs.Tryd.prog AM.Ld.env L k (16 : Nat) [Value.pointer (some { block := s5, off := o5 })] v47) fun v49 v50 =>
                                                            AM.asI IntKind.i64 v49 fun v51 => some (Value.bool (v51 == s6), v50))
                                                          (some (Value.bool false, v47)))
                                                    (some (Value.bool false, v44))))))))))) := by kernel_rfl
/-! isobar/isobarlaw10.LinkCut: 5; parameters [l, at] -/
theorem f5_eq (L k : Nat) (σ : St) (a0 : Option Addr) (a0n a0z : Nat) (a1 : Int) : evCall Go.Proofs.Tryd.prog Go.AM.Ld.env L (k + 1) 5 [.slice a0 a0n a0z, .int .i64 a1] σ =
    AM.bnd (AM.evCall Proofs.Tryd.prog AM.Ld.env L k (8 : Nat) [] σ) fun v1 v2 =>
  AM.asB v1 fun v3 =>
    AM.br (!v3) (AM.bnd (AM.evCall Proofs.Tryd.prog AM.Ld.env L k (8 : Nat) [] v2) fun v4 v5 => AM.asB v4 fun v6 => some (Value.bool v6, v5))
      (AM.br (decide ((↑a0n : Int) > (200 : Int))) (AM.bnd (AM.evCall Proofs.Tryd.prog AM.Ld.env L k (8 : Nat) [] v2) fun v7 v8 => AM.asB v7 fun v9 => some (Value.bool v9, v8))
        (AM.bnd (AM.evCall Proofs.Tryd.prog AM.Ld.env L k (9 : Nat) [Value.int IntKind.i64 (↑a0n : Int)] v2) fun v10 v11 =>
          AM.asP v10 fun v12 =>
            AM.lpAt Proofs.Tryd.prog AM.Ld.env L k (5 : Nat) [true, true, true, false, true] [] L
              [((0 : Nat), Value.slice a0 a0n a0z), ((1 : Nat), Value.int IntKind.i64 a1), ((5 : Nat), Value.pointer v12), ((24 : Nat), Value.int IntKind.i64 (↑a0n : Int)), ((25 : Nat), Value.int IntKind.i64 (0 : Int))] v11)) := by kernel_rfl
theorem f5_l5 (L k n : Nat) (σ : St) (s0 : Option Addr) (s0n s0z : Nat) (s1 : Int) (s5 o5 : Nat) (s24 : Int) (s25 : Int) : lpAt Go.Proofs.Tryd.prog Go.AM.Ld.env L k 5 [true, true, true, false, true] [] (n + 1) [(0, .slice s0 s0n s0z), (1, .int .i64 s1), (5, .pointer (some ⟨s5, o5, none⟩)), (24, .int .i64 s24), (25, .int .i64 s25)] σ =
    AM.br (decide (s25 < s24))
  (AM.bnd (AM.evCall Proofs.Tryd.prog AM.Ld.env L k (20 : Nat) [Value.pointer (some { block := s5, off := o5 }), Value.bool (Int.tmod s25 (2 : Int) == (0 : Int))] σ) fun v1 v2 =>
    AM.asT v1 fun v3 =>
      AM.endl v3
        (AM.need (AM.inRange s25 (↑s0n : Int))
          (AM.adr s0 fun v4 v5 =>
            AM.St.ld v2 v4 (v5 + Int.toNat s25 * (1 : Nat)) fun v6 =>
              AM.asS v6 fun v7 =>
                AM.bnd (AM.evCall Proofs.Tryd.prog AM.Ld.env L k (10 : Nat) [Value.pointer (some { block := s5, off := o5 }), Value.string v7] v2) fun v8 v9 =>
                  AM.eqNil v8 fun v10 =>
                    AM.br (!v10) (some (Value.bool false, v9))
                      (AM.lpAt Proofs.Tryd.prog AM.Ld.env L k (5 : Nat) [true, true, true, false, true] [] n
                        [((0 : Nat), Value.slice s0 s0n s0z), ((1 : Nat), Value.int IntKind.i64 s1), ((5 : Nat), Value.pointer (some { block := s5, off := o5 })), ((24 : Nat), Value.int IntKind.i64 s24),
                          ((25 : Nat), Value.int IntKind.i64 (IntKind.wrap IntKind.i64 (s25 + (1 : Int))))]
                        v9))))
  (AM.bnd (AM.evCall Proofs.Tryd.prog AM.Ld.env L k (20 : Nat) [Value.pointer (some { block := s5, off := o5 }), Value.bool true] σ) fun v11 v12 =>
    AM.asT v11 fun v13 =>
      AM.endl v13
        (AM.bnd (AM.evCall Proofs.Tryd.prog AM.Ld.env L k (13 : Nat) [Value.pointer (some { block := s5, off := o5 }), Value.int IntKind.i64 s1] v12) fun v14 v15 =>
          AM.asT v14 fun v16 =>
            AM.uncons v16 fun v17 v18 =>
              AM.asS v17 fun v19 =>
                AM.uncons v18 fun v20 v21 =>
                  AM.endl v21
                    (AM.bnd (AM.evCall Proofs.Tryd.prog AM.Ld.env L k (11 : Nat) [v20] v15) fun v22 v23 =>
                      AM.asI IntKind.i64 v22 fun v24 =>
                        AM.br (v24 != (11 : Int)) (some (Value.bool false, v23))
                          (AM.bnd (AM.evCall Proofs.Tryd.prog AM.Ld.env L k (12 : Nat) [Value.pointer (some { block := s5, off := o5 })] v23) fun v25 v26 =>
                            AM.asI IntKind.i64 v25 fun v27 =>
                              AM.br (v27 != (↑s0n : Int)) (some (Value.bool false, v26))
                                (AM.bnd (AM.evCall Proofs.Tryd.prog AM.Ld.env L k (20 : Nat) [Value.pointer (some { block := s5, off := o5 }), Value.bool false] v26) fun v28 v29 =>
                                  AM.asT v28 fun v30 =>
                                    AM.endl v30
                                      (AM.lpAt Proofs.Tryd.prog AM.Ld.env L k (5 : Nat) [true, true, true, true, true, true, true, true, false, true] [] L
                                        [((0 : Nat), Value.slice s0 s0n s0z), ((5 : Nat), Value.pointer (some { block := s5, off := o5 })), ((62 : Nat), Value.int IntKind.i64 (↑s0n : Int)), ((63 : Nat), Value.int IntKind.i64 (0 : Int))]
                                        v29)))))) := by kernel_rfl
theorem f5_l17 (L k n : Nat) (σ : St) (s0 : Option Addr) (s0n s0z : Nat) (s5 o5 : Nat) (s62 : Int) (s63 : Int) : lpAt Go.Proofs.Tryd.prog Go.AM.Ld.env L k 5 [true, true, true, true, true, true, true, true, false, true] [] (n + 1) [(0, .slice s0 s0n s0z), (5, .pointer (some ⟨s5, o5, none⟩)), (62, .int .i64 s62), (63, .int .i64 s63)] σ =
    AM.br (decide (s63 < s62))
  (AM.bnd (AM.evCall Proofs.Tryd.prog AM.Ld.env L k (13 : Nat) [Value.pointer (some { block := s5, off := o5 }), Value.int IntKind.i64 (0 : Int)] σ) fun v1 v2 =>
    AM.asT v1 fun v3 =>
      AM.uncons v3 fun v4 v5 =>
        AM.asS v4 fun v6 =>
          AM.uncons v5 fun v7 v8 =>
            AM.endl v8
              (AM.eqNil v7 fun v9 =>
                AM.br (!v9) (some (Value.bool false, v2))
                  (AM.need (AM.inRange s63 (↑s0n : Int))
                    (AM.adr s0 fun v10 v11 =>
                      AM.St.ld v2 v10 (v11 + Int.toNat s63 * (1 : Nat)) fun v12 =>
                        AM.asS v12 fun v13 =>
                          AM.br (!ByteArray.toList v6 == ByteArray.toList v13) (some (Value.bool false, v2))
                            (AM.lpAt Proofs.Tryd.prog AM.Ld.env L k (5 : Nat) [true, true, true, true, true, true, true, true, false, true] [] n
                              [((0 : Nat), Value.slice s0 s0n s0z), ((5 : Nat), Value.pointer (some { block := s5, off := o5 })), ((62 : Nat), Value.int IntKind.i64 s62),
                                ((63 : Nat), Value.int IntKind.i64 (IntKind.wrap IntKind.i64 (s63 + (1 : Int))))]
                              v2)))))
  (some (Value.bool true, σ)) := by kernel_rfl
/-! isobar/isobarlaw10.awake: 8; parameters [] -/
theorem f8_eq (L k : Nat) (σ : St)  : evCall Go.Proofs.Tryd.prog Go.AM.Ld.env L (k + 1) 8 [] σ =
    AM.bnd (AM.evCall Proofs.Tryd.prog AM.Ld.env L k (14 : Nat) [Value.int IntKind.i64 (2 : Int)] σ) fun v1 v2 =>
  AM.asP v1 fun v3 =>
    AM.br (Option.isNone v3) (some (Value.bool false, v2))
      (AM.bnd (AM.evCall Proofs.Tryd.prog AM.Ld.env L k (15 : Nat) [Value.pointer v3, Value.int IntKind.i64 (7 : Int)] v2) fun v4 v5 =>
        AM.eqNil v4 fun v6 =>
          AM.br (!v6) (some (Value.bool false, v5))
            (AM.bnd (AM.evCall Proofs.Tryd.prog AM.Ld.env L k (17 : Nat) [Value.pointer v3, Value.int IntKind.i64 (0 : Int)] v5) fun v7 v8 =>
              AM.eqNil v7 fun v9 =>
                AM.br (!v9) (some (Value.bool false, v8))
                  (AM.bnd (AM.evCall Proofs.Tryd.prog AM.Ld.env L k (16 : Nat) [Value.pointer v3] v8) fun v10 v11 =>
                    AM.asI IntKind.i64 v10 fun v12 =>
                      AM.br (v12 != (2 : Int)) (some (Value.bool false, v11))
                        (AM.bnd (AM.evCall Proofs.Tryd.prog AM.Ld.env L k (19 : Nat) [Value.pointer v3, Value.int IntKind.i64 (1 : Int)] v11) fun v13 v14 =>
                          AM.asT v13 fun v15 =>
                            AM.uncons v15 fun v16 v17 =>
                              AM.asI IntKind.i64 v16 fun v18 =>
                                AM.uncons v17 fun v19 v20 =>
                                  AM.endl v20
                                    (AM.br (v18 == (7 : Int))
                                      (AM.eqNil v19 fun v21 =>
                                        AM.br v21 (AM.bnd (AM.evCall Proofs.Tryd.prog AM.Ld.env L k (16 : Nat) [Value.pointer v3] v14) fun v22 v23 => AM.asI IntKind.i64 v22 fun v24 => some (Value.bool (v24 == (1 : Int)), v23))
                                          (some (Value.bool false, v14)))
                                      (some (Value.bool false, v14))))))) := by kernel_rfl
/-! isobar/link.New[string]: 9; parameters [room] -/
theorem f9_eq (L k : Nat) (σ : St) (a0 : Int) : evCall Go.Proofs.Tryd.prog Go.AM.Ld.env L (k + 1) 9 [.int .i64 a0] σ =
    some (Value.pointer (some { block := AM.St.next σ, off := (0 : Nat) }), AM.St.new σ (AM.Blk.own [Value.slice none (0 : Nat) (0 : Nat), Value.int IntKind.i64 (AM.mx (0 : Int) (AM.mn a0 (4096 : Int))), Value.bool false] (59 : Nat))) := by kernel_rfl
/-! (*isobar/link.Link[string]).Send: 10; parameters [l, x] -/
theorem f10_eq (L k : Nat) (σ : St) (a0 : Nat) (a1 : ByteArray) : evCall Go.Proofs.Tryd.prog Go.AM.Ld.env L (k + 1) 10 [.pointer (some ⟨a0, 0, none⟩), .string a1] σ =
    AM.St.ld σ a0 (0 : Nat) fun v1 =>
  AM.asSl v1 fun v2 v3 v4 => AM.bnd (AM.evCall Proofs.Tryd.prog AM.Ld.env L k (31 : Nat) [Value.pointer (some { block := a0, off := (0 : Nat) }), Value.string a1, Value.int IntKind.i64 (↑v3 : Int)] σ) fun v5 v6 => some (AM.pack [v5], v6) := by kernel_rfl
/-! isobar/fault.Code: 11; parameters [err] -/
theorem f11_eq (L k : Nat) (σ : St) (a0 : Value) : evCall Go.Proofs.Tryd.prog Go.AM.Ld.env L (k + 1) 11 [a0] σ =
    AM.bnd (AM.evCall Proofs.Tryd.prog AM.Ld.env L k (32 : Nat) [a0, Value.iface (64 : Nat) (Value.pointer (some { block := AM.St.next σ, off := (0 : Nat) }))] (AM.St.new σ (AM.Blk.own [Value.int IntKind.i64 (0 : Int)] (29 : Nat))))
  fun v1 v2 => AM.asB v1 fun v3 => AM.br (!v3) (some (Value.int IntKind.i64 (0 : Int), v2)) (AM.St.ld v2 (AM.St.next σ) (0 : Nat) fun v4 => AM.asI IntKind.i64 v4 fun v5 => some (Value.int IntKind.i64 v5, v2)) := by kernel_rfl
/-! (*isobar/link.Link[string]).Len: 12; parameters [l] -/
theorem f12_eq (L k : Nat) (σ : St) (a0 : Nat) : evCall Go.Proofs.Tryd.prog Go.AM.Ld.env L (k + 1) 12 [.pointer (some ⟨a0, 0, none⟩)] σ =
    AM.St.ld σ a0 (0 : Nat) fun v1 => AM.asSl v1 fun v2 v3 v4 => some (Value.int IntKind.i64 (↑v3 : Int), σ) := by kernel_rfl
/-! (*isobar/link.Link[string]).Deliver: 13; parameters [l, i] -/
theorem f13_eq (L k : Nat) (σ : St) (a0 : Nat) (a1 : Int) : evCall Go.Proofs.Tryd.prog Go.AM.Ld.env L (k + 1) 13 [.pointer (some ⟨a0, 0, none⟩), .int .i64 a1] σ =
    AM.St.ld σ a0 (2 : Nat) fun v1 =>
  AM.asB v1 fun v2 =>
    AM.br v2 (AM.bnd (AM.evCall Proofs.Tryd.prog AM.Ld.env L k (30 : Nat) [Value.int IntKind.i64 a1, Value.int IntKind.i64 (11 : Int)] σ) fun v3 v4 => some (Value.tuple #[Value.string { data := #[] }, v3], v4))
      (AM.bnd (AM.evCall Proofs.Tryd.prog AM.Ld.env L k (33 : Nat) [Value.pointer (some { block := a0, off := (0 : Nat) }), Value.int IntKind.i64 a1] σ) fun v5 v6 =>
        AM.eqNil v5 fun v7 =>
          AM.br (!v7) (some (Value.tuple #[Value.string { data := #[] }, v5], v6))
            (AM.St.ld v6 a0 (0 : Nat) fun v8 =>
              AM.asSl v8 fun v9 v10 v11 =>
                AM.need (AM.inRange a1 (↑v10 : Int))
                  (AM.adr v9 fun v12 v13 =>
                    AM.St.ld v6 v12 (v13 + Int.toNat a1 * (1 : Nat)) fun v14 =>
                      AM.asS v14 fun v15 =>
                        AM.bnd (AM.evCall Proofs.Tryd.prog AM.Ld.env L k (27 : Nat) [Value.pointer (some { block := a0, off := (0 : Nat) }), Value.int IntKind.i64 a1] v6) fun v16 v17 => some (Value.tuple #[Value.string v15, v16], v17)))) := by kernel_rfl
/-! isobar/link.New[int]: 14; parameters [room] -/
theorem f14_eq (L k : Nat) (σ : St) (a0 : Int) : evCall Go.Proofs.Tryd.prog Go.AM.Ld.env L (k + 1) 14 [.int .i64 a0] σ =
    some (Value.pointer (some { block := AM.St.next σ, off := (0 : Nat) }), AM.St.new σ (AM.Blk.own [Value.slice none (0 : Nat) (0 : Nat), Value.int IntKind.i64 (AM.mx (0 : Int) (AM.mn a0 (4096 : Int))), Value.bool false] (67 : Nat))) := by kernel_rfl
/-! (*isobar/link.Link[int]).Send: 15; parameters [l, x] -/
theorem f15_eq (L k : Nat) (σ : St) (a0 : Nat) (a1 : Int) : evCall Go.Proofs.Tryd.prog Go.AM.Ld.env L (k + 1) 15 [.pointer (some ⟨a0, 0, none⟩), .int .i64 a1] σ =
    AM.St.ld σ a0 (0 : Nat) fun v1 =>
  AM.asSl v1 fun v2 v3 v4 =>
    AM.bnd (AM.evCall Proofs.Tryd.prog AM.Ld.env L k (34 : Nat) [Value.pointer (some { block := a0, off := (0 : Nat) }), Value.int IntKind.i64 a1, Value.int IntKind.i64 (↑v3 : Int)] σ) fun v5 v6 => some (AM.pack [v5], v6) := by kernel_rfl
/-! (*isobar/link.Link[int]).Len: 16; parameters [l] -/
theorem f16_eq (L k : Nat) (σ : St) (a0 : Nat) : evCall Go.Proofs.Tryd.prog Go.AM.Ld.env L (k + 1) 16 [.pointer (some ⟨a0, 0, none⟩)] σ =
    AM.St.ld σ a0 (0 : Nat) fun v1 => AM.asSl v1 fun v2 v3 v4 => some (Value.int IntKind.i64 (↑v3 : Int), σ) := by kernel_rfl
/-! (*isobar/link.Link[int]).Double: 17; parameters [l, i] -/
theorem f17_eq (L k : Nat) (σ : St) (a0 : Nat) (a1 : Int) : evCall Go.Proofs.Tryd.prog Go.AM.Ld.env L (k + 1) 17 [.pointer (some ⟨a0, 0, none⟩), .int .i64 a1] σ =
    AM.bnd (AM.evCall Proofs.Tryd.prog AM.Ld.env L k (35 : Nat) [Value.pointer (some { block := a0, off := (0 : Nat) }), Value.int IntKind.i64 a1] σ) fun v1 v2 =>
  AM.eqNil v1 fun v3 =>
    AM.br (!v3) (some (AM.pack [v1], v2))
      (AM.St.ld v2 a0 (0 : Nat) fun v4 =>
        AM.asSl v4 fun v5 v6 v7 =>
          AM.need (AM.inRange a1 (↑v6 : Int))
            (AM.adr v5 fun v8 v9 =>
              AM.St.ld v2 v8 (v9 + Int.toNat a1 * (1 : Nat)) fun v10 =>
                AM.asI IntKind.i64 v10 fun v11 =>
                  AM.bnd (AM.evCall Proofs.Tryd.prog AM.Ld.env L k (34 : Nat) [Value.pointer (some { block := a0, off := (0 : Nat) }), Value.int IntKind.i64 v11, Value.int IntKind.i64 a1] v2) fun v12 v13 => some (AM.pack [v12], v13))) := by kernel_rfl
/-! (*isobar/link.Link[int]).Drop: 18; parameters [l, i] -/
theorem f18_eq (L k : Nat) (σ : St) (a0 : Nat) (a1 : Int) : evCall Go.Proofs.Tryd.prog Go.AM.Ld.env L (k + 1) 18 [.pointer (some ⟨a0, 0, none⟩), .int .i64 a1] σ =
    AM.bnd (AM.evCall Proofs.Tryd.prog AM.Ld.env L k (35 : Nat) [Value.pointer (some { block := a0, off := (0 : Nat) }), Value.int IntKind.i64 a1] σ) fun v1 v2 =>
  AM.eqNil v1 fun v3 =>
    AM.br (!v3) (some (AM.pack [v1], v2))
      (AM.St.ld v2 a0 (0 : Nat) fun v4 =>
        AM.asSl v4 fun v5 v6 v7 =>
          AM.need (Nat.beq v7 (0 : Nat) || Nat.beq v7 (1 : Nat))
            (AM.need (AM.inRange a1 ((↑v6 : Int) + (1 : Int)))
              (AM.St.ld v2 a0 (0 : Nat) fun v8 =>
                AM.asSl v8 fun v9 v10 v11 =>
                  AM.need (Nat.beq v11 (0 : Nat) || Nat.beq v11 (1 : Nat))
                    (AM.need (AM.inRange (IntKind.wrap IntKind.i64 (a1 + (1 : Int))) ((↑v10 : Int) + (1 : Int)))
                      (AM.cpy (1 : Nat) (AM.subA v5 (Int.toNat a1 * (1 : Nat))) (AM.subA v9 (Int.toNat (IntKind.wrap IntKind.i64 (a1 + (1 : Int))) * (1 : Nat)))
                        (min (v10 - Int.toNat (IntKind.wrap IntKind.i64 (a1 + (1 : Int)))) (v6 - Int.toNat a1)) v2 fun v12 =>
                        AM.St.ld v12 a0 (0 : Nat) fun v13 =>
                          AM.asSl v13 fun v14 v15 v16 =>
                            AM.need (Nat.beq v16 (0 : Nat) || Nat.beq v16 (1 : Nat))
                              (AM.need (AM.inRange (IntKind.wrap IntKind.i64 (a1 + (↑(min (v10 - Int.toNat (IntKind.wrap IntKind.i64 (a1 + (1 : Int)))) (v6 - Int.toNat a1)) : Int))) ((↑v15 : Int) + (1 : Int)))
                                (AM.St.put v12 a0 (0 : Nat)
                                  [Value.slice (AM.subA v14 (0 : Nat)) (Int.toNat (IntKind.wrap IntKind.i64 (a1 + (↑(min (v10 - Int.toNat (IntKind.wrap IntKind.i64 (a1 + (1 : Int)))) (v6 - Int.toNat a1)) : Int))) - (0 : Nat)) v16]
                                  fun v17 => some (Value.nilIface, v17)))))))) := by kernel_rfl
/-! (*isobar/link.Link[int]).Deliver: 19; parameters [l, i] -/
theorem f19_eq (L k : Nat) (σ : St) (a0 : Nat) (a1 : Int) : evCall Go.Proofs.Tryd.prog Go.AM.Ld.env L (k + 1) 19 [.pointer (some ⟨a0, 0, none⟩), .int .i64 a1] σ =
    AM.St.ld σ a0 (2 : Nat) fun v1 =>
  AM.asB v1 fun v2 =>
    AM.br v2 (AM.bnd (AM.evCall Proofs.Tryd.prog AM.Ld.env L k (30 : Nat) [Value.int IntKind.i64 a1, Value.int IntKind.i64 (11 : Int)] σ) fun v3 v4 => some (Value.tuple #[Value.int IntKind.i64 (0 : Int), v3], v4))
      (AM.bnd (AM.evCall Proofs.Tryd.prog AM.Ld.env L k (35 : Nat) [Value.pointer (some { block := a0, off := (0 : Nat) }), Value.int IntKind.i64 a1] σ) fun v5 v6 =>
        AM.eqNil v5 fun v7 =>
          AM.br (!v7) (some (Value.tuple #[Value.int IntKind.i64 (0 : Int), v5], v6))
            (AM.St.ld v6 a0 (0 : Nat) fun v8 =>
              AM.asSl v8 fun v9 v10 v11 =>
                AM.need (AM.inRange a1 (↑v10 : Int))
                  (AM.adr v9 fun v12 v13 =>
                    AM.St.ld v6 v12 (v13 + Int.toNat a1 * (1 : Nat)) fun v14 =>
                      AM.asI IntKind.i64 v14 fun v15 =>
                        AM.bnd (AM.evCall Proofs.Tryd.prog AM.Ld.env L k (18 : Nat) [Value.pointer (some { block := a0, off := (0 : Nat) }), Value.int IntKind.i64 a1] v6) fun v16 v17 =>
                          some (Value.tuple #[Value.int IntKind.i64 v15, v16], v17)))) := by kernel_rfl
/-! (*isobar/link.Link[string]).Cut: 20; parameters [l, cut] -/
theorem f20_eq (L k : Nat) (σ : St) (a0 : Nat) (a1 : Bool) : evCall Go.Proofs.Tryd.prog Go.AM.Ld.env L (k + 1) 20 [.pointer (some ⟨a0, 0, none⟩), .bool a1] σ =
    AM.St.put σ a0 (2 : Nat) [Value.bool a1] fun v1 => some (Value.tuple #[], v1) := by kernel_rfl
/-! (*isobar/link.Link[string]).Double: 25; parameters [l, i] -/
theorem f25_eq (L k : Nat) (σ : St) (a0 : Nat) (a1 : Int) : evCall Go.Proofs.Tryd.prog Go.AM.Ld.env L (k + 1) 25 [.pointer (some ⟨a0, 0, none⟩), .int .i64 a1] σ =
    AM.bnd (AM.evCall Proofs.Tryd.prog AM.Ld.env L k (33 : Nat) [Value.pointer (some { block := a0, off := (0 : Nat) }), Value.int IntKind.i64 a1] σ) fun v1 v2 =>
  AM.eqNil v1 fun v3 =>
    AM.br (!v3) (some (AM.pack [v1], v2))
      (AM.St.ld v2 a0 (0 : Nat) fun v4 =>
        AM.asSl v4 fun v5 v6 v7 =>
          AM.need (AM.inRange a1 (↑v6 : Int))
            (AM.adr v5 fun v8 v9 =>
              AM.St.ld v2 v8 (v9 + Int.toNat a1 * (1 : Nat)) fun v10 =>
                AM.asS v10 fun v11 =>
                  AM.bnd (AM.evCall Proofs.Tryd.prog AM.Ld.env L k (31 : Nat) [Value.pointer (some { block := a0, off := (0 : Nat) }), Value.string v11, Value.int IntKind.i64 a1] v2) fun v12 v13 => some (AM.pack [v12], v13))) := by kernel_rfl
/-! (*isobar/link.Link[string]).Drop: 27; parameters [l, i] -/
theorem f27_eq (L k : Nat) (σ : St) (a0 : Nat) (a1 : Int) : evCall Go.Proofs.Tryd.prog Go.AM.Ld.env L (k + 1) 27 [.pointer (some ⟨a0, 0, none⟩), .int .i64 a1] σ =
    AM.bnd (AM.evCall Proofs.Tryd.prog AM.Ld.env L k (33 : Nat) [Value.pointer (some { block := a0, off := (0 : Nat) }), Value.int IntKind.i64 a1] σ) fun v1 v2 =>
  AM.eqNil v1 fun v3 =>
    AM.br (!v3) (some (AM.pack [v1], v2))
      (AM.St.ld v2 a0 (0 : Nat) fun v4 =>
        AM.asSl v4 fun v5 v6 v7 =>
          AM.need (Nat.beq v7 (0 : Nat) || Nat.beq v7 (1 : Nat))
            (AM.need (AM.inRange a1 ((↑v6 : Int) + (1 : Int)))
              (AM.St.ld v2 a0 (0 : Nat) fun v8 =>
                AM.asSl v8 fun v9 v10 v11 =>
                  AM.need (Nat.beq v11 (0 : Nat) || Nat.beq v11 (1 : Nat))
                    (AM.need (AM.inRange (IntKind.wrap IntKind.i64 (a1 + (1 : Int))) ((↑v10 : Int) + (1 : Int)))
                      (AM.cpy (1 : Nat) (AM.subA v5 (Int.toNat a1 * (1 : Nat))) (AM.subA v9 (Int.toNat (IntKind.wrap IntKind.i64 (a1 + (1 : Int))) * (1 : Nat)))
                        (min (v10 - Int.toNat (IntKind.wrap IntKind.i64 (a1 + (1 : Int)))) (v6 - Int.toNat a1)) v2 fun v12 =>
                        AM.St.ld v12 a0 (0 : Nat) fun v13 =>
                          AM.asSl v13 fun v14 v15 v16 =>
                            AM.need (Nat.beq v16 (0 : Nat) || Nat.beq v16 (1 : Nat))
                              (AM.need (AM.inRange (IntKind.wrap IntKind.i64 (a1 + (↑(min (v10 - Int.toNat (IntKind.wrap IntKind.i64 (a1 + (1 : Int)))) (v6 - Int.toNat a1)) : Int))) ((↑v15 : Int) + (1 : Int)))
                                (AM.St.put v12 a0 (0 : Nat)
                                  [Value.slice (AM.subA v14 (0 : Nat)) (Int.toNat (IntKind.wrap IntKind.i64 (a1 + (↑(min (v10 - Int.toNat (IntKind.wrap IntKind.i64 (a1 + (1 : Int)))) (v6 - Int.toNat a1)) : Int))) - (0 : Nat)) v16]
                                  fun v17 => some (Value.nilIface, v17)))))))) := by kernel_rfl
/-! isobar/link.wrong: 30; parameters [at, e] -/
theorem f30_eq (L k : Nat) (σ : St) (a0 : Int) (a1 : Int) : evCall Go.Proofs.Tryd.prog Go.AM.Ld.env L (k + 1) 30 [.int .i64 a0, .int .i64 a1] σ =
    AM.bnd (AM.evCall Proofs.Tryd.prog AM.Ld.env L k (38 : Nat) [Value.string { data := #[(108 : UInt8), (105 : UInt8), (110 : UInt8), (107 : UInt8)] }, Value.int IntKind.i64 a0, Value.iface (29 : Nat) (Value.int IntKind.i64 a1)] σ)
  fun v1 v2 => some (AM.pack [v1], v2) := by kernel_rfl
/-! (*isobar/link.Link[string]).put: 31; parameters [l, x, at] -/
theorem f31_eq (L k : Nat) (σ : St) (a0 : Nat) (a1 : ByteArray) (a2 : Int) : evCall Go.Proofs.Tryd.prog Go.AM.Ld.env L (k + 1) 31 [.pointer (some ⟨a0, 0, none⟩), .string a1, .int .i64 a2] σ =
    AM.St.ld σ a0 (0 : Nat) fun v1 =>
  AM.asSl v1 fun v2 v3 v4 =>
    AM.St.ld σ a0 (1 : Nat) fun v5 =>
      AM.asI IntKind.i64 v5 fun v6 =>
        AM.br (decide ((↑v3 : Int) ≥ v6)) (AM.bnd (AM.evCall Proofs.Tryd.prog AM.Ld.env L k (30 : Nat) [Value.int IntKind.i64 a2, Value.int IntKind.i64 (6 : Int)] σ) fun v7 v8 => some (AM.pack [v7], v8))
          (AM.St.ld σ a0 (0 : Nat) fun v9 =>
            AM.asSl v9 fun v10 v11 v12 =>
              AM.St.row (AM.St.new σ (AM.Blk.own [Value.string a1] (9 : Nat))) (some { block := AM.St.next σ, off := (0 : Nat) }) (1 : Nat) fun v13 =>
                AM.grow (9 : Nat) (1 : Nat) (16 : Nat) v10 v11 v12 (1 : Nat) v13 (AM.St.new σ (AM.Blk.own [Value.string a1] (9 : Nat))) fun v14 v15 v16 v17 =>
                  AM.St.put v17 a0 (0 : Nat) [Value.slice v14 v15 v16] fun v18 => some (Value.nilIface, v18)) := by kernel_rfl
/-! (*isobar/link.Link[string]).there: 33; parameters [l, i] -/
theorem f33_eq (L k : Nat) (σ : St) (a0 : Nat) (a1 : Int) : evCall Go.Proofs.Tryd.prog Go.AM.Ld.env L (k + 1) 33 [.pointer (some ⟨a0, 0, none⟩), .int .i64 a1] σ =
    AM.br (decide (a1 < (0 : Int))) (AM.bnd (AM.evCall Proofs.Tryd.prog AM.Ld.env L k (30 : Nat) [Value.int IntKind.i64 a1, Value.int IntKind.i64 (5 : Int)] σ) fun v1 v2 => some (AM.pack [v1], v2))
  (AM.St.ld σ a0 (0 : Nat) fun v3 =>
    AM.asSl v3 fun v4 v5 v6 =>
      AM.br (decide (a1 ≥ (↑v5 : Int))) (AM.bnd (AM.evCall Proofs.Tryd.prog AM.Ld.env L k (30 : Nat) [Value.int IntKind.i64 a1, Value.int IntKind.i64 (5 : Int)] σ) fun v7 v8 => some (AM.pack [v7], v8)) (some (Value.nilIface, σ))) := by kernel_rfl
/-! (*isobar/link.Link[int]).put: 34; parameters [l, x, at] -/
theorem f34_eq (L k : Nat) (σ : St) (a0 : Nat) (a1 : Int) (a2 : Int) : evCall Go.Proofs.Tryd.prog Go.AM.Ld.env L (k + 1) 34 [.pointer (some ⟨a0, 0, none⟩), .int .i64 a1, .int .i64 a2] σ =
    AM.St.ld σ a0 (0 : Nat) fun v1 =>
  AM.asSl v1 fun v2 v3 v4 =>
    AM.St.ld σ a0 (1 : Nat) fun v5 =>
      AM.asI IntKind.i64 v5 fun v6 =>
        AM.br (decide ((↑v3 : Int) ≥ v6)) (AM.bnd (AM.evCall Proofs.Tryd.prog AM.Ld.env L k (30 : Nat) [Value.int IntKind.i64 a2, Value.int IntKind.i64 (6 : Int)] σ) fun v7 v8 => some (AM.pack [v7], v8))
          (AM.St.ld σ a0 (0 : Nat) fun v9 =>
            AM.asSl v9 fun v10 v11 v12 =>
              AM.St.row (AM.St.new σ (AM.Blk.own [Value.int IntKind.i64 a1] (3 : Nat))) (some { block := AM.St.next σ, off := (0 : Nat) }) (1 : Nat) fun v13 =>
                AM.grow (3 : Nat) (1 : Nat) (8 : Nat) v10 v11 v12 (1 : Nat) v13 (AM.St.new σ (AM.Blk.own [Value.int IntKind.i64 a1] (3 : Nat))) fun v14 v15 v16 v17 =>
                  AM.St.put v17 a0 (0 : Nat) [Value.slice v14 v15 v16] fun v18 => some (Value.nilIface, v18)) := by kernel_rfl
/-! (*isobar/link.Link[int]).there: 35; parameters [l, i] -/
theorem f35_eq (L k : Nat) (σ : St) (a0 : Nat) (a1 : Int) : evCall Go.Proofs.Tryd.prog Go.AM.Ld.env L (k + 1) 35 [.pointer (some ⟨a0, 0, none⟩), .int .i64 a1] σ =
    AM.br (decide (a1 < (0 : Int))) (AM.bnd (AM.evCall Proofs.Tryd.prog AM.Ld.env L k (30 : Nat) [Value.int IntKind.i64 a1, Value.int IntKind.i64 (5 : Int)] σ) fun v1 v2 => some (AM.pack [v1], v2))
  (AM.St.ld σ a0 (0 : Nat) fun v3 =>
    AM.asSl v3 fun v4 v5 v6 =>
      AM.br (decide (a1 ≥ (↑v5 : Int))) (AM.bnd (AM.evCall Proofs.Tryd.prog AM.Ld.env L k (30 : Nat) [Value.int IntKind.i64 a1, Value.int IntKind.i64 (5 : Int)] σ) fun v7 v8 => some (AM.pack [v7], v8)) (some (Value.nilIface, σ))) := by kernel_rfl
/-! isobar/fault.Wrap: 38; parameters [op, at, err] -/
theorem f38_eq (L k : Nat) (σ : St) (a0 : ByteArray) (a1 : Int) (a2 : Value) : evCall Go.Proofs.Tryd.prog Go.AM.Ld.env L (k + 1) 38 [.string a0, .int .i64 a1, a2] σ =
    AM.eqNil a2 fun v1 =>
  AM.br v1 (some (Value.nilIface, σ))
    (AM.eqErr a2 (29 : Nat) IntKind.i64 (0 : Int) fun v2 =>
      AM.br v2 (some (Value.nilIface, σ))
        (AM.need true
          (AM.need (AM.oneCell a2) (AM.need true (some (Value.iface (72 : Nat) (Value.pointer (some { block := AM.St.next σ, off := (0 : Nat) })), AM.St.new σ (AM.Blk.own [Value.string a0, Value.int IntKind.i64 a1, a2] (74 : Nat)))))))) := by kernel_rfl
end Go.AM.Ld
