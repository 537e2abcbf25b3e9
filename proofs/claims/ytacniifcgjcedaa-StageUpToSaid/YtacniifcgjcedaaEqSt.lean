/-
  WHAT EACH FUNCTION DOES, word by word (printed).
-/
import Derived.Test.YtacniifcgjcedaaAm0
import Derived.Test.YtacniifcgjcedaaEnvSt
set_option linter.unusedVariables false
set_option linter.unusedSimpArgs false
namespace Go.AM.St
open Go.Proofs
/-! isobar/isobarlaw12.StageFast: 3; parameters [l, more, keep] -/
theorem f3_eq (L k : Nat) (σ : St) (a0 : Option Addr) (a0n a0z : Nat) (a1 : Option Addr) (a1n a1z : Nat) (a2 : Int) : evCall Go.Proofs.Try.prog Go.AM.St.env L (k + 1) 3 [.slice a0 a0n a0z, .slice a1 a1n a1z, .int .i64 a2] σ =
    AM.bnd (AM.evCall Proofs.Try.prog AM.St.env L k (6 : Nat) [] σ) fun v1 v2 =>
  AM.asB v1 fun v3 =>
    AM.br (!v3) (AM.bnd (AM.evCall Proofs.Try.prog AM.St.env L k (6 : Nat) [] v2) fun v4 v5 => AM.asB v4 fun v6 => some (Value.bool v6, v5))
      (AM.bnd (AM.evCall Proofs.Try.prog AM.St.env L k (7 : Nat) [Value.slice a0 a0n a0z] v2) fun v7 v8 =>
        AM.asB v7 fun v9 =>
          AM.br (!v9) (AM.bnd (AM.evCall Proofs.Try.prog AM.St.env L k (6 : Nat) [] v8) fun v10 v11 => AM.asB v10 fun v12 => some (Value.bool v12, v11))
            (AM.bnd (AM.evCall Proofs.Try.prog AM.St.env L k (7 : Nat) [Value.slice a1 a1n a1z] v8) fun v13 v14 =>
              AM.asB v13 fun v15 =>
                AM.br (!v15) (AM.bnd (AM.evCall Proofs.Try.prog AM.St.env L k (6 : Nat) [] v14) fun v16 v17 => AM.asB v16 fun v18 => some (Value.bool v18, v17))
                  (AM.bnd (AM.evCall Proofs.Try.prog AM.St.env L k (8 : Nat) [Value.int IntKind.i64 (1 : Int)] v14) fun v19 v20 =>
                    AM.asP v19 fun v21 =>
                      AM.bnd (AM.evCall Proofs.Try.prog AM.St.env L k (9 : Nat) [Value.pointer v21, Value.slice a0 a0n a0z] v20) fun v22 v23 =>
                        AM.asT v22 fun v24 =>
                          AM.endl v24
                            (AM.bnd (AM.evCall Proofs.Try.prog AM.St.env L k (10 : Nat) [Value.pointer v21] v23) fun v25 v26 =>
                              AM.asT v25 fun v27 =>
                                AM.endl v27
                                  (AM.bnd (AM.evCall Proofs.Try.prog AM.St.env L k (11 : Nat) [Value.pointer v21] v26) fun v28 v29 =>
                                    AM.asT v28 fun v30 =>
                                      AM.uncons v30 fun v31 v32 =>
                                        AM.asI IntKind.i64 v31 fun v33 =>
                                          AM.uncons v32 fun v34 v35 =>
                                            AM.asI IntKind.i64 v34 fun v36 =>
                                              AM.endl v35
                                                (AM.bnd (AM.evCall Proofs.Try.prog AM.St.env L k (9 : Nat) [Value.pointer v21, Value.slice a1 a1n a1z] v29) fun v37 v38 =>
                                                  AM.asT v37 fun v39 =>
                                                    AM.endl v39
                                                      (AM.bnd (AM.evCall Proofs.Try.prog AM.St.env L k (11 : Nat) [Value.pointer v21] v38) fun v40 v41 =>
                                                        AM.asT v40 fun v42 =>
                                                          AM.uncons v42 fun v43 v44 =>
                                                            AM.asI IntKind.i64 v43 fun v45 =>
                                                              AM.uncons v44 fun v46 v47 =>
                                                                AM.asI IntKind.i64 v46 fun v48 =>
                                                                  AM.endl v47
                                                                    (AM.bnd (AM.evCall Proofs.Try.prog AM.St.env L k (12 : Nat) [Value.pointer v21, Value.int IntKind.i64 a2] v41) fun v49 v50 =>
                                                                      AM.asT v49 fun v51 =>
                                                                        AM.endl v51
                                                                          (AM.bnd (AM.evCall Proofs.Try.prog AM.St.env L k (11 : Nat) [Value.pointer v21] v50) fun v52 v53 =>
                                                                            AM.asT v52 fun v54 =>
                                                                              AM.uncons v54 fun v55 v56 =>
                                                                                AM.asI IntKind.i64 v55 fun v57 =>
                                                                                  AM.uncons v56 fun v58 v59 =>
                                                                                    AM.asI IntKind.i64 v58 fun v60 =>
                                                                                      AM.endl v59
                                                                                        (AM.br (v48 != v33) (some (Value.bool false, v53))
                                                                                          (AM.br (v57 != v60) (some (Value.bool false, v53))
                                                                                            (AM.br (v57 != IntKind.wrap IntKind.i64 (v33 + AM.mx (0 : Int) (AM.mn a2 (IntKind.wrap IntKind.i64 (v45 - v33))))) (some (Value.bool false, v53))
                                                                                              (AM.bnd (AM.evCall Proofs.Try.prog AM.St.env L k (13 : Nat) [Value.pointer v21] v53) fun v61 v62 =>
                                                                                                AM.asI IntKind.i64 v61 fun v63 =>
                                                                                                  AM.bnd (AM.evCall Proofs.Try.prog AM.St.env L k (11 : Nat) [Value.pointer v21] v62) fun v64 v65 =>
                                                                                                    AM.asT v64 fun v66 =>
                                                                                                      AM.uncons v66 fun v67 v68 =>
                                                                                                        AM.asI IntKind.i64 v67 fun v69 =>
                                                                                                          AM.uncons v68 fun v70 v71 =>
                                                                                                            AM.asI IntKind.i64 v70 fun v72 =>
                                                                                                              AM.endl v71
                                                                                                                (AM.br (v63 == IntKind.wrap IntKind.i64 (v57 - v69))
                                                                                                                  (AM.need true
                                                                                                                    (AM.need true
                                                                                                                      (AM.bnd
                                                                                                                        (AM.evCall Proofs.Try.prog AM.St.env L k (14 : Nat)
                                                                                                                          [Value.pointer v21,
                                                                                                                            Value.agg
                                                                                                                              #[Value.int IntKind.i64 (IntKind.wrap IntKind.i64 (v69 + (1 : Int))), Value.int IntKind.i64 (2 : Int),
                                                                                                                                Value.int IntKind.i64 (0 : Int), Value.string { data := #[] }, Value.int IntKind.i64 (1 : Int)]]
                                                                                                                          v65)
                                                                                                                        fun v73 v74 =>
                                                                                                                        AM.asI IntKind.i64 v73 fun v75 => some (Value.bool (v75 == IntKind.wrap IntKind.i64 (v69 + (1 : Int))), v74))))
                                                                                                                  (some (Value.bool false, v65)))))))))))))))) := by kernel_rfl
/-! isobar/isobarlaw12.StageUpTo: 4; parameters [l, mark] -/
theorem f4_eq (L k : Nat) (σ : St) (a0 : Option Addr) (a0n a0z : Nat) (a1 : Int) : evCall Go.Proofs.Try.prog Go.AM.St.env L (k + 1) 4 [.slice a0 a0n a0z, .int .i64 a1] σ =
    AM.bnd (AM.evCall Proofs.Try.prog AM.St.env L k (6 : Nat) [] σ) fun v1 v2 =>
  AM.asB v1 fun v3 =>
    AM.br (!v3) (AM.bnd (AM.evCall Proofs.Try.prog AM.St.env L k (6 : Nat) [] v2) fun v4 v5 => AM.asB v4 fun v6 => some (Value.bool v6, v5))
      (AM.bnd (AM.evCall Proofs.Try.prog AM.St.env L k (7 : Nat) [Value.slice a0 a0n a0z] v2) fun v7 v8 =>
        AM.asB v7 fun v9 =>
          AM.br (!v9) (AM.bnd (AM.evCall Proofs.Try.prog AM.St.env L k (6 : Nat) [] v8) fun v10 v11 => AM.asB v10 fun v12 => some (Value.bool v12, v11))
            (AM.bnd (AM.evCall Proofs.Try.prog AM.St.env L k (8 : Nat) [Value.int IntKind.i64 (1 : Int)] v8) fun v13 v14 =>
              AM.asP v13 fun v15 =>
                AM.bnd (AM.evCall Proofs.Try.prog AM.St.env L k (9 : Nat) [Value.pointer v15, Value.slice a0 a0n a0z] v14) fun v16 v17 =>
                  AM.asT v16 fun v18 =>
                    AM.endl v18
                      (AM.bnd (AM.evCall Proofs.Try.prog AM.St.env L k (10 : Nat) [Value.pointer v15] v17) fun v19 v20 =>
                        AM.asT v19 fun v21 =>
                          AM.endl v21
                            (AM.bnd (AM.evCall Proofs.Try.prog AM.St.env L k (15 : Nat) [Value.pointer v15, Value.int IntKind.i64 a1] v20) fun v22 v23 =>
                              AM.asT v22 fun v24 =>
                                AM.uncons v24 fun v25 v26 =>
                                  AM.asSl v25 fun v27 v28 v29 =>
                                    AM.uncons v26 fun v30 v31 =>
                                      AM.asB v30 fun v32 =>
                                        AM.endl v31
                                          (AM.bnd (AM.evCall Proofs.Try.prog AM.St.env L k (16 : Nat) [Value.pointer v15] v23) fun v33 v34 =>
                                            AM.asSl v33 fun v35 v36 v37 =>
                                              AM.lpAt Proofs.Try.prog AM.St.env L k (4 : Nat) [true, true, true, true, true, true, true, true, false, true] [] L
                                                [((1 : Nat), Value.int IntKind.i64 a1), ((5 : Nat), Value.pointer v15), ((6 : Nat), Value.slice v27 v28 v29), ((7 : Nat), Value.bool v32), ((8 : Nat), Value.slice v35 v36 v37),
                                                  ((9 : Nat), Value.bool false), ((42 : Nat), Value.int IntKind.i64 (↑v36 : Int)), ((43 : Nat), Value.int IntKind.i64 (0 : Int))]
                                                v34))))) := by kernel_rfl
theorem f4_l10 (L k n : Nat) (σ : St) (s1 : Int) (s5 o5 : Nat) (s6 : Option Addr) (s6n s6z : Nat) (s7 : Bool) (s8 : Option Addr) (s8n s8z : Nat) (s9 : Bool) (s42 : Int) (s43 : Int) : lpAt Go.Proofs.Try.prog Go.AM.St.env L k 4 [true, true, true, true, true, true, true, true, false, true] [] (n + 1) [(1, .int .i64 s1), (5, .pointer (some ⟨s5, o5, none⟩)), (6, .slice s6 s6n s6z), (7, .bool s7), (8, .slice s8 s8n s8z), (9, .bool s9), (42, .int .i64 s42), (43, .int .i64 s43)] σ =
    AM.br (decide (s43 < s42))
  (AM.br s9
    (AM.lpAt Proofs.Try.prog AM.St.env L k (4 : Nat) [true, true, true, true, true, true, true, true, false, true] [] n
      [((1 : Nat), Value.int IntKind.i64 s1), ((5 : Nat), Value.pointer (some { block := s5, off := o5 })), ((6 : Nat), Value.slice s6 s6n s6z), ((7 : Nat), Value.bool s7), ((8 : Nat), Value.slice s8 s8n s8z), ((9 : Nat), Value.bool true),
        ((42 : Nat), Value.int IntKind.i64 s42), ((43 : Nat), Value.int IntKind.i64 (IntKind.wrap IntKind.i64 (s43 + (1 : Int))))]
      σ)
    (AM.need (AM.inRange s43 (↑s8n : Int))
      (AM.adr s8 fun v1 v2 =>
        AM.St.ld σ v1 (v2 + Int.toNat s43 * (1 : Nat)) fun v3 =>
          AM.asI IntKind.i64 v3 fun v4 =>
            AM.lpAt Proofs.Try.prog AM.St.env L k (4 : Nat) [true, true, true, true, true, true, true, true, false, true] [] n
              [((1 : Nat), Value.int IntKind.i64 s1), ((5 : Nat), Value.pointer (some { block := s5, off := o5 })), ((6 : Nat), Value.slice s6 s6n s6z), ((7 : Nat), Value.bool s7), ((8 : Nat), Value.slice s8 s8n s8z),
                ((9 : Nat), Value.bool (v4 == s1)), ((42 : Nat), Value.int IntKind.i64 s42), ((43 : Nat), Value.int IntKind.i64 (IntKind.wrap IntKind.i64 (s43 + (1 : Int))))]
              σ)))
  (AM.br (!s7 == s9) (some (Value.bool false, σ))
    (AM.br (!s7 == decide ((↑s6n : Int) > (0 : Int))) (some (Value.bool false, σ))
      (AM.lpAt Proofs.Try.prog AM.St.env L k (4 : Nat) [true, true, true, true, true, true, true, true, true, true, false, true] [] L
        [((1 : Nat), Value.int IntKind.i64 s1), ((5 : Nat), Value.pointer (some { block := s5, off := o5 })), ((6 : Nat), Value.slice s6 s6n s6z), ((7 : Nat), Value.bool s7), ((67 : Nat), Value.int IntKind.i64 (↑s6n : Int)),
          ((68 : Nat), Value.int IntKind.i64 (0 : Int))]
        σ))) := by kernel_rfl
theorem f4_l17 (L k n : Nat) (σ : St) (s1 : Int) (s5 o5 : Nat) (s6 : Option Addr) (s6n s6z : Nat) (s7 : Bool) (s67 : Int) (s68 : Int) : lpAt Go.Proofs.Try.prog Go.AM.St.env L k 4 [true, true, true, true, true, true, true, true, true, true, false, true] [] (n + 1) [(1, .int .i64 s1), (5, .pointer (some ⟨s5, o5, none⟩)), (6, .slice s6 s6n s6z), (7, .bool s7), (67, .int .i64 s67), (68, .int .i64 s68)] σ =
    AM.br (decide (s68 < s67))
  (AM.need (AM.inRange s68 (↑s6n : Int))
    (AM.adr s6 fun v1 v2 =>
      AM.St.ld σ v1 (v2 + Int.toNat s68 * (5 : Nat) + (1 : Nat)) fun v3 =>
        AM.asI IntKind.i64 v3 fun v4 =>
          AM.br (v4 == (2 : Int))
            (AM.need (AM.inRange s68 (↑s6n : Int))
              (AM.adr s6 fun v5 v6 =>
                AM.St.ld σ v5 (v6 + Int.toNat s68 * (5 : Nat) + (4 : Nat)) fun v7 =>
                  AM.asI IntKind.i64 v7 fun v8 =>
                    AM.br (!(v8 == s1) == (s68 == IntKind.wrap IntKind.i64 ((↑s6n : Int) - (1 : Int)))) (some (Value.bool false, σ))
                      (AM.need (AM.inRange s68 (↑s6n : Int))
                        (AM.adr s6 fun v9 v10 =>
                          AM.St.ld σ v9 (v10 + Int.toNat s68 * (5 : Nat) + (0 : Nat)) fun v11 =>
                            AM.asI IntKind.i64 v11 fun v12 =>
                              AM.br (v12 != IntKind.wrap IntKind.i64 (s68 + (1 : Int))) (some (Value.bool false, σ))
                                (AM.lpAt Proofs.Try.prog AM.St.env L k (4 : Nat) [true, true, true, true, true, true, true, true, true, true, false, true] [] n
                                  [((1 : Nat), Value.int IntKind.i64 s1), ((5 : Nat), Value.pointer (some { block := s5, off := o5 })), ((6 : Nat), Value.slice s6 s6n s6z), ((7 : Nat), Value.bool s7),
                                    ((67 : Nat), Value.int IntKind.i64 s67), ((68 : Nat), Value.int IntKind.i64 (IntKind.wrap IntKind.i64 (s68 + (1 : Int))))]
                                  σ)))))
            (AM.br (!false == (s68 == IntKind.wrap IntKind.i64 ((↑s6n : Int) - (1 : Int)))) (some (Value.bool false, σ))
              (AM.need (AM.inRange s68 (↑s6n : Int))
                (AM.adr s6 fun v13 v14 =>
                  AM.St.ld σ v13 (v14 + Int.toNat s68 * (5 : Nat) + (0 : Nat)) fun v15 =>
                    AM.asI IntKind.i64 v15 fun v16 =>
                      AM.br (v16 != IntKind.wrap IntKind.i64 (s68 + (1 : Int))) (some (Value.bool false, σ))
                        (AM.lpAt Proofs.Try.prog AM.St.env L k (4 : Nat) [true, true, true, true, true, true, true, true, true, true, false, true] [] n
                          [((1 : Nat), Value.int IntKind.i64 s1), ((5 : Nat), Value.pointer (some { block := s5, off := o5 })), ((6 : Nat), Value.slice s6 s6n s6z), ((7 : Nat), Value.bool s7), ((67 : Nat), Value.int IntKind.i64 s67),
                            ((68 : Nat), Value.int IntKind.i64 (IntKind.wrap IntKind.i64 (s68 + (1 : Int))))]
                          σ))))))
  (AM.bnd (AM.evCall Proofs.Try.prog AM.St.env L k (11 : Nat) [Value.pointer (some { block := s5, off := o5 })] σ) fun v17 v18 =>
    AM.asT v17 fun v19 =>
      AM.uncons v19 fun v20 v21 =>
        AM.asI IntKind.i64 v20 fun v22 =>
          AM.uncons v21 fun v23 v24 =>
            AM.asI IntKind.i64 v23 fun v25 =>
              AM.endl v24
                (AM.bnd (AM.evCall Proofs.Try.prog AM.St.env L k (17 : Nat) [Value.pointer (some { block := s5, off := o5 }), Value.int IntKind.i64 s1] v18) fun v26 v27 =>
                  AM.eqNil v26 fun v28 =>
                    AM.br (!v28 == s7) (some (Value.bool false, v27))
                      (AM.bnd (AM.evCall Proofs.Try.prog AM.St.env L k (18 : Nat) [Value.pointer (some { block := s5, off := o5 })] v27) fun v29 v30 =>
                        AM.asT v29 fun v31 =>
                          AM.uncons v31 fun v32 v33 =>
                            AM.asI IntKind.i64 v32 fun v34 =>
                              AM.uncons v33 fun v35 v36 =>
                                AM.asI IntKind.i64 v35 fun v37 =>
                                  AM.endl v36
                                    (AM.bnd (AM.evCall Proofs.Try.prog AM.St.env L k (11 : Nat) [Value.pointer (some { block := s5, off := o5 })] v30) fun v38 v39 =>
                                      AM.asT v38 fun v40 =>
                                        AM.uncons v40 fun v41 v42 =>
                                          AM.asI IntKind.i64 v41 fun v43 =>
                                            AM.uncons v42 fun v44 v45 =>
                                              AM.asI IntKind.i64 v44 fun v46 =>
                                                AM.endl v45
                                                  (AM.br (v43 == v22)
                                                    (AM.br (v34 == (↑s6n : Int)) (AM.br s7 (some (Value.bool ((v37 == s1) == true), v39)) (some (Value.bool ((v37 == s1) == (s1 == (0 : Int))), v39))) (some (Value.bool false, v39)))
                                                    (some (Value.bool false, v39))))))) := by kernel_rfl
/-! isobar/isobarlaw12.StageOnce: 5; parameters [l, drop, again] -/
theorem f5_eq (L k : Nat) (σ : St) (a0 : Option Addr) (a0n a0z : Nat) (a1 : Int) (a2_0 : Int) (a2_1 : Int) (a2_2 : Int) (a2_3 : ByteArray) (a2_4 : Int) : evCall Go.Proofs.Try.prog Go.AM.St.env L (k + 1) 5 [.slice a0 a0n a0z, .int .i64 a1, .agg [.int .i64 a2_0, .int .i64 a2_1, .int .i64 a2_2, .string a2_3, .int .i64 a2_4].toArray] σ =
    AM.bnd (AM.evCall Proofs.Try.prog AM.St.env L k (6 : Nat) [] (AM.St.new σ (AM.Blk.own [Value.int IntKind.i64 a2_0, Value.int IntKind.i64 a2_1, Value.int IntKind.i64 a2_2, Value.string a2_3, Value.int IntKind.i64 a2_4] (34 : Nat))))
  fun v1 v2 =>
  AM.asB v1 fun v3 =>
    AM.br (!v3) (AM.bnd (AM.evCall Proofs.Try.prog AM.St.env L k (6 : Nat) [] v2) fun v4 v5 => AM.asB v4 fun v6 => some (Value.bool v6, v5))
      (AM.bnd (AM.evCall Proofs.Try.prog AM.St.env L k (7 : Nat) [Value.slice a0 a0n a0z] v2) fun v7 v8 =>
        AM.asB v7 fun v9 =>
          AM.br (!v9) (AM.bnd (AM.evCall Proofs.Try.prog AM.St.env L k (6 : Nat) [] v8) fun v10 v11 => AM.asB v10 fun v12 => some (Value.bool v12, v11))
            (AM.St.ld v8 (AM.St.next σ) (3 : Nat) fun v13 =>
              AM.asS v13 fun v14 =>
                AM.br (decide ((↑(ByteArray.size v14) : Int) > (100 : Int))) (AM.bnd (AM.evCall Proofs.Try.prog AM.St.env L k (6 : Nat) [] v8) fun v15 v16 => AM.asB v15 fun v17 => some (Value.bool v17, v16))
                  (AM.bnd (AM.evCall Proofs.Try.prog AM.St.env L k (8 : Nat) [Value.int IntKind.i64 (1 : Int)] v8) fun v18 v19 =>
                    AM.asP v18 fun v20 =>
                      AM.bnd (AM.evCall Proofs.Try.prog AM.St.env L k (9 : Nat) [Value.pointer v20, Value.slice a0 a0n a0z] v19) fun v21 v22 =>
                        AM.asT v21 fun v23 =>
                          AM.endl v23
                            (AM.bnd (AM.evCall Proofs.Try.prog AM.St.env L k (10 : Nat) [Value.pointer v20] v22) fun v24 v25 =>
                              AM.asT v24 fun v26 =>
                                AM.endl v26
                                  (AM.bnd (AM.evCall Proofs.Try.prog AM.St.env L k (17 : Nat) [Value.pointer v20, Value.int IntKind.i64 a1] v25) fun v27 v28 =>
                                    AM.bnd (AM.evCall Proofs.Try.prog AM.St.env L k (11 : Nat) [Value.pointer v20] v28) fun v29 v30 =>
                                      AM.asT v29 fun v31 =>
                                        AM.uncons v31 fun v32 v33 =>
                                          AM.asI IntKind.i64 v32 fun v34 =>
                                            AM.uncons v33 fun v35 v36 =>
                                              AM.asI IntKind.i64 v35 fun v37 =>
                                                AM.endl v36
                                                  (AM.bnd (AM.evCall Proofs.Try.prog AM.St.env L k (18 : Nat) [Value.pointer v20] v30) fun v38 v39 =>
                                                    AM.asT v38 fun v40 =>
                                                      AM.uncons v40 fun v41 v42 =>
                                                        AM.asI IntKind.i64 v41 fun v43 =>
                                                          AM.uncons v42 fun v44 v45 =>
                                                            AM.asI IntKind.i64 v44 fun v46 =>
                                                              AM.endl v45
                                                                (AM.St.put v39 (AM.St.next σ) (0 : Nat) [Value.int IntKind.i64 (IntKind.wrap IntKind.i64 ((1 : Int) + AM.mx (0 : Int) (IntKind.wrap IntKind.i64 (v34 - (1 : Int)))))] fun v47 =>
                                                                  AM.br (decide (v34 > (0 : Int)))
                                                                    (AM.St.lds v47 (AM.St.next σ) (0 : Nat) (5 : Nat) fun v48 =>
                                                                      AM.uncons v48 fun v49 v50 =>
                                                                        AM.asI IntKind.i64 v49 fun v51 =>
                                                                          AM.uncons v50 fun v52 v53 =>
                                                                            AM.asI IntKind.i64 v52 fun v54 =>
                                                                              AM.uncons v53 fun v55 v56 =>
                                                                                AM.asI IntKind.i64 v55 fun v57 =>
                                                                                  AM.uncons v56 fun v58 v59 =>
                                                                                    AM.asS v58 fun v60 =>
                                                                                      AM.uncons v59 fun v61 v62 =>
                                                                                        AM.asI IntKind.i64 v61 fun v63 =>
                                                                                          AM.endl v62
                                                                                            (AM.bnd
                                                                                              (AM.evCall Proofs.Try.prog AM.St.env L k (14 : Nat)
                                                                                                [Value.pointer v20,
                                                                                                  Value.agg #[Value.int IntKind.i64 v51, Value.int IntKind.i64 v54, Value.int IntKind.i64 v57, Value.string v60, Value.int IntKind.i64 v63]]
                                                                                                v47)
                                                                                              fun v64 v65 =>
                                                                                              AM.asI IntKind.i64 v64 fun v66 =>
                                                                                                AM.br (v66 != v34) (some (Value.bool false, v65))
                                                                                                  (AM.bnd (AM.evCall Proofs.Try.prog AM.St.env L k (13 : Nat) [Value.pointer v20] v65) fun v67 v68 =>
                                                                                                    AM.asI IntKind.i64 v67 fun v69 =>
                                                                                                      AM.bnd (AM.evCall Proofs.Try.prog AM.St.env L k (11 : Nat) [Value.pointer v20] v68) fun v70 v71 =>
                                                                                                        AM.asT v70 fun v72 =>
                                                                                                          AM.uncons v72 fun v73 v74 =>
                                                                                                            AM.asI IntKind.i64 v73 fun v75 =>
                                                                                                              AM.uncons v74 fun v76 v77 =>
                                                                                                                AM.asI IntKind.i64 v76 fun v78 =>
                                                                                                                  AM.endl v77
                                                                                                                    (AM.br (v69 == IntKind.wrap IntKind.i64 (v34 - v43))
                                                                                                                      (AM.br (v75 == v43)
                                                                                                                        (AM.need true
                                                                                                                          (AM.need true
                                                                                                                            (AM.bnd
                                                                                                                              (AM.evCall Proofs.Try.prog AM.St.env L k (14 : Nat)
                                                                                                                                [Value.pointer v20,
                                                                                                                                  Value.agg
                                                                                                                                    #[Value.int IntKind.i64 v43, Value.int IntKind.i64 (2 : Int), Value.int IntKind.i64 (0 : Int),
                                                                                                                                      Value.string { data := #[] }, Value.int IntKind.i64 (1 : Int)]]
                                                                                                                                v71)
                                                                                                                              fun v79 v80 =>
                                                                                                                              AM.asI IntKind.i64 v79 fun v81 =>
                                                                                                                                AM.br (v81 == v43)
                                                                                                                                  (AM.need true
                                                                                                                                    (AM.need true
                                                                                                                                      (AM.bnd
                                                                                                                                        (AM.evCall Proofs.Try.prog AM.St.env L k (14 : Nat)
                                                                                                                                          [Value.pointer v20,
                                                                                                                                            Value.agg
                                                                                                                                              #[Value.int IntKind.i64 (IntKind.wrap IntKind.i64 (v43 + (1 : Int))),
                                                                                                                                                Value.int IntKind.i64 (2 : Int), Value.int IntKind.i64 (0 : Int), Value.string { data := #[] },
                                                                                                                                                Value.int IntKind.i64 (1 : Int)]]
                                                                                                                                          v80)
                                                                                                                                        fun v82 v83 =>
                                                                                                                                        AM.asI IntKind.i64 v82 fun v84 =>
                                                                                                                                          some (Value.bool (v84 == IntKind.wrap IntKind.i64 (v43 + (1 : Int))), v83))))
                                                                                                                                  (some (Value.bool false, v80)))))
                                                                                                                        (some (Value.bool false, v71)))
                                                                                                                      (some (Value.bool false, v71))))))
                                                                    (AM.bnd (AM.evCall Proofs.Try.prog AM.St.env L k (13 : Nat) [Value.pointer v20] v47) fun v85 v86 =>
                                                                      AM.asI IntKind.i64 v85 fun v87 =>
                                                                        AM.bnd (AM.evCall Proofs.Try.prog AM.St.env L k (11 : Nat) [Value.pointer v20] v86) fun v88 v89 =>
                                                                          AM.asT v88 fun v90 =>
                                                                            AM.uncons v90 fun v91 v92 =>
                                                                              AM.asI IntKind.i64 v91 fun v93 =>
                                                                                AM.uncons v92 fun v94 v95 =>
                                                                                  AM.asI IntKind.i64 v94 fun v96 =>
                                                                                    AM.endl v95
                                                                                      (AM.br (v87 == IntKind.wrap IntKind.i64 (v34 - v43))
                                                                                        (AM.br (v93 == v43)
                                                                                          (AM.need true
                                                                                            (AM.need true
                                                                                              (AM.bnd
                                                                                                (AM.evCall Proofs.Try.prog AM.St.env L k (14 : Nat)
                                                                                                  [Value.pointer v20,
                                                                                                    Value.agg
                                                                                                      #[Value.int IntKind.i64 v43, Value.int IntKind.i64 (2 : Int), Value.int IntKind.i64 (0 : Int), Value.string { data := #[] },
                                                                                                        Value.int IntKind.i64 (1 : Int)]]
                                                                                                  v89)
                                                                                                fun v97 v98 =>
                                                                                                AM.asI IntKind.i64 v97 fun v99 =>
                                                                                                  AM.br (v99 == v43)
                                                                                                    (AM.need true
                                                                                                      (AM.need true
                                                                                                        (AM.bnd
                                                                                                          (AM.evCall Proofs.Try.prog AM.St.env L k (14 : Nat)
                                                                                                            [Value.pointer v20,
                                                                                                              Value.agg
                                                                                                                #[Value.int IntKind.i64 (IntKind.wrap IntKind.i64 (v43 + (1 : Int))), Value.int IntKind.i64 (2 : Int),
                                                                                                                  Value.int IntKind.i64 (0 : Int), Value.string { data := #[] }, Value.int IntKind.i64 (1 : Int)]]
                                                                                                            v98)
                                                                                                          fun v100 v101 => AM.asI IntKind.i64 v100 fun v102 => some (Value.bool (v102 == IntKind.wrap IntKind.i64 (v43 + (1 : Int))), v101))))
                                                                                                    (some (Value.bool false, v98)))))
                                                                                          (some (Value.bool false, v89)))
                                                                                        (some (Value.bool false, v89))))))))))) := by kernel_rfl
/-! isobar/isobarlaw12.awake: 6; parameters [] -/
theorem f6_eq (L k : Nat) (σ : St)  : evCall Go.Proofs.Try.prog Go.AM.St.env L (k + 1) 6 [] σ =
    AM.bnd (AM.evCall Proofs.Try.prog AM.St.env L k (8 : Nat) [Value.int IntKind.i64 (1 : Int)] σ) fun v1 v2 =>
  AM.asP v1 fun v3 =>
    AM.br (Option.isNone v3) (some (Value.bool false, v2))
      (AM.bnd
        (AM.evCall Proofs.Try.prog AM.St.env L k (14 : Nat)
          [Value.pointer v3, Value.agg #[Value.int IntKind.i64 (1 : Int), Value.int IntKind.i64 (2 : Int), Value.int IntKind.i64 (0 : Int), Value.string { data := #[] }, Value.int IntKind.i64 (5 : Int)]] v2)
        fun v4 v5 =>
        AM.asI IntKind.i64 v4 fun v6 =>
          AM.br (v6 != (1 : Int)) (some (Value.bool false, v5))
            (AM.bnd (AM.evCall Proofs.Try.prog AM.St.env L k (10 : Nat) [Value.pointer v3] v5) fun v7 v8 =>
              AM.asT v7 fun v9 =>
                AM.endl v9
                  (AM.bnd (AM.evCall Proofs.Try.prog AM.St.env L k (16 : Nat) [Value.pointer v3] v8) fun v10 v11 =>
                    AM.asSl v10 fun v12 v13 v14 =>
                      AM.br ((↑v13 : Int) == (1 : Int))
                        (AM.need (AM.inRange (0 : Int) (↑v13 : Int)) (AM.adr v12 fun v15 v16 => AM.St.ld v11 v15 (v16 + (0 : Nat)) fun v17 => AM.asI IntKind.i64 v17 fun v18 => some (Value.bool (v18 == (5 : Int)), v11)))
                        (some (Value.bool false, v11))))) := by kernel_rfl
/-! isobar/isobarlaw12.few: 7; parameters [l] -/
theorem f7_eq (L k : Nat) (σ : St) (a0 : Option Addr) (a0n a0z : Nat) : evCall Go.Proofs.Try.prog Go.AM.St.env L (k + 1) 7 [.slice a0 a0n a0z] σ =
    AM.br (decide ((↑a0n : Int) > (200 : Int))) (some (Value.bool false, σ))
  (AM.lpAt Proofs.Try.prog AM.St.env L k (7 : Nat) [true, true, false, true] [] L [((0 : Nat), Value.slice a0 a0n a0z), ((8 : Nat), Value.int IntKind.i64 (↑a0n : Int)), ((9 : Nat), Value.int IntKind.i64 (0 : Int))] σ) := by kernel_rfl
theorem f7_l4 (L k n : Nat) (σ : St) (s0 : Option Addr) (s0n s0z : Nat) (s8 : Int) (s9 : Int) : lpAt Go.Proofs.Try.prog Go.AM.St.env L k 7 [true, true, false, true] [] (n + 1) [(0, .slice s0 s0n s0z), (8, .int .i64 s8), (9, .int .i64 s9)] σ =
    AM.br (decide (s9 < s8))
  (AM.need (AM.inRange s9 (↑s0n : Int))
    (AM.adr s0 fun v1 v2 =>
      AM.St.ld σ v1 (v2 + Int.toNat s9 * (8 : Nat) + (2 : Nat) + (3 : Nat)) fun v3 =>
        AM.asS v3 fun v4 =>
          AM.br (decide ((↑(ByteArray.size v4) : Int) > (100 : Int))) (some (Value.bool false, σ))
            (AM.lpAt Proofs.Try.prog AM.St.env L k (7 : Nat) [true, true, false, true] [] n
              [((0 : Nat), Value.slice s0 s0n s0z), ((8 : Nat), Value.int IntKind.i64 s8), ((9 : Nat), Value.int IntKind.i64 (IntKind.wrap IntKind.i64 (s9 + (1 : Int))))] σ)))
  (some (Value.bool true, σ)) := by kernel_rfl
/-! isobar/stage.New: 8; parameters [first] -/
theorem f8_eq (L k : Nat) (σ : St) (a0 : Int) : evCall Go.Proofs.Try.prog Go.AM.St.env L (k + 1) 8 [.int .i64 a0] σ =
    some
  (Value.pointer (some { block := AM.St.next σ, off := (0 : Nat) }),
    AM.St.new σ (AM.Blk.own [Value.int IntKind.i64 (AM.mx (1 : Int) (AM.mn a0 (1152921504606846975 : Int))), Value.slice none (0 : Nat) (0 : Nat), Value.int IntKind.i64 (0 : Int), Value.int IntKind.i64 (0 : Int)] (49 : Nat))) := by kernel_rfl
/-! isobar/isobarlaw12.put: 9; parameters [s, l] -/
theorem f9_eq (L k : Nat) (σ : St) (a0 : Nat) (a1 : Option Addr) (a1n a1z : Nat) : evCall Go.Proofs.Try.prog Go.AM.St.env L (k + 1) 9 [.pointer (some ⟨a0, 0, none⟩), .slice a1 a1n a1z] σ =
    AM.lpAt Proofs.Try.prog AM.St.env L k (9 : Nat) [true] [] L
  [((0 : Nat), Value.pointer (some { block := a0, off := (0 : Nat) })), ((1 : Nat), Value.slice a1 a1n a1z), ((9 : Nat), Value.int IntKind.i64 (↑a1n : Int)), ((10 : Nat), Value.int IntKind.i64 (0 : Int))] σ := by kernel_rfl
theorem f9_l1 (L k n : Nat) (σ : St) (s0 o0 : Nat) (s1 : Option Addr) (s1n s1z : Nat) (s9 : Int) (s10 : Int) : lpAt Go.Proofs.Try.prog Go.AM.St.env L k 9 [true] [] (n + 1) [(0, .pointer (some ⟨s0, o0, none⟩)), (1, .slice s1 s1n s1z), (9, .int .i64 s9), (10, .int .i64 s10)] σ =
    AM.br (decide (s10 < s9))
  (AM.need (AM.inRange s10 (↑s1n : Int))
    (AM.adr s1 fun v1 v2 =>
      AM.St.lds σ v1 (v2 + Int.toNat s10 * (8 : Nat) + (2 : Nat)) (5 : Nat) fun v3 =>
        AM.uncons v3 fun v4 v5 =>
          AM.asI IntKind.i64 v4 fun v6 =>
            AM.uncons v5 fun v7 v8 =>
              AM.asI IntKind.i64 v7 fun v9 =>
                AM.uncons v8 fun v10 v11 =>
                  AM.asI IntKind.i64 v10 fun v12 =>
                    AM.uncons v11 fun v13 v14 =>
                      AM.asS v13 fun v15 =>
                        AM.uncons v14 fun v16 v17 =>
                          AM.asI IntKind.i64 v16 fun v18 =>
                            AM.endl v17
                              (AM.St.put
                                (AM.St.new σ (AM.Blk.own [Value.int IntKind.i64 (0 : Int), Value.int IntKind.i64 (0 : Int), Value.int IntKind.i64 (0 : Int), Value.string { data := #[] }, Value.int IntKind.i64 (0 : Int)] (34 : Nat)))
                                (AM.St.next σ) (0 : Nat) [Value.int IntKind.i64 v6, Value.int IntKind.i64 v9, Value.int IntKind.i64 v12, Value.string v15, Value.int IntKind.i64 v18] fun v19 =>
                                AM.bnd (AM.evCall Proofs.Try.prog AM.St.env L k (11 : Nat) [Value.pointer (some { block := s0, off := o0 })] v19) fun v20 v21 =>
                                  AM.asT v20 fun v22 =>
                                    AM.uncons v22 fun v23 v24 =>
                                      AM.asI IntKind.i64 v23 fun v25 =>
                                        AM.uncons v24 fun v26 v27 =>
                                          AM.asI IntKind.i64 v26 fun v28 =>
                                            AM.endl v27
                                              (AM.St.put v21 (AM.St.next σ) (0 : Nat) [Value.int IntKind.i64 (IntKind.wrap IntKind.i64 (v25 + (1 : Int)))] fun v29 =>
                                                AM.St.lds v29 (AM.St.next σ) (0 : Nat) (5 : Nat) fun v30 =>
                                                  AM.uncons v30 fun v31 v32 =>
                                                    AM.asI IntKind.i64 v31 fun v33 =>
                                                      AM.uncons v32 fun v34 v35 =>
                                                        AM.asI IntKind.i64 v34 fun v36 =>
                                                          AM.uncons v35 fun v37 v38 =>
                                                            AM.asI IntKind.i64 v37 fun v39 =>
                                                              AM.uncons v38 fun v40 v41 =>
                                                                AM.asS v40 fun v42 =>
                                                                  AM.uncons v41 fun v43 v44 =>
                                                                    AM.asI IntKind.i64 v43 fun v45 =>
                                                                      AM.endl v44
                                                                        (AM.bnd
                                                                          (AM.evCall Proofs.Try.prog AM.St.env L k (14 : Nat)
                                                                            [Value.pointer (some { block := s0, off := o0 }),
                                                                              Value.agg #[Value.int IntKind.i64 v33, Value.int IntKind.i64 v36, Value.int IntKind.i64 v39, Value.string v42, Value.int IntKind.i64 v45]]
                                                                            v29)
                                                                          fun v46 v47 =>
                                                                          AM.asI IntKind.i64 v46 fun v48 =>
                                                                            AM.lpAt Proofs.Try.prog AM.St.env L k (9 : Nat) [true] [] n
                                                                              [((0 : Nat), Value.pointer (some { block := s0, off := o0 })), ((1 : Nat), Value.slice s1 s1n s1z), ((9 : Nat), Value.int IntKind.i64 s9),
                                                                                ((10 : Nat), Value.int IntKind.i64 (IntKind.wrap IntKind.i64 (s10 + (1 : Int))))]
                                                                              v47)))))
  (some (Value.tuple #[], σ)) := by kernel_rfl
/-! (*isobar/stage.Stage).Flush: 10; parameters [s] -/
theorem f10_eq (L k : Nat) (σ : St) (a0 : Nat) : evCall Go.Proofs.Try.prog Go.AM.St.env L (k + 1) 10 [.pointer (some ⟨a0, 0, none⟩)] σ =
    AM.St.ld σ a0 (1 : Nat) fun v1 => AM.asSl v1 fun v2 v3 v4 => AM.St.put σ a0 (2 : Nat) [Value.int IntKind.i64 (↑v3 : Int)] fun v5 => some (Value.tuple #[], v5) := by kernel_rfl
/-! (*isobar/stage.Stage).Last: 11; parameters [s] -/
theorem f11_eq (L k : Nat) (σ : St) (a0 : Nat) : evCall Go.Proofs.Try.prog Go.AM.St.env L (k + 1) 11 [.pointer (some ⟨a0, 0, none⟩)] σ =
    AM.St.ld σ a0 (0 : Nat) fun v1 =>
  AM.asI IntKind.i64 v1 fun v2 =>
    AM.St.ld σ a0 (1 : Nat) fun v3 =>
      AM.asSl v3 fun v4 v5 v6 =>
        AM.St.ld σ a0 (0 : Nat) fun v7 =>
          AM.asI IntKind.i64 v7 fun v8 =>
            AM.St.ld σ a0 (2 : Nat) fun v9 =>
              AM.asI IntKind.i64 v9 fun v10 =>
                some
                  (Value.tuple
                      #[Value.int IntKind.i64 (IntKind.wrap IntKind.i64 (IntKind.wrap IntKind.i64 (v2 + (↑v5 : Int)) - (1 : Int))), Value.int IntKind.i64 (IntKind.wrap IntKind.i64 (IntKind.wrap IntKind.i64 (v8 + v10) - (1 : Int)))],
                    σ) := by kernel_rfl
/-! (*isobar/stage.Stage).Crash: 12; parameters [s, keep] -/
theorem f12_eq (L k : Nat) (σ : St) (a0 : Nat) (a1 : Int) : evCall Go.Proofs.Try.prog Go.AM.St.env L (k + 1) 12 [.pointer (some ⟨a0, 0, none⟩), .int .i64 a1] σ =
    AM.St.ld σ a0 (2 : Nat) fun v1 =>
  AM.asI IntKind.i64 v1 fun v2 =>
    AM.St.ld σ a0 (1 : Nat) fun v3 =>
      AM.asSl v3 fun v4 v5 v6 =>
        AM.St.ld σ a0 (2 : Nat) fun v7 =>
          AM.asI IntKind.i64 v7 fun v8 =>
            AM.St.put σ a0 (2 : Nat) [Value.int IntKind.i64 (IntKind.wrap IntKind.i64 (v2 + AM.mx (0 : Int) (AM.mn a1 (IntKind.wrap IntKind.i64 ((↑v5 : Int) - v8)))))] fun v9 =>
              AM.St.ld v9 a0 (1 : Nat) fun v10 =>
                AM.asSl v10 fun v11 v12 v13 =>
                  AM.St.ld v9 a0 (2 : Nat) fun v14 =>
                    AM.asI IntKind.i64 v14 fun v15 =>
                      AM.St.ld v9 a0 (2 : Nat) fun v16 =>
                        AM.asI IntKind.i64 v16 fun v17 =>
                          AM.need (Nat.beq v13 (0 : Nat) || Nat.beq v13 (5 : Nat))
                            (AM.need (AM.inRange v17 ((↑v12 : Int) + (1 : Int)))
                              (AM.need (AM.inRange v15 ((↑(Int.toNat v17) : Int) + (1 : Int))) (AM.St.put v9 a0 (1 : Nat) [Value.slice (AM.subA v11 (0 : Nat)) (Int.toNat v15 - (0 : Nat)) v13] fun v18 => some (Value.tuple #[], v18)))) := by kernel_rfl
/-! (*isobar/stage.Stage).Cut: 13; parameters [s] -/
theorem f13_eq (L k : Nat) (σ : St) (a0 : Nat) : evCall Go.Proofs.Try.prog Go.AM.St.env L (k + 1) 13 [.pointer (some ⟨a0, 0, none⟩)] σ =
    AM.St.ld σ a0 (1 : Nat) fun v1 =>
  AM.asSl v1 fun v2 v3 v4 => AM.St.put σ a0 (1 : Nat) [Value.slice none (0 : Nat) (0 : Nat)] fun v5 => AM.St.put v5 a0 (2 : Nat) [Value.int IntKind.i64 (0 : Int)] fun v6 => some (Value.int IntKind.i64 (↑v3 : Int), v6) := by kernel_rfl
/-! (*isobar/stage.Stage).Take: 14; parameters [s, r] -/
theorem f14_eq (L k : Nat) (σ : St) (a0 : Nat) (a1_0 : Int) (a1_1 : Int) (a1_2 : Int) (a1_3 : ByteArray) (a1_4 : Int) : evCall Go.Proofs.Try.prog Go.AM.St.env L (k + 1) 14 [.pointer (some ⟨a0, 0, none⟩), .agg [.int .i64 a1_0, .int .i64 a1_1, .int .i64 a1_2, .string a1_3, .int .i64 a1_4].toArray] σ =
    AM.bnd
  (AM.evCall Proofs.Try.prog AM.St.env L k (11 : Nat) [Value.pointer (some { block := a0, off := (0 : Nat) })]
    (AM.St.new σ (AM.Blk.own [Value.int IntKind.i64 a1_0, Value.int IntKind.i64 a1_1, Value.int IntKind.i64 a1_2, Value.string a1_3, Value.int IntKind.i64 a1_4] (34 : Nat))))
  fun v1 v2 =>
  AM.asT v1 fun v3 =>
    AM.uncons v3 fun v4 v5 =>
      AM.asI IntKind.i64 v4 fun v6 =>
        AM.uncons v5 fun v7 v8 =>
          AM.asI IntKind.i64 v7 fun v9 =>
            AM.endl v8
              (AM.St.ld v2 (AM.St.next σ) (0 : Nat) fun v10 =>
                AM.asI IntKind.i64 v10 fun v11 =>
                  AM.br (v11 != IntKind.wrap IntKind.i64 (v6 + (1 : Int))) (some (Value.int IntKind.i64 v6, v2))
                    (AM.St.lds v2 (AM.St.next σ) (0 : Nat) (5 : Nat) fun v12 =>
                      AM.uncons v12 fun v13 v14 =>
                        AM.asI IntKind.i64 v13 fun v15 =>
                          AM.uncons v14 fun v16 v17 =>
                            AM.asI IntKind.i64 v16 fun v18 =>
                              AM.uncons v17 fun v19 v20 =>
                                AM.asI IntKind.i64 v19 fun v21 =>
                                  AM.uncons v20 fun v22 v23 =>
                                    AM.asS v22 fun v24 =>
                                      AM.uncons v23 fun v25 v26 =>
                                        AM.asI IntKind.i64 v25 fun v27 =>
                                          AM.endl v26
                                            (AM.bnd
                                              (AM.evCall Proofs.Try.prog AM.St.env L k (19 : Nat) [Value.agg #[Value.int IntKind.i64 v15, Value.int IntKind.i64 v18, Value.int IntKind.i64 v21, Value.string v24, Value.int IntKind.i64 v27]]
                                                v2)
                                              fun v28 v29 =>
                                              AM.asB v28 fun v30 =>
                                                AM.br (!v30) (some (Value.int IntKind.i64 v6, v29))
                                                  (AM.St.ld v29 a0 (1 : Nat) fun v31 =>
                                                    AM.asSl v31 fun v32 v33 v34 =>
                                                      AM.St.lds v29 (AM.St.next σ) (0 : Nat) (5 : Nat) fun v35 =>
                                                        AM.uncons v35 fun v36 v37 =>
                                                          AM.asI IntKind.i64 v36 fun v38 =>
                                                            AM.uncons v37 fun v39 v40 =>
                                                              AM.asI IntKind.i64 v39 fun v41 =>
                                                                AM.uncons v40 fun v42 v43 =>
                                                                  AM.asI IntKind.i64 v42 fun v44 =>
                                                                    AM.uncons v43 fun v45 v46 =>
                                                                      AM.asS v45 fun v47 =>
                                                                        AM.uncons v46 fun v48 v49 =>
                                                                          AM.asI IntKind.i64 v48 fun v50 =>
                                                                            AM.endl v49
                                                                              (AM.St.ld
                                                                                (AM.St.new v29
                                                                                  (AM.Blk.own [Value.int IntKind.i64 v38, Value.int IntKind.i64 v41, Value.int IntKind.i64 v44, Value.string v47, Value.int IntKind.i64 v50] (34 : Nat)))
                                                                                a0 (1 : Nat) fun v51 =>
                                                                                AM.asSl v51 fun v52 v53 v54 =>
                                                                                  AM.chk (Value.slice v52 v53 v54) (Value.slice v32 v33 v34)
                                                                                    (AM.St.row
                                                                                      (AM.St.new v29
                                                                                        (AM.Blk.own [Value.int IntKind.i64 v38, Value.int IntKind.i64 v41, Value.int IntKind.i64 v44, Value.string v47, Value.int IntKind.i64 v50] (34 : Nat)))
                                                                                      (some { block := AM.St.next v29, off := (0 : Nat) }) (5 : Nat) fun v55 =>
                                                                                      AM.grow (34 : Nat) (5 : Nat) (48 : Nat) v32 v33 v34 (1 : Nat) v55
                                                                                        (AM.St.new v29
                                                                                          (AM.Blk.own [Value.int IntKind.i64 v38, Value.int IntKind.i64 v41, Value.int IntKind.i64 v44, Value.string v47, Value.int IntKind.i64 v50]
                                                                                            (34 : Nat)))
                                                                                        fun v56 v57 v58 v59 =>
                                                                                        AM.St.put v59 a0 (1 : Nat) [Value.slice v56 v57 v58] fun v60 =>
                                                                                          AM.St.ld v60 (AM.St.next σ) (0 : Nat) fun v61 => AM.asI IntKind.i64 v61 fun v62 => some (Value.int IntKind.i64 v62, v60))))))) := by kernel_rfl
/-! (*isobar/stage.Stage).UpTo: 15; parameters [s, mark] -/
theorem f15_eq (L k : Nat) (σ : St) (a0 : Nat) (a1 : Int) : evCall Go.Proofs.Try.prog Go.AM.St.env L (k + 1) 15 [.pointer (some ⟨a0, 0, none⟩), .int .i64 a1] σ =
    AM.bnd (AM.evCall Proofs.Try.prog AM.St.env L k (21 : Nat) [Value.pointer (some { block := a0, off := (0 : Nat) })] (AM.St.new σ (AM.Blk.own [Value.int IntKind.i64 a1] (3 : Nat)))) fun v1 v2 =>
  AM.asSl v1 fun v3 v4 v5 =>
    AM.bnd (AM.evCall Proofs.Try.prog AM.St.env L k (20 : Nat) [Value.slice v3 v4 v5, Value.func (Fn.func (22 : Nat)) #[] #[Value.pointer (some { block := AM.St.next σ, off := (0 : Nat) })]] v2) fun v6 v7 =>
      AM.asI IntKind.i64 v6 fun v8 =>
        AM.br (decide (v8 < (0 : Int))) (some (Value.tuple #[Value.slice none (0 : Nat) (0 : Nat), Value.bool false], v7))
          (AM.St.ld v7 a0 (1 : Nat) fun v9 =>
            AM.asSl v9 fun v10 v11 v12 =>
              AM.need (Nat.beq v12 (0 : Nat) || Nat.beq v12 (5 : Nat))
                (AM.need (AM.inRange (IntKind.wrap IntKind.i64 (v8 + (1 : Int))) ((↑v11 : Int) + (1 : Int)))
                  (AM.bnd (AM.evCall Proofs.Try.prog AM.St.env L k (23 : Nat) [Value.slice (AM.subA v10 (0 : Nat)) (Int.toNat (IntKind.wrap IntKind.i64 (v8 + (1 : Int))) - (0 : Nat)) v12] v7) fun v13 v14 =>
                    AM.asSl v13 fun v15 v16 v17 => some (Value.tuple #[Value.slice v15 v16 v17, Value.bool true], v14)))) := by kernel_rfl
/-! (*isobar/stage.Stage).Marks: 16; parameters [s] -/
theorem f16_eq (L k : Nat) (σ : St) (a0 : Nat) : evCall Go.Proofs.Try.prog Go.AM.St.env L (k + 1) 16 [.pointer (some ⟨a0, 0, none⟩)] σ =
    AM.bnd (AM.evCall Proofs.Try.prog AM.St.env L k (21 : Nat) [Value.pointer (some { block := a0, off := (0 : Nat) })] σ) fun v1 v2 =>
  AM.asSl v1 fun v3 v4 v5 =>
    AM.lpAt Proofs.Try.prog AM.St.env L k (16 : Nat) [true, true, false, true] [] L
      [((3 : Nat), Value.slice none (0 : Nat) (0 : Nat)), ((7 : Nat), Value.slice v3 v4 v5), ((8 : Nat), Value.int IntKind.i64 (↑v4 : Int)), ((9 : Nat), Value.int IntKind.i64 (0 : Int))] v2 := by kernel_rfl
theorem f16_l3 (L k n : Nat) (σ : St) (s3 : Option Addr) (s3n s3z : Nat) (s7 : Option Addr) (s7n s7z : Nat) (s8 : Int) (s9 : Int) : lpAt Go.Proofs.Try.prog Go.AM.St.env L k 16 [true, true, false, true] [] (n + 1) [(3, .slice s3 s3n s3z), (7, .slice s7 s7n s7z), (8, .int .i64 s8), (9, .int .i64 s9)] σ =
    AM.br (decide (s9 < s8))
  (AM.need (AM.inRange s9 (↑s7n : Int))
    (AM.adr s7 fun v1 v2 =>
      AM.St.lds σ v1 (v2 + Int.toNat s9 * (5 : Nat)) (5 : Nat) fun v3 =>
        AM.uncons v3 fun v4 v5 =>
          AM.asI IntKind.i64 v4 fun v6 =>
            AM.uncons v5 fun v7 v8 =>
              AM.asI IntKind.i64 v7 fun v9 =>
                AM.uncons v8 fun v10 v11 =>
                  AM.asI IntKind.i64 v10 fun v12 =>
                    AM.uncons v11 fun v13 v14 =>
                      AM.asS v13 fun v15 =>
                        AM.uncons v14 fun v16 v17 =>
                          AM.asI IntKind.i64 v16 fun v18 =>
                            AM.endl v17
                              (AM.St.put
                                (AM.St.new σ (AM.Blk.own [Value.int IntKind.i64 (0 : Int), Value.int IntKind.i64 (0 : Int), Value.int IntKind.i64 (0 : Int), Value.string { data := #[] }, Value.int IntKind.i64 (0 : Int)] (34 : Nat)))
                                (AM.St.next σ) (0 : Nat) [Value.int IntKind.i64 v6, Value.int IntKind.i64 v9, Value.int IntKind.i64 v12, Value.string v15, Value.int IntKind.i64 v18] fun v19 =>
                                AM.St.ld v19 (AM.St.next σ) (1 : Nat) fun v20 =>
                                  AM.asI IntKind.i64 v20 fun v21 =>
                                    AM.br (v21 == (2 : Int))
                                      (AM.St.ld v19 (AM.St.next σ) (4 : Nat) fun v22 =>
                                        AM.asI IntKind.i64 v22 fun v23 =>
                                          AM.St.row (AM.St.new v19 (AM.Blk.own [Value.int IntKind.i64 v23] (3 : Nat))) (some { block := AM.St.next v19, off := (0 : Nat) }) (1 : Nat) fun v24 =>
                                            AM.grow (3 : Nat) (1 : Nat) (8 : Nat) s3 s3n s3z (1 : Nat) v24 (AM.St.new v19 (AM.Blk.own [Value.int IntKind.i64 v23] (3 : Nat))) fun v25 v26 v27 v28 =>
                                              AM.lpAt Proofs.Try.prog AM.St.env L k (16 : Nat) [true, true, false, true] [] n
                                                [((3 : Nat), Value.slice v25 v26 v27), ((7 : Nat), Value.slice s7 s7n s7z), ((8 : Nat), Value.int IntKind.i64 s8),
                                                  ((9 : Nat), Value.int IntKind.i64 (IntKind.wrap IntKind.i64 (s9 + (1 : Int))))]
                                                v28)
                                      (AM.lpAt Proofs.Try.prog AM.St.env L k (16 : Nat) [true, true, false, true] [] n
                                        [((3 : Nat), Value.slice s3 s3n s3z), ((7 : Nat), Value.slice s7 s7n s7z), ((8 : Nat), Value.int IntKind.i64 s8), ((9 : Nat), Value.int IntKind.i64 (IntKind.wrap IntKind.i64 (s9 + (1 : Int))))]
                                        v19))))
  (some (Value.slice s3 s3n s3z, σ)) := by kernel_rfl
/-! (*isobar/stage.Stage).Drop: 17; parameters [s, mark] -/
theorem f17_eq (L k : Nat) (σ : St) (a0 : Nat) (a1 : Int) : evCall Go.Proofs.Try.prog Go.AM.St.env L (k + 1) 17 [.pointer (some ⟨a0, 0, none⟩), .int .i64 a1] σ =
    AM.bnd (AM.evCall Proofs.Try.prog AM.St.env L k (15 : Nat) [Value.pointer (some { block := a0, off := (0 : Nat) }), Value.int IntKind.i64 a1] σ) fun v1 v2 =>
  AM.asT v1 fun v3 =>
    AM.uncons v3 fun v4 v5 =>
      AM.asSl v4 fun v6 v7 v8 =>
        AM.uncons v5 fun v9 v10 =>
          AM.asB v9 fun v11 =>
            AM.endl v10
              (AM.br (!v11)
                (AM.bnd
                  (AM.evCall Proofs.Try.prog AM.St.env L k (24 : Nat)
                    [Value.string { data := #[(115 : UInt8), (116 : UInt8), (97 : UInt8), (103 : UInt8), (101 : UInt8)] }, Value.int IntKind.i64 a1, Value.iface (55 : Nat) (Value.int IntKind.i64 (8 : Int))] v2)
                  fun v12 v13 => some (AM.pack [v12], v13))
                (AM.St.ld v2 a0 (0 : Nat) fun v14 =>
                  AM.asI IntKind.i64 v14 fun v15 =>
                    AM.St.put v2 a0 (0 : Nat) [Value.int IntKind.i64 (IntKind.wrap IntKind.i64 (v15 + (↑v7 : Int)))] fun v16 =>
                      AM.St.put v16 a0 (3 : Nat) [Value.int IntKind.i64 a1] fun v17 =>
                        AM.St.ld v17 a0 (2 : Nat) fun v18 =>
                          AM.asI IntKind.i64 v18 fun v19 =>
                            AM.St.put v17 a0 (2 : Nat) [Value.int IntKind.i64 (IntKind.wrap IntKind.i64 (v19 - (↑v7 : Int)))] fun v20 =>
                              AM.St.ld v20 a0 (1 : Nat) fun v21 =>
                                AM.asSl v21 fun v22 v23 v24 =>
                                  AM.need (Nat.beq v24 (0 : Nat) || Nat.beq v24 (5 : Nat))
                                    (AM.need (AM.inRange (↑v7 : Int) ((↑v23 : Int) + (1 : Int)))
                                      (AM.bnd (AM.evCall Proofs.Try.prog AM.St.env L k (23 : Nat) [Value.slice (AM.subA v22 (Int.toNat (↑v7 : Int) * (5 : Nat))) (v23 - Int.toNat (↑v7 : Int)) v24] v20) fun v25 v26 =>
                                        AM.asSl v25 fun v27 v28 v29 => AM.St.put v26 a0 (1 : Nat) [Value.slice v27 v28 v29] fun v30 => some (Value.nilIface, v30))))) := by kernel_rfl
/-! (*isobar/stage.Stage).Dropped: 18; parameters [s] -/
theorem f18_eq (L k : Nat) (σ : St) (a0 : Nat) : evCall Go.Proofs.Try.prog Go.AM.St.env L (k + 1) 18 [.pointer (some ⟨a0, 0, none⟩)] σ =
    AM.St.ld σ a0 (0 : Nat) fun v1 =>
  AM.asI IntKind.i64 v1 fun v2 => AM.St.ld σ a0 (3 : Nat) fun v3 => AM.asI IntKind.i64 v3 fun v4 => some (Value.tuple #[Value.int IntKind.i64 (IntKind.wrap IntKind.i64 (v2 - (1 : Int))), Value.int IntKind.i64 v4], σ) := by kernel_rfl
/-! isobar/record.Right: 19; parameters [r] -/
theorem f19_eq (L k : Nat) (σ : St) (a0_0 : Int) (a0_1 : Int) (a0_2 : Int) (a0_3 : ByteArray) (a0_4 : Int) : evCall Go.Proofs.Try.prog Go.AM.St.env L (k + 1) 19 [.agg [.int .i64 a0_0, .int .i64 a0_1, .int .i64 a0_2, .string a0_3, .int .i64 a0_4].toArray] σ =
    AM.St.ld (AM.St.new σ (AM.Blk.own [Value.int IntKind.i64 a0_0, Value.int IntKind.i64 a0_1, Value.int IntKind.i64 a0_2, Value.string a0_3, Value.int IntKind.i64 a0_4] (34 : Nat))) (AM.St.next σ) (0 : Nat) fun v1 =>
  AM.asI IntKind.i64 v1 fun v2 =>
    AM.bnd
      (AM.evCall Proofs.Try.prog AM.St.env L k (25 : Nat) [Value.int IntKind.i64 v2, Value.int IntKind.i64 (1 : Int)]
        (AM.St.new σ (AM.Blk.own [Value.int IntKind.i64 a0_0, Value.int IntKind.i64 a0_1, Value.int IntKind.i64 a0_2, Value.string a0_3, Value.int IntKind.i64 a0_4] (34 : Nat))))
      fun v3 v4 =>
      AM.asB v3 fun v5 =>
        AM.St.ld v4 (AM.St.next σ) (1 : Nat) fun v6 =>
          AM.asI IntKind.i64 v6 fun v7 =>
            AM.br (v7 == (2 : Int))
              (AM.br v5
                (AM.St.ld v4 (AM.St.next σ) (4 : Nat) fun v8 =>
                  AM.asI IntKind.i64 v8 fun v9 =>
                    AM.bnd (AM.evCall Proofs.Try.prog AM.St.env L k (25 : Nat) [Value.int IntKind.i64 v9, Value.int IntKind.i64 (1 : Int)] v4) fun v10 v11 =>
                      AM.asB v10 fun v12 =>
                        AM.br v12
                          (AM.St.ld v11 (AM.St.next σ) (3 : Nat) fun v13 =>
                            AM.asS v13 fun v14 =>
                              AM.St.put v11 (AM.St.next σ) (4 : Nat) [Value.int IntKind.i64 (0 : Int)] fun v15 =>
                                AM.br (ByteArray.toList v14 == ByteArray.toList { data := #[] })
                                  (AM.St.ld v15 (AM.St.next σ) (2 : Nat) fun v16 =>
                                    AM.asI IntKind.i64 v16 fun v17 =>
                                      AM.br (decide (v17 ≥ (0 : Int)))
                                        (AM.St.ld v15 (AM.St.next σ) (2 : Nat) fun v18 =>
                                          AM.asI IntKind.i64 v18 fun v19 =>
                                            AM.br (decide (v19 < (8 : Int)))
                                              (AM.St.ld v15 (AM.St.next σ) (3 : Nat) fun v20 =>
                                                AM.asS v20 fun v21 =>
                                                  AM.br (decide ((↑(ByteArray.size v21) : Int) ≤ (16 : Int)))
                                                    (AM.St.ld v15 (AM.St.next σ) (4 : Nat) fun v22 =>
                                                      AM.asI IntKind.i64 v22 fun v23 =>
                                                        AM.br (v23 == (0 : Int))
                                                          (AM.St.ld v15 (AM.St.next σ) (1 : Nat) fun v24 =>
                                                            AM.asI IntKind.i64 v24 fun v25 =>
                                                              AM.br (v25 == (1 : Int)) (some (Value.bool true, v15))
                                                                (AM.St.ld v15 (AM.St.next σ) (2 : Nat) fun v26 => AM.asI IntKind.i64 v26 fun v27 => some (Value.bool (v27 == (0 : Int)), v15)))
                                                          (some (Value.bool false, v15)))
                                                    (some (Value.bool false, v15)))
                                              (some (Value.bool false, v15)))
                                        (some (Value.bool false, v15)))
                                  (some (Value.bool false, v15)))
                          (AM.St.put v11 (AM.St.next σ) (4 : Nat) [Value.int IntKind.i64 (0 : Int)] fun v28 => some (Value.bool false, v28)))
                (AM.St.put v4 (AM.St.next σ) (4 : Nat) [Value.int IntKind.i64 (0 : Int)] fun v29 => some (Value.bool false, v29)))
              (AM.br (v7 == (1 : Int))
                (AM.br v5
                  (AM.St.ld v4 (AM.St.next σ) (2 : Nat) fun v30 =>
                    AM.asI IntKind.i64 v30 fun v31 =>
                      AM.br (decide (v31 ≥ (0 : Int)))
                        (AM.St.ld v4 (AM.St.next σ) (2 : Nat) fun v32 =>
                          AM.asI IntKind.i64 v32 fun v33 =>
                            AM.br (decide (v33 < (8 : Int)))
                              (AM.St.ld v4 (AM.St.next σ) (3 : Nat) fun v34 =>
                                AM.asS v34 fun v35 =>
                                  AM.br (decide ((↑(ByteArray.size v35) : Int) ≤ (16 : Int)))
                                    (AM.St.ld v4 (AM.St.next σ) (4 : Nat) fun v36 =>
                                      AM.asI IntKind.i64 v36 fun v37 =>
                                        AM.br (v37 == (0 : Int))
                                          (AM.St.ld v4 (AM.St.next σ) (1 : Nat) fun v38 =>
                                            AM.asI IntKind.i64 v38 fun v39 =>
                                              AM.br (v39 == (1 : Int)) (some (Value.bool true, v4)) (AM.St.ld v4 (AM.St.next σ) (2 : Nat) fun v40 => AM.asI IntKind.i64 v40 fun v41 => some (Value.bool (v41 == (0 : Int)), v4)))
                                          (some (Value.bool false, v4)))
                                    (some (Value.bool false, v4)))
                              (some (Value.bool false, v4)))
                        (some (Value.bool false, v4)))
                  (some (Value.bool false, v4)))
                (some (Value.bool false, v4))) := by kernel_rfl
/-! slices.IndexFunc[[]isobar/api.Record,isobar/api.Record]: 20; parameters [s, f] -/
theorem f20_eq (L k : Nat) (σ : St) (a0 : Option Addr) (a0n a0z : Nat) (a1 : Value) : evCall Go.Proofs.Try.prog Go.AM.St.env L (k + 1) 20 [.slice a0 a0n a0z, a1] σ =
    AM.lpAt Proofs.Try.prog AM.St.env L k (20 : Nat) [true, false, true] [] L [((0 : Nat), Value.slice a0 a0n a0z), ((1 : Nat), a1), ((7 : Nat), Value.int IntKind.i64 (↑a0n : Int)), ((8 : Nat), Value.int IntKind.i64 (0 : Int))] σ := by kernel_rfl
theorem f20_l2 (L k n : Nat) (σ : St) (s0 : Option Addr) (s0n s0z : Nat) (s1 : Value) (s7 : Int) (s8 : Int) : lpAt Go.Proofs.Try.prog Go.AM.St.env L k 20 [true, false, true] [] (n + 1) [(0, .slice s0 s0n s0z), (1, s1), (7, .int .i64 s7), (8, .int .i64 s8)] σ =
    AM.br (decide (s8 < s7))
  (AM.need (AM.inRange s8 (↑s0n : Int))
    (AM.adr s0 fun v1 v2 =>
      AM.St.lds σ v1 (v2 + Int.toNat s8 * (5 : Nat)) (5 : Nat) fun v3 =>
        AM.uncons v3 fun v4 v5 =>
          AM.asI IntKind.i64 v4 fun v6 =>
            AM.uncons v5 fun v7 v8 =>
              AM.asI IntKind.i64 v7 fun v9 =>
                AM.uncons v8 fun v10 v11 =>
                  AM.asI IntKind.i64 v10 fun v12 =>
                    AM.uncons v11 fun v13 v14 =>
                      AM.asS v13 fun v15 =>
                        AM.uncons v14 fun v16 v17 =>
                          AM.asI IntKind.i64 v16 fun v18 =>
                            AM.endl v17
                              (AM.asF s1 fun v19 v20 v21 =>
                                AM.bnd (AM.evCall Proofs.Try.prog AM.St.env L k v19 (v20 ++ [Value.agg #[Value.int IntKind.i64 v6, Value.int IntKind.i64 v9, Value.int IntKind.i64 v12, Value.string v15, Value.int IntKind.i64 v18]] ++ v21) σ)
                                  fun v22 v23 =>
                                  AM.asB v22 fun v24 =>
                                    AM.br v24 (some (Value.int IntKind.i64 s8, v23))
                                      (AM.lpAt Proofs.Try.prog AM.St.env L k (20 : Nat) [true, false, true] [] n
                                        [((0 : Nat), Value.slice s0 s0n s0z), ((1 : Nat), s1), ((7 : Nat), Value.int IntKind.i64 s7), ((8 : Nat), Value.int IntKind.i64 (IntKind.wrap IntKind.i64 (s8 + (1 : Int))))] v23))))
  (some (Value.int IntKind.i64 (-1 : Int), σ)) := by kernel_rfl
/-! (*isobar/stage.Stage).safe: 21; parameters [s] -/
theorem f21_eq (L k : Nat) (σ : St) (a0 : Nat) : evCall Go.Proofs.Try.prog Go.AM.St.env L (k + 1) 21 [.pointer (some ⟨a0, 0, none⟩)] σ =
    AM.St.ld σ a0 (1 : Nat) fun v1 =>
  AM.asSl v1 fun v2 v3 v4 =>
    AM.St.ld σ a0 (2 : Nat) fun v5 =>
      AM.asI IntKind.i64 v5 fun v6 => AM.need (Nat.beq v4 (0 : Nat) || Nat.beq v4 (5 : Nat)) (AM.need (AM.inRange v6 ((↑v3 : Int) + (1 : Int))) (some (Value.slice (AM.subA v2 (0 : Nat)) (Int.toNat v6 - (0 : Nat)) v4, σ))) := by kernel_rfl
/-! (*isobar/stage.Stage).UpTo$1: 22; parameters [r] -/
theorem f22_eq (L k : Nat) (σ : St) (a0_0 : Int) (a0_1 : Int) (a0_2 : Int) (a0_3 : ByteArray) (a0_4 : Int) (c0 : Value) : evCall Go.Proofs.Try.prog Go.AM.St.env L (k + 1) 22 [.agg [.int .i64 a0_0, .int .i64 a0_1, .int .i64 a0_2, .string a0_3, .int .i64 a0_4].toArray, c0] σ =
    AM.St.ld (AM.St.new σ (AM.Blk.own [Value.int IntKind.i64 a0_0, Value.int IntKind.i64 a0_1, Value.int IntKind.i64 a0_2, Value.string a0_3, Value.int IntKind.i64 a0_4] (34 : Nat))) (AM.St.next σ) (1 : Nat) fun v1 =>
  AM.asI IntKind.i64 v1 fun v2 =>
    AM.br (v2 == (2 : Int))
      (AM.St.ld (AM.St.new σ (AM.Blk.own [Value.int IntKind.i64 a0_0, Value.int IntKind.i64 a0_1, Value.int IntKind.i64 a0_2, Value.string a0_3, Value.int IntKind.i64 a0_4] (34 : Nat))) (AM.St.next σ) (4 : Nat) fun v3 =>
        AM.asI IntKind.i64 v3 fun v4 =>
          AM.asP c0 fun v5 =>
            AM.adr v5 fun v6 v7 =>
              AM.St.ld (AM.St.new σ (AM.Blk.own [Value.int IntKind.i64 a0_0, Value.int IntKind.i64 a0_1, Value.int IntKind.i64 a0_2, Value.string a0_3, Value.int IntKind.i64 a0_4] (34 : Nat))) v6 v7 fun v8 =>
                AM.asI IntKind.i64 v8 fun v9 =>
                  some (Value.bool (v4 == v9), AM.St.new σ (AM.Blk.own [Value.int IntKind.i64 a0_0, Value.int IntKind.i64 a0_1, Value.int IntKind.i64 a0_2, Value.string a0_3, Value.int IntKind.i64 a0_4] (34 : Nat))))
      (some (Value.bool false, AM.St.new σ (AM.Blk.own [Value.int IntKind.i64 a0_0, Value.int IntKind.i64 a0_1, Value.int IntKind.i64 a0_2, Value.string a0_3, Value.int IntKind.i64 a0_4] (34 : Nat)))) := by kernel_rfl
/-! slices.Clone[[]isobar/api.Record,isobar/api.Record]: 23; parameters [s] -/
theorem f23_eq (L k : Nat) (σ : St) (a0 : Option Addr) (a0n a0z : Nat) : evCall Go.Proofs.Try.prog Go.AM.St.env L (k + 1) 23 [.slice a0 a0n a0z] σ =
    AM.br (Option.isNone a0) (some (Value.slice none (0 : Nat) (0 : Nat), σ))
  (AM.St.row (AM.St.new σ (AM.Blk.own [] (34 : Nat))) a0 (a0n * (5 : Nat)) fun v1 =>
    AM.grow (34 : Nat) (5 : Nat) (48 : Nat) (some { block := AM.St.next σ, off := (0 : Nat) }) (0 : Nat) (5 : Nat) a0n v1 (AM.St.new σ (AM.Blk.own [] (34 : Nat))) fun v2 v3 v4 v5 => some (Value.slice v2 v3 v4, v5)) := by kernel_rfl
/-! isobar/fault.Wrap: 24; parameters [op, at, err] -/
theorem f24_eq (L k : Nat) (σ : St) (a0 : ByteArray) (a1 : Int) (a2 : Value) : evCall Go.Proofs.Try.prog Go.AM.St.env L (k + 1) 24 [.string a0, .int .i64 a1, a2] σ =
    AM.eqNil a2 fun v1 =>
  AM.br v1 (some (Value.nilIface, σ))
    (AM.eqErr a2 (55 : Nat) IntKind.i64 (0 : Int) fun v2 =>
      AM.br v2 (some (Value.nilIface, σ))
        (AM.need true
          (AM.need (AM.oneCell a2) (AM.need true (some (Value.iface (57 : Nat) (Value.pointer (some { block := AM.St.next σ, off := (0 : Nat) })), AM.St.new σ (AM.Blk.own [Value.string a0, Value.int IntKind.i64 a1, a2] (59 : Nat)))))))) := by kernel_rfl
/-! isobar/record.number: 25; parameters [n, least] -/
theorem f25_eq (L k : Nat) (σ : St) (a0 : Int) (a1 : Int) : evCall Go.Proofs.Try.prog Go.AM.St.env L (k + 1) 25 [.int .i64 a0, .int .i64 a1] σ =
    AM.br (decide (a0 ≥ a1)) (some (Value.bool (decide (a0 ≤ (1152921504606846975 : Int))), σ)) (some (Value.bool false, σ)) := by kernel_rfl
end Go.AM.St
