/-
  WHAT EACH FUNCTION DOES, word by word (printed).
-/
import Derived.Test.YtmbofnomfmhmdaaDoorAm0
import Derived.Test.YtmbofnomfmhmdaaDoorEnvRz
set_option linter.unusedVariables false
set_option linter.unusedSimpArgs false
set_option linter.unusedSectionVars false
namespace Go.AM.Rz
open Go.Proofs
/-! isobar/isobarlaw17.RoundNil: 4; parameters [c, l] -/
theorem f4_eq (L k : Nat) (σ : St) (a0_0 : Int) (a0_1 : Int) (a0_2 : Int) (a1 : Option Addr) (a1n a1z : Nat) : evCall Go.Proofs.Tryd.prog Go.AM.Rz.env L (k + 1) 4 [.agg [.int .i64 a0_0, .int .i64 a0_1, .int .i64 a0_2].toArray, .slice a1 a1n a1z] σ =
    AM.bnd (AM.evCall Proofs.Tryd.prog AM.Rz.env L k (5 : Nat) [] (AM.St.new σ (AM.Blk.own [Value.int IntKind.i64 a0_0, Value.int IntKind.i64 a0_1, Value.int IntKind.i64 a0_2] (36 : Nat)))) fun v1 v2 =>
  AM.asB v1 fun v3 =>
    AM.br (!v3) (AM.bnd (AM.evCall Proofs.Tryd.prog AM.Rz.env L k (5 : Nat) [] v2) fun v4 v5 => AM.asB v4 fun v6 => some (Value.bool v6, v5))
      (AM.br (decide ((↑a1n : Int) > (20 : Int))) (AM.bnd (AM.evCall Proofs.Tryd.prog AM.Rz.env L k (5 : Nat) [] v2) fun v7 v8 => AM.asB v7 fun v9 => some (Value.bool v9, v8))
        (AM.St.ld v2 (AM.St.next σ) (2 : Nat) fun v10 =>
          AM.asI IntKind.i64 v10 fun v11 =>
            AM.bnd (AM.evCall Proofs.Tryd.prog AM.Rz.env L k (7 : Nat) [Value.pointer none, Value.int IntKind.i64 v11, Value.slice a1 a1n a1z] v2) fun v12 v13 =>
              AM.asT v12 fun v14 =>
                AM.uncons v14 fun v15 v16 =>
                  AM.asSl v15 fun v17 v18 v19 =>
                    AM.uncons v16 fun v20 v21 =>
                      AM.endl v21
                        (AM.St.lds v13 (AM.St.next σ) (0 : Nat) (3 : Nat) fun v22 =>
                          AM.uncons v22 fun v23 v24 =>
                            AM.asI IntKind.i64 v23 fun v25 =>
                              AM.uncons v24 fun v26 v27 =>
                                AM.asI IntKind.i64 v26 fun v28 =>
                                  AM.uncons v27 fun v29 v30 =>
                                    AM.asI IntKind.i64 v29 fun v31 =>
                                      AM.endl v30
                                        (AM.bnd (AM.evCall Proofs.Tryd.prog AM.Rz.env L k (12 : Nat) [Value.pointer none, Value.agg #[Value.int IntKind.i64 v25, Value.int IntKind.i64 v28, Value.int IntKind.i64 v31]] v13) fun v32 v33 =>
                                          AM.asT v32 fun v34 =>
                                            AM.uncons v34 fun v35 v36 =>
                                              AM.asSl v35 fun v37 v38 v39 =>
                                                AM.uncons v36 fun v40 v41 =>
                                                  AM.endl v41
                                                    (AM.bnd (AM.evCall Proofs.Tryd.prog AM.Rz.env L k (16 : Nat) [Value.pointer none] v33) fun v42 v43 =>
                                                      AM.asT v42 fun v44 =>
                                                        AM.uncons v44 fun v45 v46 =>
                                                          AM.asI IntKind.i64 v45 fun v47 =>
                                                            AM.uncons v46 fun v48 v49 =>
                                                              AM.asB v48 fun v50 =>
                                                                AM.endl v49
                                                                  (AM.bnd (AM.evCall Proofs.Tryd.prog AM.Rz.env L k (14 : Nat) [Value.pointer none] v43) fun v51 v52 =>
                                                                    AM.asSl v51 fun v53 v54 v55 =>
                                                                      AM.bnd (AM.evCall Proofs.Tryd.prog AM.Rz.env L k (19 : Nat) [Value.pointer none] v52) fun v56 v57 =>
                                                                        AM.asSl v56 fun v58 v59 v60 =>
                                                                          AM.br (IntKind.wrap IntKind.i64 (IntKind.wrap IntKind.i64 (IntKind.wrap IntKind.i64 ((↑v18 : Int) + (↑v38 : Int)) + (↑v54 : Int)) + (↑v59 : Int)) == (0 : Int))
                                                                            (AM.bnd (AM.evCall Proofs.Tryd.prog AM.Rz.env L k (11 : Nat) [v20, Value.int IntKind.i64 (0 : Int), Value.int IntKind.i64 (11 : Int)] v57) fun v61 v62 =>
                                                                              AM.asB v61 fun v63 =>
                                                                                AM.br v63
                                                                                  (AM.bnd (AM.evCall Proofs.Tryd.prog AM.Rz.env L k (11 : Nat) [v40, Value.int IntKind.i64 (0 : Int), Value.int IntKind.i64 (11 : Int)] v62) fun v64 v65 =>
                                                                                    AM.asB v64 fun v66 =>
                                                                                      AM.br v66
                                                                                        (AM.bnd (AM.evCall Proofs.Tryd.prog AM.Rz.env L k (17 : Nat) [Value.pointer none] v65) fun v67 v68 =>
                                                                                          AM.asI IntKind.i64 v67 fun v69 =>
                                                                                            AM.br (v69 == (0 : Int)) (AM.br (v47 == (0 : Int)) (some (Value.bool !v50, v68)) (some (Value.bool false, v68))) (some (Value.bool false, v68)))
                                                                                        (some (Value.bool false, v65)))
                                                                                  (some (Value.bool false, v62)))
                                                                            (some (Value.bool false, v57)))))))) := by kernel_rfl
/-! isobar/isobarlaw17.awake: 5; parameters [] -/
theorem f5_eq (L k : Nat) (σ : St)  : evCall Go.Proofs.Tryd.prog Go.AM.Rz.env L (k + 1) 5 [] σ =
    AM.bnd
  (AM.evCall Proofs.Tryd.prog AM.Rz.env L k (7 : Nat)
    [Value.pointer (some { block := AM.St.next σ, off := (0 : Nat) }), Value.int IntKind.i64 (1 : Int),
      Value.slice
        (some
          {
            block :=
              AM.St.next
                (AM.St.new σ
                  (AM.Blk.own
                    [Value.int IntKind.i64 (0 : Int), Value.int IntKind.i64 (0 : Int), Value.slice none (0 : Nat) (0 : Nat), Value.int IntKind.i64 (0 : Int), Value.map none, Value.int IntKind.i64 (0 : Int), Value.bool false,
                      Value.int IntKind.i64 (0 : Int), Value.bool false]
                    (29 : Nat))),
            off := (0 : Nat) })
        (2 : Nat) (1 : Nat)]
    (AM.St.new
      (AM.St.new σ
        (AM.Blk.own
          [Value.int IntKind.i64 (0 : Int), Value.int IntKind.i64 (0 : Int), Value.slice none (0 : Nat) (0 : Nat), Value.int IntKind.i64 (0 : Int), Value.map none, Value.int IntKind.i64 (0 : Int), Value.bool false,
            Value.int IntKind.i64 (0 : Int), Value.bool false]
          (29 : Nat)))
      (AM.Blk.own [Value.int IntKind.i64 (0 : Int), Value.int IntKind.i64 (2 : Int)] (3 : Nat))))
  fun v1 v2 =>
  AM.asT v1 fun v3 =>
    AM.uncons v3 fun v4 v5 =>
      AM.asSl v4 fun v6 v7 v8 =>
        AM.uncons v5 fun v9 v10 =>
          AM.endl v10
            (AM.eqNil v9 fun v11 =>
              AM.br v11
                (AM.br ((↑v7 : Int) == (2 : Int))
                  (AM.need (AM.inRange (0 : Int) (↑v7 : Int))
                    (AM.adr v6 fun v12 v13 =>
                      AM.St.ld v2 v12 (v13 + (0 : Nat) + (0 : Nat)) fun v14 =>
                        AM.asI IntKind.i64 v14 fun v15 =>
                          AM.br (v15 == (1 : Int))
                            (AM.need (AM.inRange (1 : Int) (↑v7 : Int))
                              (AM.adr v6 fun v16 v17 =>
                                AM.St.ld v2 v16 (v17 + (3 : Nat) + (1 : Nat)) fun v18 =>
                                  AM.asI IntKind.i64 v18 fun v19 =>
                                    AM.br (v19 == (2 : Int))
                                      (AM.bnd (AM.evCall Proofs.Tryd.prog AM.Rz.env L k (17 : Nat) [Value.pointer (some { block := AM.St.next σ, off := (0 : Nat) })] v2) fun v20 v21 =>
                                        AM.asI IntKind.i64 v20 fun v22 => some (Value.bool (v22 == (1 : Int)), v21))
                                      (some (Value.bool false, v2))))
                            (some (Value.bool false, v2))))
                  (some (Value.bool false, v2)))
                (some (Value.bool false, v2))) := by kernel_rfl
/-! (*isobar/round.Round).Begin: 7; parameters [r, number, volumes] -/
theorem f7_eq (L k : Nat) (σ : St) (a0 : Nat) (a1 : Int) (a2 : Option Addr) (a2n a2z : Nat) : evCall Go.Proofs.Tryd.prog Go.AM.Rz.env L (k + 1) 7 [.pointer (some ⟨a0, 0, none⟩), .int .i64 a1, .slice a2 a2n a2z] σ =
    AM.St.ld σ a0 (0 : Nat) fun v1 =>
  AM.asI IntKind.i64 v1 fun v2 =>
    AM.br (v2 != (0 : Int)) (AM.bnd (AM.evCall Proofs.Tryd.prog AM.Rz.env L k (20 : Nat) [Value.int IntKind.i64 a1, Value.int IntKind.i64 (9 : Int)] σ) fun v3 v4 => some (Value.tuple #[Value.slice none (0 : Nat) (0 : Nat), v3], v4))
      (AM.St.ld σ a0 (1 : Nat) fun v5 =>
        AM.asI IntKind.i64 v5 fun v6 =>
          AM.br (decide (a1 ≤ v6)) (AM.bnd (AM.evCall Proofs.Tryd.prog AM.Rz.env L k (20 : Nat) [Value.int IntKind.i64 a1, Value.int IntKind.i64 (10 : Int)] σ) fun v7 v8 => some (Value.tuple #[Value.slice none (0 : Nat) (0 : Nat), v7], v8))
            (AM.bnd (AM.evCall Proofs.Tryd.prog AM.Rz.env L k (21 : Nat) [Value.slice a2 a2n a2z] σ) fun v9 v10 =>
              AM.asB v9 fun v11 =>
                AM.br (!v11) (AM.bnd (AM.evCall Proofs.Tryd.prog AM.Rz.env L k (20 : Nat) [Value.int IntKind.i64 a1, Value.int IntKind.i64 (1 : Int)] v10) fun v12 v13 => some (Value.tuple #[Value.slice none (0 : Nat) (0 : Nat), v12], v13))
                  (AM.St.put v10 a0 (0 : Nat) [Value.int IntKind.i64 a1] fun v14 =>
                    AM.St.put v14 a0 (1 : Nat) [Value.int IntKind.i64 a1] fun v15 =>
                      AM.St.put v15 a0 (6 : Nat) [Value.bool false] fun v16 =>
                        AM.bnd (AM.evCall Proofs.Tryd.prog AM.Rz.env L k (22 : Nat) [Value.slice a2 a2n a2z] v16) fun v17 v18 =>
                          AM.asSl v17 fun v19 v20 v21 =>
                            AM.St.put v18 a0 (2 : Nat) [Value.slice v19 v20 v21] fun v22 =>
                              AM.bnd (AM.evCall Proofs.Tryd.prog AM.Rz.env L k (23 : Nat) [Value.pointer (some { block := a0, off := (0 : Nat) }), Value.int IntKind.i64 (1 : Int)] v22) fun v23 v24 =>
                                AM.asSl v23 fun v25 v26 v27 => some (Value.tuple #[Value.slice v25 v26 v27, Value.nilIface], v24)))) := by kernel_rfl
/-! isobar/isobarlaw17.list: 10; parameters [l] -/
theorem f10_eq (L k : Nat) (σ : St) (a0 : Option Addr) (a0n a0z : Nat) : evCall Go.Proofs.Tryd.prog Go.AM.Rz.env L (k + 1) 10 [.slice a0 a0n a0z] σ =
    AM.lpAt Proofs.Tryd.prog AM.Rz.env L k (10 : Nat) [true, true, false, true] [] L
  [((0 : Nat), Value.slice a0 a0n a0z), ((3 : Nat), Value.slice none (0 : Nat) (0 : Nat)), ((6 : Nat), Value.int IntKind.i64 (↑a0n : Int)), ((7 : Nat), Value.int IntKind.i64 (0 : Int))] σ := by kernel_rfl
theorem f10_l3 (L k n : Nat) (σ : St) (s0 : Option Addr) (s0n s0z : Nat) (s3 : Option Addr) (s3n s3z : Nat) (s6 : Int) (s7 : Int) : lpAt Go.Proofs.Tryd.prog Go.AM.Rz.env L k 10 [true, true, false, true] [] (n + 1) [(0, .slice s0 s0n s0z), (3, .slice s3 s3n s3z), (6, .int .i64 s6), (7, .int .i64 s7)] σ =
    AM.br (decide (s7 < s6))
  (AM.need (AM.inRange s7 (↑s0n : Int))
    (AM.adr s0 fun v1 v2 =>
      AM.St.lds σ v1 (v2 + Int.toNat s7 * (3 : Nat)) (3 : Nat) fun v3 =>
        AM.uncons v3 fun v4 v5 =>
          AM.asI IntKind.i64 v4 fun v6 =>
            AM.uncons v5 fun v7 v8 =>
              AM.asI IntKind.i64 v7 fun v9 =>
                AM.uncons v8 fun v10 v11 =>
                  AM.asI IntKind.i64 v10 fun v12 =>
                    AM.endl v11
                      (AM.St.row (AM.St.new σ (AM.Blk.own [Value.int IntKind.i64 v6, Value.int IntKind.i64 v9, Value.int IntKind.i64 v12] (36 : Nat))) (some { block := AM.St.next σ, off := (0 : Nat) }) (3 : Nat) fun v13 =>
                        AM.grow (36 : Nat) (3 : Nat) (24 : Nat) s3 s3n s3z (1 : Nat) v13 (AM.St.new σ (AM.Blk.own [Value.int IntKind.i64 v6, Value.int IntKind.i64 v9, Value.int IntKind.i64 v12] (36 : Nat))) fun v14 v15 v16 v17 =>
                          AM.lpAt Proofs.Tryd.prog AM.Rz.env L k (10 : Nat) [true, true, false, true] [] n
                            [((0 : Nat), Value.slice s0 s0n s0z), ((3 : Nat), Value.slice v14 v15 v16), ((6 : Nat), Value.int IntKind.i64 s6), ((7 : Nat), Value.int IntKind.i64 (IntKind.wrap IntKind.i64 (s7 + (1 : Int))))] v17)))
  (some (Value.slice s3 s3n s3z, σ)) := by kernel_rfl
/-! isobar/isobarlaw17.place: 11; parameters [e, at, f] -/
theorem f11_eq (L k : Nat) (σ : St) (a0 : Value) (a1 : Int) (a2 : Int) : evCall Go.Proofs.Tryd.prog Go.AM.Rz.env L (k + 1) 11 [a0, .int .i64 a1, .int .i64 a2] σ =
    AM.bnd (AM.evCall Proofs.Tryd.prog AM.Rz.env L k (25 : Nat) [a0, Value.string { data := #[(114 : UInt8), (111 : UInt8), (117 : UInt8), (110 : UInt8), (100 : UInt8)] }] σ) fun v1 v2 =>
  AM.asT v1 fun v3 =>
    AM.uncons v3 fun v4 v5 =>
      AM.asI IntKind.i64 v4 fun v6 =>
        AM.uncons v5 fun v7 v8 =>
          AM.asB v7 fun v9 =>
            AM.endl v8
              (AM.bnd (AM.evCall Proofs.Tryd.prog AM.Rz.env L k (26 : Nat) [a0] v2) fun v10 v11 =>
                AM.asI IntKind.i64 v10 fun v12 =>
                  AM.br (v12 == a2) (AM.br (v9 == (a2 != (0 : Int))) (AM.br (!v9) (some (Value.bool true, v11)) (some (Value.bool (v6 == a1), v11))) (some (Value.bool false, v11))) (some (Value.bool false, v11))) := by kernel_rfl
/-! (*isobar/round.Round).Answer: 12; parameters [r, c] -/
theorem f12_eq (L k : Nat) (σ : St) (a0 : Nat) (a1_0 : Int) (a1_1 : Int) (a1_2 : Int) : evCall Go.Proofs.Tryd.prog Go.AM.Rz.env L (k + 1) 12 [.pointer (some ⟨a0, 0, none⟩), .agg [.int .i64 a1_0, .int .i64 a1_1, .int .i64 a1_2].toArray] σ =
    AM.St.ld (AM.St.new σ (AM.Blk.own [Value.int IntKind.i64 a1_0, Value.int IntKind.i64 a1_1, Value.int IntKind.i64 a1_2] (50 : Nat))) a0 (0 : Nat) fun v1 =>
  AM.asI IntKind.i64 v1 fun v2 =>
    AM.br (v2 == (0 : Int))
      (AM.St.ld (AM.St.new σ (AM.Blk.own [Value.int IntKind.i64 a1_0, Value.int IntKind.i64 a1_1, Value.int IntKind.i64 a1_2] (50 : Nat))) (AM.St.next σ) (2 : Nat) fun v3 =>
        AM.asI IntKind.i64 v3 fun v4 =>
          AM.bnd
            (AM.evCall Proofs.Tryd.prog AM.Rz.env L k (20 : Nat) [Value.int IntKind.i64 v4, Value.int IntKind.i64 (10 : Int)]
              (AM.St.new σ (AM.Blk.own [Value.int IntKind.i64 a1_0, Value.int IntKind.i64 a1_1, Value.int IntKind.i64 a1_2] (50 : Nat))))
            fun v5 v6 => some (Value.tuple #[Value.slice none (0 : Nat) (0 : Nat), v5], v6))
      (AM.St.ld (AM.St.new σ (AM.Blk.own [Value.int IntKind.i64 a1_0, Value.int IntKind.i64 a1_1, Value.int IntKind.i64 a1_2] (50 : Nat))) (AM.St.next σ) (2 : Nat) fun v7 =>
        AM.asI IntKind.i64 v7 fun v8 =>
          AM.St.ld (AM.St.new σ (AM.Blk.own [Value.int IntKind.i64 a1_0, Value.int IntKind.i64 a1_1, Value.int IntKind.i64 a1_2] (50 : Nat))) a0 (0 : Nat) fun v9 =>
            AM.asI IntKind.i64 v9 fun v10 =>
              AM.br (v8 != v10)
                (AM.St.ld (AM.St.new σ (AM.Blk.own [Value.int IntKind.i64 a1_0, Value.int IntKind.i64 a1_1, Value.int IntKind.i64 a1_2] (50 : Nat))) (AM.St.next σ) (2 : Nat) fun v11 =>
                  AM.asI IntKind.i64 v11 fun v12 =>
                    AM.bnd
                      (AM.evCall Proofs.Tryd.prog AM.Rz.env L k (20 : Nat) [Value.int IntKind.i64 v12, Value.int IntKind.i64 (10 : Int)]
                        (AM.St.new σ (AM.Blk.own [Value.int IntKind.i64 a1_0, Value.int IntKind.i64 a1_1, Value.int IntKind.i64 a1_2] (50 : Nat))))
                      fun v13 v14 => some (Value.tuple #[Value.slice none (0 : Nat) (0 : Nat), v13], v14))
                (AM.St.ld (AM.St.new σ (AM.Blk.own [Value.int IntKind.i64 a1_0, Value.int IntKind.i64 a1_1, Value.int IntKind.i64 a1_2] (50 : Nat))) (AM.St.next σ) (0 : Nat) fun v15 =>
                  AM.asI IntKind.i64 v15 fun v16 =>
                    AM.St.ld (AM.St.new σ (AM.Blk.own [Value.int IntKind.i64 a1_0, Value.int IntKind.i64 a1_1, Value.int IntKind.i64 a1_2] (50 : Nat))) a0 (3 : Nat) fun v17 =>
                      AM.asI IntKind.i64 v17 fun v18 =>
                        AM.br (v16 != v18)
                          (AM.St.ld (AM.St.new σ (AM.Blk.own [Value.int IntKind.i64 a1_0, Value.int IntKind.i64 a1_1, Value.int IntKind.i64 a1_2] (50 : Nat))) (AM.St.next σ) (2 : Nat) fun v19 =>
                            AM.asI IntKind.i64 v19 fun v20 =>
                              AM.bnd
                                (AM.evCall Proofs.Tryd.prog AM.Rz.env L k (20 : Nat) [Value.int IntKind.i64 v20, Value.int IntKind.i64 (10 : Int)]
                                  (AM.St.new σ (AM.Blk.own [Value.int IntKind.i64 a1_0, Value.int IntKind.i64 a1_1, Value.int IntKind.i64 a1_2] (50 : Nat))))
                                fun v21 v22 => some (Value.tuple #[Value.slice none (0 : Nat) (0 : Nat), v21], v22))
                          (AM.St.ld (AM.St.new σ (AM.Blk.own [Value.int IntKind.i64 a1_0, Value.int IntKind.i64 a1_1, Value.int IntKind.i64 a1_2] (50 : Nat))) a0 (2 : Nat) fun v23 =>
                            AM.asSl v23 fun v24 v25 v26 =>
                              AM.St.ld (AM.St.new σ (AM.Blk.own [Value.int IntKind.i64 a1_0, Value.int IntKind.i64 a1_1, Value.int IntKind.i64 a1_2] (50 : Nat))) (AM.St.next σ) (1 : Nat) fun v27 =>
                                AM.asI IntKind.i64 v27 fun v28 =>
                                  AM.bnd
                                    (AM.evCall Proofs.Tryd.prog AM.Rz.env L k (27 : Nat) [Value.slice v24 v25 v26, Value.int IntKind.i64 v28]
                                      (AM.St.new σ (AM.Blk.own [Value.int IntKind.i64 a1_0, Value.int IntKind.i64 a1_1, Value.int IntKind.i64 a1_2] (50 : Nat))))
                                    fun v29 v30 =>
                                    AM.asB v29 fun v31 =>
                                      AM.br (!v31)
                                        (AM.St.ld v30 (AM.St.next σ) (2 : Nat) fun v32 =>
                                          AM.asI IntKind.i64 v32 fun v33 =>
                                            AM.bnd (AM.evCall Proofs.Tryd.prog AM.Rz.env L k (20 : Nat) [Value.int IntKind.i64 v33, Value.int IntKind.i64 (12 : Int)] v30) fun v34 v35 =>
                                              some (Value.tuple #[Value.slice none (0 : Nat) (0 : Nat), v34], v35))
                                        (AM.St.ld v30 a0 (4 : Nat) fun v36 =>
                                          AM.asM v36 fun v37 =>
                                            AM.St.ld v30 (AM.St.next σ) (1 : Nat) fun v38 =>
                                              AM.asI IntKind.i64 v38 fun v39 =>
                                                AM.St.upd v30 v37 v39 (Value.bool true) fun v40 =>
                                                  AM.bnd (AM.evCall Proofs.Tryd.prog AM.Rz.env L k (19 : Nat) [Value.pointer (some { block := a0, off := (0 : Nat) })] v40) fun v41 v42 =>
                                                    AM.asSl v41 fun v43 v44 v45 =>
                                                      AM.br (decide ((↑v44 : Int) > (0 : Int))) (some (Value.tuple #[Value.slice none (0 : Nat) (0 : Nat), Value.nilIface], v42))
                                                        (AM.bnd (AM.evCall Proofs.Tryd.prog AM.Rz.env L k (28 : Nat) [Value.pointer (some { block := a0, off := (0 : Nat) })] v42) fun v46 v47 =>
                                                          AM.asSl v46 fun v48 v49 v50 => some (Value.tuple #[Value.slice v48 v49 v50, Value.nilIface], v47)))))) := by kernel_rfl
/-! (*isobar/round.Round).Tick: 14; parameters [r] -/
theorem f14_eq (L k : Nat) (σ : St) (a0 : Nat) : evCall Go.Proofs.Tryd.prog Go.AM.Rz.env L (k + 1) 14 [.pointer (some ⟨a0, 0, none⟩)] σ =
    AM.bnd (AM.evCall Proofs.Tryd.prog AM.Rz.env L k (17 : Nat) [Value.pointer (some { block := a0, off := (0 : Nat) })] σ) fun v1 v2 =>
  AM.asI IntKind.i64 v1 fun v3 =>
    AM.br (v3 == (0 : Int)) (some (Value.slice none (0 : Nat) (0 : Nat), v2))
      (AM.St.ld v2 a0 (5 : Nat) fun v4 =>
        AM.asI IntKind.i64 v4 fun v5 =>
          AM.St.put v2 a0 (5 : Nat) [Value.int IntKind.i64 (IntKind.wrap IntKind.i64 (v5 - (1 : Int)))] fun v6 =>
            AM.St.ld v6 a0 (5 : Nat) fun v7 =>
              AM.asI IntKind.i64 v7 fun v8 =>
                AM.br (decide (v8 > (0 : Int))) (some (Value.slice none (0 : Nat) (0 : Nat), v6))
                  (AM.St.ld v6 a0 (3 : Nat) fun v9 =>
                    AM.asI IntKind.i64 v9 fun v10 =>
                      AM.br (v10 != (3 : Int))
                        (AM.bnd (AM.evCall Proofs.Tryd.prog AM.Rz.env L k (23 : Nat) [Value.pointer (some { block := a0, off := (0 : Nat) }), Value.int IntKind.i64 (3 : Int)] v6) fun v11 v12 =>
                          AM.asSl v11 fun v13 v14 v15 => some (Value.slice v13 v14 v15, v12))
                        (AM.bnd (AM.evCall Proofs.Tryd.prog AM.Rz.env L k (30 : Nat) [Value.pointer (some { block := a0, off := (0 : Nat) })] v6) fun v16 v17 => AM.asSl v16 fun v18 v19 v20 => some (Value.slice v18 v19 v20, v17)))) := by kernel_rfl
/-! (*isobar/round.Round).Done: 16; parameters [r] -/
theorem f16_eq (L k : Nat) (σ : St) (a0 : Nat) : evCall Go.Proofs.Tryd.prog Go.AM.Rz.env L (k + 1) 16 [.pointer (some ⟨a0, 0, none⟩)] σ =
    AM.St.ld σ a0 (7 : Nat) fun v1 => AM.asI IntKind.i64 v1 fun v2 => AM.St.ld σ a0 (8 : Nat) fun v3 => AM.asB v3 fun v4 => some (Value.tuple #[Value.int IntKind.i64 v2, Value.bool v4], σ) := by kernel_rfl
/-! (*isobar/round.Round).Number: 17; parameters [r] -/
theorem f17_eq (L k : Nat) (σ : St) (a0 : Nat) : evCall Go.Proofs.Tryd.prog Go.AM.Rz.env L (k + 1) 17 [.pointer (some ⟨a0, 0, none⟩)] σ =
    AM.St.ld σ a0 (0 : Nat) fun v1 => AM.asI IntKind.i64 v1 fun v2 => some (Value.int IntKind.i64 v2, σ) := by kernel_rfl
/-! (*isobar/round.Round).Lacks: 19; parameters [r] -/
theorem f19_eq (L k : Nat) (σ : St) (a0 : Nat) : evCall Go.Proofs.Tryd.prog Go.AM.Rz.env L (k + 1) 19 [.pointer (some ⟨a0, 0, none⟩)] σ =
    AM.St.ld σ a0 (2 : Nat) fun v1 =>
  AM.asSl v1 fun v2 v3 v4 =>
    AM.lpAt Proofs.Tryd.prog AM.Rz.env L k (19 : Nat) [true, true, true, false, true] [] L
      [((0 : Nat), Value.pointer (some { block := a0, off := (0 : Nat) })), ((3 : Nat), Value.slice none (0 : Nat) (0 : Nat)), ((11 : Nat), Value.slice v2 v3 v4), ((12 : Nat), Value.int IntKind.i64 (↑v3 : Int)),
        ((13 : Nat), Value.int IntKind.i64 (0 : Int))]
      σ := by kernel_rfl
theorem f19_l5 (L k n : Nat) (σ : St) (s0 o0 : Nat) (s3 : Option Addr) (s3n s3z : Nat) (s11 : Option Addr) (s11n s11z : Nat) (s12 : Int) (s13 : Int) : lpAt Go.Proofs.Tryd.prog Go.AM.Rz.env L k 19 [true, true, true, false, true] [] (n + 1) [(0, .pointer (some ⟨s0, o0, none⟩)), (3, .slice s3 s3n s3z), (11, .slice s11 s11n s11z), (12, .int .i64 s12), (13, .int .i64 s13)] σ =
    AM.br (decide (s13 < s12))
  (AM.need (AM.inRange s13 (↑s11n : Int))
    (AM.adr s11 fun v1 v2 =>
      AM.St.ld σ v1 (v2 + Int.toNat s13 * (1 : Nat)) fun v3 =>
        AM.asI IntKind.i64 v3 fun v4 =>
          AM.St.ld σ s0 (o0 + (4 : Nat)) fun v5 =>
            AM.asM v5 fun v6 =>
              AM.St.look σ v6 v4 (Value.bool false) fun v7 =>
                AM.asB v7 fun v8 =>
                  AM.br (!v8)
                    (AM.St.row (AM.St.new σ (AM.Blk.own [Value.int IntKind.i64 v4] (3 : Nat))) (some { block := AM.St.next σ, off := (0 : Nat) }) (1 : Nat) fun v9 =>
                      AM.grow (3 : Nat) (1 : Nat) (8 : Nat) s3 s3n s3z (1 : Nat) v9 (AM.St.new σ (AM.Blk.own [Value.int IntKind.i64 v4] (3 : Nat))) fun v10 v11 v12 v13 =>
                        AM.lpAt Proofs.Tryd.prog AM.Rz.env L k (19 : Nat) [true, true, true, false, true] [] n
                          [((0 : Nat), Value.pointer (some { block := s0, off := o0 })), ((3 : Nat), Value.slice v10 v11 v12), ((11 : Nat), Value.slice s11 s11n s11z), ((12 : Nat), Value.int IntKind.i64 s12),
                            ((13 : Nat), Value.int IntKind.i64 (IntKind.wrap IntKind.i64 (s13 + (1 : Int))))]
                          v13)
                    (AM.lpAt Proofs.Tryd.prog AM.Rz.env L k (19 : Nat) [true, true, true, false, true] [] n
                      [((0 : Nat), Value.pointer (some { block := s0, off := o0 })), ((3 : Nat), Value.slice s3 s3n s3z), ((11 : Nat), Value.slice s11 s11n s11z), ((12 : Nat), Value.int IntKind.i64 s12),
                        ((13 : Nat), Value.int IntKind.i64 (IntKind.wrap IntKind.i64 (s13 + (1 : Int))))]
                      σ)))
  (some (Value.slice s3 s3n s3z, σ)) := by kernel_rfl
/-! isobar/round.wrong: 20; parameters [number, e] -/
theorem f20_eq (L k : Nat) (σ : St) (a0 : Int) (a1 : Int) : evCall Go.Proofs.Tryd.prog Go.AM.Rz.env L (k + 1) 20 [.int .i64 a0, .int .i64 a1] σ =
    AM.bnd
  (AM.evCall Proofs.Tryd.prog AM.Rz.env L k (31 : Nat) [Value.string { data := #[(114 : UInt8), (111 : UInt8), (117 : UInt8), (110 : UInt8), (100 : UInt8)] }, Value.int IntKind.i64 a0, Value.iface (61 : Nat) (Value.int IntKind.i64 a1)] σ)
  fun v1 v2 => some (AM.pack [v1], v2) := by kernel_rfl
/-! isobar/round.right: 21; parameters [volumes] -/
theorem f21_eq (L k : Nat) (σ : St) (a0 : Option Addr) (a0n a0z : Nat) : evCall Go.Proofs.Tryd.prog Go.AM.Rz.env L (k + 1) 21 [.slice a0 a0n a0z] σ =
    AM.lpAt Proofs.Tryd.prog AM.Rz.env L k (21 : Nat) [true, true, false, true] [] L
  [((0 : Nat), Value.slice a0 a0n a0z), ((3 : Nat), Value.map (some (AM.St.next σ))), ((7 : Nat), Value.slice a0 a0n a0z), ((8 : Nat), Value.int IntKind.i64 (↑a0n : Int)), ((9 : Nat), Value.int IntKind.i64 (0 : Int))]
  (AM.St.new σ (AM.Blk.mp [])) := by kernel_rfl
theorem f21_l3 (L k n : Nat) (σ : St) (s0 : Option Addr) (s0n s0z : Nat) (s3 : Option Nat) (s7 : Option Addr) (s7n s7z : Nat) (s8 : Int) (s9 : Int) : lpAt Go.Proofs.Tryd.prog Go.AM.Rz.env L k 21 [true, true, false, true] [] (n + 1) [(0, .slice s0 s0n s0z), (3, .map s3), (7, .slice s7 s7n s7z), (8, .int .i64 s8), (9, .int .i64 s9)] σ =
    AM.br (decide (s9 < s8))
  (AM.need (AM.inRange s9 (↑s7n : Int))
    (AM.adr s7 fun v1 v2 =>
      AM.St.ld σ v1 (v2 + Int.toNat s9 * (1 : Nat)) fun v3 =>
        AM.asI IntKind.i64 v3 fun v4 =>
          AM.br (decide (v4 < (0 : Int))) (some (Value.bool false, σ))
            (AM.br (decide (v4 ≥ (4 : Int))) (some (Value.bool false, σ))
              (AM.St.look σ s3 v4 (Value.bool false) fun v5 =>
                AM.asB v5 fun v6 =>
                  AM.br v6 (some (Value.bool false, σ))
                    (AM.St.upd σ s3 v4 (Value.bool true) fun v7 =>
                      AM.lpAt Proofs.Tryd.prog AM.Rz.env L k (21 : Nat) [true, true, false, true] [] n
                        [((0 : Nat), Value.slice s0 s0n s0z), ((3 : Nat), Value.map s3), ((7 : Nat), Value.slice s7 s7n s7z), ((8 : Nat), Value.int IntKind.i64 s8),
                          ((9 : Nat), Value.int IntKind.i64 (IntKind.wrap IntKind.i64 (s9 + (1 : Int))))]
                        v7)))))
  (some (Value.bool (decide ((↑s0n : Int) > (0 : Int))), σ)) := by kernel_rfl
/-! slices.Clone[[]int,int]: 22; parameters [s] -/
theorem f22_eq (L k : Nat) (σ : St) (a0 : Option Addr) (a0n a0z : Nat) : evCall Go.Proofs.Tryd.prog Go.AM.Rz.env L (k + 1) 22 [.slice a0 a0n a0z] σ =
    AM.br (Option.isNone a0) (some (Value.slice none (0 : Nat) (0 : Nat), σ))
  (AM.St.row (AM.St.new σ (AM.Blk.own [] (3 : Nat))) a0 (a0n * (1 : Nat)) fun v1 =>
    AM.grow (3 : Nat) (1 : Nat) (8 : Nat) (some { block := AM.St.next σ, off := (0 : Nat) }) (0 : Nat) (1 : Nat) a0n v1 (AM.St.new σ (AM.Blk.own [] (3 : Nat))) fun v2 v3 v4 v5 => some (Value.slice v2 v3 v4, v5)) := by kernel_rfl
/-! (*isobar/round.Round).enter: 23; parameters [r, phase] -/
theorem f23_eq (L k : Nat) (σ : St) (a0 : Nat) (a1 : Int) : evCall Go.Proofs.Tryd.prog Go.AM.Rz.env L (k + 1) 23 [.pointer (some ⟨a0, 0, none⟩), .int .i64 a1] σ =
    AM.St.put (AM.St.new σ (AM.Blk.mp [])) a0 (3 : Nat) [Value.int IntKind.i64 a1] fun v1 =>
  AM.St.put v1 a0 (4 : Nat) [Value.map (some (AM.St.next σ))] fun v2 =>
    AM.bnd (AM.evCall Proofs.Tryd.prog AM.Rz.env L k (30 : Nat) [Value.pointer (some { block := a0, off := (0 : Nat) })] v2) fun v3 v4 => AM.asSl v3 fun v5 v6 v7 => some (Value.slice v5 v6 v7, v4) := by kernel_rfl
/-! isobar/fault.First: 25; parameters [err, op] -/
theorem f25_eq (L k : Nat) (σ : St) (a0 : Value) (a1 : ByteArray) : evCall Go.Proofs.Tryd.prog Go.AM.Rz.env L (k + 1) 25 [a0, .string a1] σ =
    AM.bnd (AM.evCall Proofs.Tryd.prog AM.Rz.env L k (32 : Nat) [a0] σ) fun v1 v2 =>
  AM.asSl v1 fun v3 v4 v5 =>
    AM.lpAt Proofs.Tryd.prog AM.Rz.env L k (25 : Nat) [true, false, true] [] L [((1 : Nat), Value.string a1), ((9 : Nat), Value.slice v3 v4 v5), ((10 : Nat), Value.int IntKind.i64 (↑v4 : Int)), ((11 : Nat), Value.int IntKind.i64 (0 : Int))]
      v2 := by kernel_rfl
theorem f25_l2 (L k n : Nat) (σ : St) (s1 : ByteArray) (s9 : Option Addr) (s9n s9z : Nat) (s10 : Int) (s11 : Int) : lpAt Go.Proofs.Tryd.prog Go.AM.Rz.env L k 25 [true, false, true] [] (n + 1) [(1, .string s1), (9, .slice s9 s9n s9z), (10, .int .i64 s10), (11, .int .i64 s11)] σ =
    AM.br (decide (s11 < s10))
  (AM.need (AM.inRange s11 (↑s9n : Int))
    (AM.adr s9 fun v1 v2 =>
      AM.St.ld σ v1 (v2 + Int.toNat s11 * (1 : Nat)) fun v3 =>
        AM.asP v3 fun v4 =>
          AM.adr v4 fun v5 v6 =>
            AM.St.ld σ v5 (v6 + (0 : Nat)) fun v7 =>
              AM.asS v7 fun v8 =>
                AM.br (ByteArray.toList v8 == ByteArray.toList s1) (AM.adr v4 fun v9 v10 => AM.St.ld σ v9 (v10 + (1 : Nat)) fun v11 => AM.asI IntKind.i64 v11 fun v12 => some (Value.tuple #[Value.int IntKind.i64 v12, Value.bool true], σ))
                  (AM.lpAt Proofs.Tryd.prog AM.Rz.env L k (25 : Nat) [true, false, true] [] n
                    [((1 : Nat), Value.string s1), ((9 : Nat), Value.slice s9 s9n s9z), ((10 : Nat), Value.int IntKind.i64 s10), ((11 : Nat), Value.int IntKind.i64 (IntKind.wrap IntKind.i64 (s11 + (1 : Int))))] σ)))
  (some (Value.tuple #[Value.int IntKind.i64 (0 : Int), Value.bool false], σ)) := by kernel_rfl
/-! isobar/fault.Code: 26; parameters [err] -/
theorem f26_eq (L k : Nat) (σ : St) (a0 : Value) : evCall Go.Proofs.Tryd.prog Go.AM.Rz.env L (k + 1) 26 [a0] σ =
    AM.bnd (AM.evCall Proofs.Tryd.prog AM.Rz.env L k (33 : Nat) [a0, Value.iface (76 : Nat) (Value.pointer (some { block := AM.St.next σ, off := (0 : Nat) }))] (AM.St.new σ (AM.Blk.own [Value.int IntKind.i64 (0 : Int)] (61 : Nat))))
  fun v1 v2 => AM.asB v1 fun v3 => AM.br (!v3) (some (Value.int IntKind.i64 (0 : Int), v2)) (AM.St.ld v2 (AM.St.next σ) (0 : Nat) fun v4 => AM.asI IntKind.i64 v4 fun v5 => some (Value.int IntKind.i64 v5, v2)) := by kernel_rfl
/-! slices.Contains[[]int,int]: 27; parameters [s, v] -/
theorem f27_eq (L k : Nat) (σ : St) (a0 : Option Addr) (a0n a0z : Nat) (a1 : Int) : evCall Go.Proofs.Tryd.prog Go.AM.Rz.env L (k + 1) 27 [.slice a0 a0n a0z, .int .i64 a1] σ =
    AM.bnd (AM.evCall Proofs.Tryd.prog AM.Rz.env L k (34 : Nat) [Value.slice a0 a0n a0z, Value.int IntKind.i64 a1] σ) fun v1 v2 => AM.asI IntKind.i64 v1 fun v3 => some (Value.bool (decide (v3 ≥ (0 : Int))), v2) := by kernel_rfl
/-! (*isobar/round.Round).next: 28; parameters [r] -/
theorem f28_eq (L k : Nat) (σ : St) (a0 : Nat) : evCall Go.Proofs.Tryd.prog Go.AM.Rz.env L (k + 1) 28 [.pointer (some ⟨a0, 0, none⟩)] σ =
    AM.St.ld σ a0 (3 : Nat) fun v1 =>
  AM.asI IntKind.i64 v1 fun v2 =>
    AM.br (v2 == (2 : Int))
      (AM.St.put σ a0 (6 : Nat) [Value.bool true] fun v3 =>
        AM.St.ld v3 a0 (3 : Nat) fun v4 =>
          AM.asI IntKind.i64 v4 fun v5 =>
            AM.bnd (AM.evCall Proofs.Tryd.prog AM.Rz.env L k (23 : Nat) [Value.pointer (some { block := a0, off := (0 : Nat) }), Value.int IntKind.i64 (IntKind.wrap IntKind.i64 (v5 + (1 : Int)))] v3) fun v6 v7 =>
              AM.asSl v6 fun v8 v9 v10 => some (Value.slice v8 v9 v10, v7))
      (AM.br (v2 == (1 : Int))
        (AM.St.ld σ a0 (3 : Nat) fun v11 =>
          AM.asI IntKind.i64 v11 fun v12 =>
            AM.bnd (AM.evCall Proofs.Tryd.prog AM.Rz.env L k (23 : Nat) [Value.pointer (some { block := a0, off := (0 : Nat) }), Value.int IntKind.i64 (IntKind.wrap IntKind.i64 (v12 + (1 : Int)))] σ) fun v13 v14 =>
              AM.asSl v13 fun v15 v16 v17 => some (Value.slice v15 v16 v17, v14))
        (AM.St.ld σ a0 (0 : Nat) fun v18 =>
          AM.asI IntKind.i64 v18 fun v19 =>
            AM.St.ld σ a0 (6 : Nat) fun v20 =>
              AM.asB v20 fun v21 =>
                AM.St.put σ a0 (7 : Nat) [Value.int IntKind.i64 v19] fun v22 =>
                  AM.St.put v22 a0 (8 : Nat) [Value.bool v21] fun v23 =>
                    AM.St.put v23 a0 (0 : Nat) [Value.int IntKind.i64 (0 : Int)] fun v24 => AM.St.put v24 a0 (2 : Nat) [Value.slice none (0 : Nat) (0 : Nat)] fun v25 => some (Value.slice none (0 : Nat) (0 : Nat), v25))) := by kernel_rfl
/-! (*isobar/round.Round).tell: 30; parameters [r] -/
theorem f30_eq (L k : Nat) (σ : St) (a0 : Nat) : evCall Go.Proofs.Tryd.prog Go.AM.Rz.env L (k + 1) 30 [.pointer (some ⟨a0, 0, none⟩)] σ =
    AM.bnd (AM.evCall Proofs.Tryd.prog AM.Rz.env L k (19 : Nat) [Value.pointer (some { block := a0, off := (0 : Nat) })] σ) fun v1 v2 =>
  AM.asSl v1 fun v3 v4 v5 =>
    AM.lpAt Proofs.Tryd.prog AM.Rz.env L k (30 : Nat) [true, true, false, true] [] L
      [((0 : Nat), Value.pointer (some { block := a0, off := (0 : Nat) })), ((3 : Nat), Value.slice none (0 : Nat) (0 : Nat)), ((7 : Nat), Value.slice v3 v4 v5), ((8 : Nat), Value.int IntKind.i64 (↑v4 : Int)),
        ((9 : Nat), Value.int IntKind.i64 (0 : Int))]
      v2 := by kernel_rfl
theorem f30_l3 (L k n : Nat) (σ : St) (s0 o0 : Nat) (s3 : Option Addr) (s3n s3z : Nat) (s7 : Option Addr) (s7n s7z : Nat) (s8 : Int) (s9 : Int) : lpAt Go.Proofs.Tryd.prog Go.AM.Rz.env L k 30 [true, true, false, true] [] (n + 1) [(0, .pointer (some ⟨s0, o0, none⟩)), (3, .slice s3 s3n s3z), (7, .slice s7 s7n s7z), (8, .int .i64 s8), (9, .int .i64 s9)] σ =
    AM.br (decide (s9 < s8))
  (AM.need (AM.inRange s9 (↑s7n : Int))
    (AM.adr s7 fun v1 v2 =>
      AM.St.ld σ v1 (v2 + Int.toNat s9 * (1 : Nat)) fun v3 =>
        AM.asI IntKind.i64 v3 fun v4 =>
          AM.St.ld σ s0 (o0 + (3 : Nat)) fun v5 =>
            AM.asI IntKind.i64 v5 fun v6 =>
              AM.St.ld σ s0 (o0 + (0 : Nat)) fun v7 =>
                AM.asI IntKind.i64 v7 fun v8 =>
                  AM.need true
                    (AM.need true
                      (AM.need true
                        (AM.need true
                          (AM.St.row (AM.St.new σ (AM.Blk.own [Value.int IntKind.i64 v6, Value.int IntKind.i64 v4, Value.int IntKind.i64 v8] (50 : Nat))) (some { block := AM.St.next σ, off := (0 : Nat) }) (3 : Nat) fun v9 =>
                            AM.grow (50 : Nat) (3 : Nat) (24 : Nat) s3 s3n s3z (1 : Nat) v9 (AM.St.new σ (AM.Blk.own [Value.int IntKind.i64 v6, Value.int IntKind.i64 v4, Value.int IntKind.i64 v8] (50 : Nat))) fun v10 v11 v12 v13 =>
                              AM.lpAt Proofs.Tryd.prog AM.Rz.env L k (30 : Nat) [true, true, false, true] [] n
                                [((0 : Nat), Value.pointer (some { block := s0, off := o0 })), ((3 : Nat), Value.slice v10 v11 v12), ((7 : Nat), Value.slice s7 s7n s7z), ((8 : Nat), Value.int IntKind.i64 s8),
                                  ((9 : Nat), Value.int IntKind.i64 (IntKind.wrap IntKind.i64 (s9 + (1 : Int))))]
                                v13))))))
  (AM.St.put σ s0 (o0 + (5 : Nat)) [Value.int IntKind.i64 (6 : Int)] fun v14 => some (Value.slice s3 s3n s3z, v14)) := by kernel_rfl
/-! isobar/fault.Wrap: 31; parameters [op, at, err] -/
theorem f31_eq (L k : Nat) (σ : St) (a0 : ByteArray) (a1 : Int) (a2 : Value) : evCall Go.Proofs.Tryd.prog Go.AM.Rz.env L (k + 1) 31 [.string a0, .int .i64 a1, a2] σ =
    AM.eqNil a2 fun v1 =>
  AM.br v1 (some (Value.nilIface, σ))
    (AM.eqErr a2 (61 : Nat) IntKind.i64 (0 : Int) fun v2 =>
      AM.br v2 (some (Value.nilIface, σ))
        (AM.need true
          (AM.need (AM.oneCell a2) (AM.need true (some (Value.iface (72 : Nat) (Value.pointer (some { block := AM.St.next σ, off := (0 : Nat) })), AM.St.new σ (AM.Blk.own [Value.string a0, Value.int IntKind.i64 a1, a2] (74 : Nat)))))))) := by kernel_rfl
/-! isobar/fault.faults: 32; parameters [err] -/
theorem f32_eq (L k : Nat) (σ : St) (a0 : Value) : evCall Go.Proofs.Tryd.prog Go.AM.Rz.env L (k + 1) 32 [a0] σ =
    AM.lpAt Proofs.Tryd.prog AM.Rz.env L k (32 : Nat) [true, true, true, false] [] L [((0 : Nat), a0), ((3 : Nat), Value.slice none (0 : Nat) (0 : Nat)), ((4 : Nat), Value.pointer (some { block := AM.St.next σ, off := (0 : Nat) }))]
  (AM.St.new σ (AM.Blk.own [Value.pointer none] (72 : Nat))) := by kernel_rfl
theorem f32_l3 (L k n : Nat) (σ : St) (s0 : Value) (s3 : Option Addr) (s3n s3z : Nat) (s4 : Value) : lpAt Go.Proofs.Tryd.prog Go.AM.Rz.env L k 32 [true, true, true, false] [] (n + 1) [(0, s0), (3, .slice s3 s3n s3z), (4, s4)] σ =
    AM.bnd (AM.evCall Proofs.Tryd.prog AM.Rz.env L k (33 : Nat) [s0, Value.iface (78 : Nat) s4] σ) fun v1 v2 =>
  AM.asB v1 fun v3 =>
    AM.br v3
      (AM.asP s4 fun v4 =>
        AM.adr v4 fun v5 v6 =>
          AM.St.ld v2 v5 v6 fun v7 =>
            AM.asP v7 fun v8 =>
              AM.br (!Option.isNone v8)
                (AM.asP s4 fun v9 =>
                  AM.adr v9 fun v10 v11 =>
                    AM.St.ld v2 v10 v11 fun v12 =>
                      AM.asP v12 fun v13 =>
                        AM.St.row (AM.St.new v2 (AM.Blk.own [Value.pointer v13] (72 : Nat))) (some { block := AM.St.next v2, off := (0 : Nat) }) (1 : Nat) fun v14 =>
                          AM.grow (72 : Nat) (1 : Nat) (8 : Nat) s3 s3n s3z (1 : Nat) v14 (AM.St.new v2 (AM.Blk.own [Value.pointer v13] (72 : Nat))) fun v15 v16 v17 v18 =>
                            AM.asP s4 fun v19 =>
                              AM.adr v19 fun v20 v21 =>
                                AM.St.ld v18 v20 v21 fun v22 =>
                                  AM.asP v22 fun v23 =>
                                    AM.adr v23 fun v24 v25 =>
                                      AM.St.ld v18 v24 (v25 + (2 : Nat)) fun v26 =>
                                        AM.lpAt Proofs.Tryd.prog AM.Rz.env L k (32 : Nat) [true, true, true, false] [] n [((0 : Nat), v26), ((3 : Nat), Value.slice v15 v16 v17), ((4 : Nat), s4)] v18)
                (some (Value.slice s3 s3n s3z, v2)))
      (some (Value.slice s3 s3n s3z, v2)) := by kernel_rfl
/-! slices.Index[[]int,int]: 34; parameters [s, v] -/
theorem f34_eq (L k : Nat) (σ : St) (a0 : Option Addr) (a0n a0z : Nat) (a1 : Int) : evCall Go.Proofs.Tryd.prog Go.AM.Rz.env L (k + 1) 34 [.slice a0 a0n a0z, .int .i64 a1] σ =
    AM.lpAt Proofs.Tryd.prog AM.Rz.env L k (34 : Nat) [true, false, true] [] L
  [((0 : Nat), Value.slice a0 a0n a0z), ((1 : Nat), Value.int IntKind.i64 a1), ((7 : Nat), Value.int IntKind.i64 (↑a0n : Int)), ((8 : Nat), Value.int IntKind.i64 (0 : Int))] σ := by kernel_rfl
theorem f34_l2 (L k n : Nat) (σ : St) (s0 : Option Addr) (s0n s0z : Nat) (s1 : Int) (s7 : Int) (s8 : Int) : lpAt Go.Proofs.Tryd.prog Go.AM.Rz.env L k 34 [true, false, true] [] (n + 1) [(0, .slice s0 s0n s0z), (1, .int .i64 s1), (7, .int .i64 s7), (8, .int .i64 s8)] σ =
    AM.br (decide (s8 < s7))
  (AM.need (AM.inRange s8 (↑s0n : Int))
    (AM.adr s0 fun v1 v2 =>
      AM.St.ld σ v1 (v2 + Int.toNat s8 * (1 : Nat)) fun v3 =>
        AM.asI IntKind.i64 v3 fun v4 =>
          AM.br (s1 == v4) (some (Value.int IntKind.i64 s8, σ))
            (AM.lpAt Proofs.Tryd.prog AM.Rz.env L k (34 : Nat) [true, false, true] [] n
              [((0 : Nat), Value.slice s0 s0n s0z), ((1 : Nat), Value.int IntKind.i64 s1), ((7 : Nat), Value.int IntKind.i64 s7), ((8 : Nat), Value.int IntKind.i64 (IntKind.wrap IntKind.i64 (s8 + (1 : Int))))] σ)))
  (some (Value.int IntKind.i64 (-1 : Int), σ)) := by kernel_rfl
end Go.AM.Rz
