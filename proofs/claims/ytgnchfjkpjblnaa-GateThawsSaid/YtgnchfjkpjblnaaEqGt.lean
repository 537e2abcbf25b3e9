/-
  WHAT EACH FUNCTION DOES, word by word (printed).
-/
import Derived.Test.YtgnchfjkpjblnaaAm0
import Derived.Test.YtgnchfjkpjblnaaEnvGt
set_option linter.unusedVariables false
set_option linter.unusedSimpArgs false
namespace Go.AM.Gt
open Go.Proofs
/-! isobar/isobarlaw08.GateThaws: 3; parameters [l, round, ticks, calls] -/
theorem f3_eq (L k : Nat) (σ : St) (a0 : Option Addr) (a0n a0z : Nat) (a1 : Int) (a2 : Int) (a3 : Option Addr) (a3n a3z : Nat) : evCall Go.Proofs.Try.prog Go.AM.Gt.env L (k + 1) 3 [.slice a0 a0n a0z, .int .u16 a1, .int .u8 a2, .slice a3 a3n a3z] σ =
    AM.bnd (AM.evCall Proofs.Try.prog AM.Gt.env L k (6 : Nat) [] σ) fun v1 v2 =>
  AM.asB v1 fun v3 =>
    AM.br (!v3) (AM.bnd (AM.evCall Proofs.Try.prog AM.Gt.env L k (6 : Nat) [] v2) fun v4 v5 => AM.asB v4 fun v6 => some (Value.bool v6, v5))
      (AM.bnd (AM.evCall Proofs.Try.prog AM.Gt.env L k (7 : Nat) [Value.slice a0 a0n a0z] v2) fun v7 v8 =>
        AM.asB v7 fun v9 =>
          AM.br (!v9) (AM.bnd (AM.evCall Proofs.Try.prog AM.Gt.env L k (6 : Nat) [] v8) fun v10 v11 => AM.asB v10 fun v12 => some (Value.bool v12, v11))
            (AM.br (decide ((↑a3n : Int) > (40 : Int))) (AM.bnd (AM.evCall Proofs.Try.prog AM.Gt.env L k (6 : Nat) [] v8) fun v13 v14 => AM.asB v13 fun v15 => some (Value.bool v15, v14))
              (AM.bnd (AM.evCall Proofs.Try.prog AM.Gt.env L k (8 : Nat) [] v8) fun v16 v17 =>
                AM.asP v16 fun v18 =>
                  AM.lpAt Proofs.Try.prog AM.Gt.env L k (3 : Nat) [true, true, true, true, false, true] [] L
                    [((0 : Nat), Value.slice a0 a0n a0z), ((1 : Nat), Value.int IntKind.u16 a1), ((2 : Nat), Value.int IntKind.u8 a2), ((3 : Nat), Value.slice a3 a3n a3z), ((9 : Nat), Value.pointer v18),
                      ((10 : Nat), Value.int IntKind.i64 (0 : Int)), ((29 : Nat), Value.int IntKind.i64 (↑a0n : Int)), ((30 : Nat), Value.int IntKind.i64 (0 : Int))]
                    v17))) := by kernel_rfl
theorem f3_l6 (L k n : Nat) (σ : St) (s0 : Option Addr) (s0n s0z : Nat) (s1 : Int) (s2 : Int) (s3 : Option Addr) (s3n s3z : Nat) (s9 o9 : Nat) (s10 : Int) (s29 : Int) (s30 : Int) : lpAt Go.Proofs.Try.prog Go.AM.Gt.env L k 3 [true, true, true, true, false, true] [] (n + 1) [(0, .slice s0 s0n s0z), (1, .int .u16 s1), (2, .int .u8 s2), (3, .slice s3 s3n s3z), (9, .pointer (some ⟨s9, o9, none⟩)), (10, .int .i64 s10), (29, .int .i64 s29), (30, .int .i64 s30)] σ =
    AM.br (decide (s30 < s29))
  (AM.need (AM.inRange s30 (↑s0n : Int))
    (AM.adr s0 fun v1 v2 =>
      AM.St.ld σ v1 (v2 + Int.toNat s30 * (6 : Nat) + (0 : Nat)) fun v3 =>
        AM.asI IntKind.i64 v3 fun v4 =>
          AM.br (v4 == (1 : Int))
            (AM.need (AM.inRange s30 (↑s0n : Int))
              (AM.adr s0 fun v5 v6 =>
                AM.St.ld σ v5 (v6 + Int.toNat s30 * (6 : Nat) + (1 : Nat)) fun v7 =>
                  AM.asI IntKind.i64 v7 fun v8 =>
                    AM.need (AM.inRange s30 (↑s0n : Int))
                      (AM.adr s0 fun v9 v10 =>
                        AM.St.ld σ v9 (v10 + Int.toNat s30 * (6 : Nat) + (2 : Nat)) fun v11 =>
                          AM.asI IntKind.i64 v11 fun v12 =>
                            AM.bnd (AM.evCall Proofs.Try.prog AM.Gt.env L k (9 : Nat) [Value.pointer (some { block := s9, off := o9 }), Value.int IntKind.i64 v8, Value.int IntKind.i64 v12] σ) fun v13 v14 =>
                              AM.eqNil v13 fun v15 =>
                                AM.br v15
                                  (AM.need (AM.inRange s30 (↑s0n : Int))
                                    (AM.adr s0 fun v16 v17 =>
                                      AM.St.ld v14 v16 (v17 + Int.toNat s30 * (6 : Nat) + (1 : Nat)) fun v18 =>
                                        AM.asI IntKind.i64 v18 fun v19 =>
                                          AM.br (decide (v19 < s10)) (some (Value.bool false, v14))
                                            (AM.need (AM.inRange s30 (↑s0n : Int))
                                              (AM.adr s0 fun v20 v21 =>
                                                AM.St.ld v14 v20 (v21 + Int.toNat s30 * (6 : Nat) + (1 : Nat)) fun v22 =>
                                                  AM.asI IntKind.i64 v22 fun v23 =>
                                                    AM.need (AM.inRange s30 (↑s0n : Int))
                                                      (AM.adr s0 fun v24 v25 =>
                                                        AM.St.ld v14 v24 (v25 + Int.toNat s30 * (6 : Nat) + (0 : Nat)) fun v26 =>
                                                          AM.asI IntKind.i64 v26 fun v27 =>
                                                            AM.br (v27 == (4 : Int))
                                                              (AM.bnd (AM.evCall Proofs.Try.prog AM.Gt.env L k (10 : Nat) [Value.pointer (some { block := s9, off := o9 })] v14) fun v28 v29 =>
                                                                AM.asSl v28 fun v30 v31 v32 =>
                                                                  AM.lpAt Proofs.Try.prog AM.Gt.env L k (3 : Nat) [true, true, true, true, false, true] [] n
                                                                    [((0 : Nat), Value.slice s0 s0n s0z), ((1 : Nat), Value.int IntKind.u16 s1), ((2 : Nat), Value.int IntKind.u8 s2), ((3 : Nat), Value.slice s3 s3n s3z),
                                                                      ((9 : Nat), Value.pointer (some { block := s9, off := o9 })), ((10 : Nat), Value.int IntKind.i64 v23), ((29 : Nat), Value.int IntKind.i64 s29),
                                                                      ((30 : Nat), Value.int IntKind.i64 (IntKind.wrap IntKind.i64 (s30 + (1 : Int))))]
                                                                    v29)
                                                              (AM.lpAt Proofs.Try.prog AM.Gt.env L k (3 : Nat) [true, true, true, true, false, true] [] n
                                                                [((0 : Nat), Value.slice s0 s0n s0z), ((1 : Nat), Value.int IntKind.u16 s1), ((2 : Nat), Value.int IntKind.u8 s2), ((3 : Nat), Value.slice s3 s3n s3z),
                                                                  ((9 : Nat), Value.pointer (some { block := s9, off := o9 })), ((10 : Nat), Value.int IntKind.i64 v23), ((29 : Nat), Value.int IntKind.i64 s29),
                                                                  ((30 : Nat), Value.int IntKind.i64 (IntKind.wrap IntKind.i64 (s30 + (1 : Int))))]
                                                                v14))))))
                                  (AM.need (AM.inRange s30 (↑s0n : Int))
                                    (AM.adr s0 fun v33 v34 =>
                                      AM.St.ld v14 v33 (v34 + Int.toNat s30 * (6 : Nat) + (0 : Nat)) fun v35 =>
                                        AM.asI IntKind.i64 v35 fun v36 =>
                                          AM.br (v36 == (4 : Int))
                                            (AM.bnd (AM.evCall Proofs.Try.prog AM.Gt.env L k (10 : Nat) [Value.pointer (some { block := s9, off := o9 })] v14) fun v37 v38 =>
                                              AM.asSl v37 fun v39 v40 v41 =>
                                                AM.lpAt Proofs.Try.prog AM.Gt.env L k (3 : Nat) [true, true, true, true, false, true] [] n
                                                  [((0 : Nat), Value.slice s0 s0n s0z), ((1 : Nat), Value.int IntKind.u16 s1), ((2 : Nat), Value.int IntKind.u8 s2), ((3 : Nat), Value.slice s3 s3n s3z),
                                                    ((9 : Nat), Value.pointer (some { block := s9, off := o9 })), ((10 : Nat), Value.int IntKind.i64 s10), ((29 : Nat), Value.int IntKind.i64 s29),
                                                    ((30 : Nat), Value.int IntKind.i64 (IntKind.wrap IntKind.i64 (s30 + (1 : Int))))]
                                                  v38)
                                            (AM.lpAt Proofs.Try.prog AM.Gt.env L k (3 : Nat) [true, true, true, true, false, true] [] n
                                              [((0 : Nat), Value.slice s0 s0n s0z), ((1 : Nat), Value.int IntKind.u16 s1), ((2 : Nat), Value.int IntKind.u8 s2), ((3 : Nat), Value.slice s3 s3n s3z),
                                                ((9 : Nat), Value.pointer (some { block := s9, off := o9 })), ((10 : Nat), Value.int IntKind.i64 s10), ((29 : Nat), Value.int IntKind.i64 s29),
                                                ((30 : Nat), Value.int IntKind.i64 (IntKind.wrap IntKind.i64 (s30 + (1 : Int))))]
                                              v14))))))
            (AM.need (AM.inRange s30 (↑s0n : Int))
              (AM.adr s0 fun v42 v43 =>
                AM.St.ld σ v42 (v43 + Int.toNat s30 * (6 : Nat) + (0 : Nat)) fun v44 =>
                  AM.asI IntKind.i64 v44 fun v45 =>
                    AM.br (v45 == (4 : Int))
                      (AM.bnd (AM.evCall Proofs.Try.prog AM.Gt.env L k (10 : Nat) [Value.pointer (some { block := s9, off := o9 })] σ) fun v46 v47 =>
                        AM.asSl v46 fun v48 v49 v50 =>
                          AM.lpAt Proofs.Try.prog AM.Gt.env L k (3 : Nat) [true, true, true, true, false, true] [] n
                            [((0 : Nat), Value.slice s0 s0n s0z), ((1 : Nat), Value.int IntKind.u16 s1), ((2 : Nat), Value.int IntKind.u8 s2), ((3 : Nat), Value.slice s3 s3n s3z),
                              ((9 : Nat), Value.pointer (some { block := s9, off := o9 })), ((10 : Nat), Value.int IntKind.i64 s10), ((29 : Nat), Value.int IntKind.i64 s29),
                              ((30 : Nat), Value.int IntKind.i64 (IntKind.wrap IntKind.i64 (s30 + (1 : Int))))]
                            v47)
                      (AM.lpAt Proofs.Try.prog AM.Gt.env L k (3 : Nat) [true, true, true, true, false, true] [] n
                        [((0 : Nat), Value.slice s0 s0n s0z), ((1 : Nat), Value.int IntKind.u16 s1), ((2 : Nat), Value.int IntKind.u8 s2), ((3 : Nat), Value.slice s3 s3n s3z), ((9 : Nat), Value.pointer (some { block := s9, off := o9 })),
                          ((10 : Nat), Value.int IntKind.i64 s10), ((29 : Nat), Value.int IntKind.i64 s29), ((30 : Nat), Value.int IntKind.i64 (IntKind.wrap IntKind.i64 (s30 + (1 : Int))))]
                        σ)))))
  (AM.bnd
    (AM.evCall Proofs.Try.prog AM.Gt.env L k (9 : Nat)
      [Value.pointer (some { block := s9, off := o9 }), Value.int IntKind.i64 (IntKind.wrap IntKind.i64 ((1 : Int) + IntKind.wrap IntKind.i64 s1)), Value.int IntKind.i64 (IntKind.wrap IntKind.i64 ((1 : Int) + IntKind.wrap IntKind.i64 s2))]
      σ)
    fun v51 v52 =>
    AM.eqNil v51 fun v53 =>
      AM.br (!v53) (some (Value.bool (decide (s10 ≥ IntKind.wrap IntKind.i64 ((1 : Int) + IntKind.wrap IntKind.i64 s1))), v52))
        (AM.lpAt Proofs.Try.prog AM.Gt.env L k (3 : Nat) [true, true, true, true, true, true, true, false, true] [] L
          [((1 : Nat), Value.int IntKind.u16 s1), ((3 : Nat), Value.slice s3 s3n s3z), ((9 : Nat), Value.pointer (some { block := s9, off := o9 })),
            ((90 : Nat), Value.int IntKind.i64 (IntKind.wrap IntKind.i64 ((1 : Int) + IntKind.wrap IntKind.i64 s2))), ((91 : Nat), Value.int IntKind.i64 (0 : Int))]
          v52)) := by kernel_rfl
theorem f3_l19 (L k n : Nat) (σ : St) (s1 : Int) (s3 : Option Addr) (s3n s3z : Nat) (s9 o9 : Nat) (s90 : Int) (s91 : Int) : lpAt Go.Proofs.Try.prog Go.AM.Gt.env L k 3 [true, true, true, true, true, true, true, false, true] [] (n + 1) [(1, .int .u16 s1), (3, .slice s3 s3n s3z), (9, .pointer (some ⟨s9, o9, none⟩)), (90, .int .i64 s90), (91, .int .i64 s91)] σ =
    AM.br (decide (s91 < s90))
  (AM.bnd (AM.evCall Proofs.Try.prog AM.Gt.env L k (11 : Nat) [Value.pointer (some { block := s9, off := o9 })] σ) fun v1 v2 =>
    AM.asI IntKind.i64 v1 fun v3 =>
      AM.br (v3 != IntKind.wrap IntKind.i64 ((1 : Int) + IntKind.wrap IntKind.i64 s1)) (some (Value.bool false, v2))
        (AM.br (decide (s91 < (↑s3n : Int)))
          (AM.need (AM.inRange s91 (↑s3n : Int))
            (AM.adr s3 fun v4 v5 =>
              AM.St.ld v2 v4 (v5 + Int.toNat s91 * (3 : Nat) + (2 : Nat)) fun v6 =>
                AM.asS v6 fun v7 =>
                  AM.br (decide ((↑(ByteArray.size v7) : Int) < (200 : Int)))
                    (AM.need (AM.inRange s91 (↑s3n : Int))
                      (AM.adr s3 fun v8 v9 =>
                        AM.St.lds v2 v8 (v9 + Int.toNat s91 * (3 : Nat)) (3 : Nat) fun v10 =>
                          AM.uncons v10 fun v11 v12 =>
                            AM.asI IntKind.i64 v11 fun v13 =>
                              AM.uncons v12 fun v14 v15 =>
                                AM.asI IntKind.i64 v14 fun v16 =>
                                  AM.uncons v15 fun v17 v18 =>
                                    AM.asS v17 fun v19 =>
                                      AM.endl v18
                                        (AM.bnd (AM.evCall Proofs.Try.prog AM.Gt.env L k (12 : Nat) [Value.pointer (some { block := s9, off := o9 }), Value.agg #[Value.int IntKind.i64 v13, Value.int IntKind.i64 v16, Value.string v19]] v2)
                                          fun v20 v21 =>
                                          AM.asT v20 fun v22 =>
                                            AM.uncons v22 fun v23 v24 =>
                                              AM.asB v23 fun v25 =>
                                                AM.uncons v24 fun v26 v27 =>
                                                  AM.endl v27
                                                    (AM.bnd (AM.evCall Proofs.Try.prog AM.Gt.env L k (10 : Nat) [Value.pointer (some { block := s9, off := o9 })] v21) fun v28 v29 =>
                                                      AM.asSl v28 fun v30 v31 v32 =>
                                                        AM.lpAt Proofs.Try.prog AM.Gt.env L k (3 : Nat) [true, true, true, true, true, true, true, false, true] [] n
                                                          [((1 : Nat), Value.int IntKind.u16 s1), ((3 : Nat), Value.slice s3 s3n s3z), ((9 : Nat), Value.pointer (some { block := s9, off := o9 })), ((90 : Nat), Value.int IntKind.i64 s90),
                                                            ((91 : Nat), Value.int IntKind.i64 (IntKind.wrap IntKind.i64 (s91 + (1 : Int))))]
                                                          v29))))
                    (AM.bnd (AM.evCall Proofs.Try.prog AM.Gt.env L k (10 : Nat) [Value.pointer (some { block := s9, off := o9 })] v2) fun v33 v34 =>
                      AM.asSl v33 fun v35 v36 v37 =>
                        AM.lpAt Proofs.Try.prog AM.Gt.env L k (3 : Nat) [true, true, true, true, true, true, true, false, true] [] n
                          [((1 : Nat), Value.int IntKind.u16 s1), ((3 : Nat), Value.slice s3 s3n s3z), ((9 : Nat), Value.pointer (some { block := s9, off := o9 })), ((90 : Nat), Value.int IntKind.i64 s90),
                            ((91 : Nat), Value.int IntKind.i64 (IntKind.wrap IntKind.i64 (s91 + (1 : Int))))]
                          v34)))
          (AM.bnd (AM.evCall Proofs.Try.prog AM.Gt.env L k (10 : Nat) [Value.pointer (some { block := s9, off := o9 })] v2) fun v38 v39 =>
            AM.asSl v38 fun v40 v41 v42 =>
              AM.lpAt Proofs.Try.prog AM.Gt.env L k (3 : Nat) [true, true, true, true, true, true, true, false, true] [] n
                [((1 : Nat), Value.int IntKind.u16 s1), ((3 : Nat), Value.slice s3 s3n s3z), ((9 : Nat), Value.pointer (some { block := s9, off := o9 })), ((90 : Nat), Value.int IntKind.i64 s90),
                  ((91 : Nat), Value.int IntKind.i64 (IntKind.wrap IntKind.i64 (s91 + (1 : Int))))]
                v39)))
  (AM.bnd (AM.evCall Proofs.Try.prog AM.Gt.env L k (11 : Nat) [Value.pointer (some { block := s9, off := o9 })] σ) fun v43 v44 =>
    AM.asI IntKind.i64 v43 fun v45 =>
      AM.br (v45 == (0 : Int)) (AM.bnd (AM.evCall Proofs.Try.prog AM.Gt.env L k (13 : Nat) [Value.pointer (some { block := s9, off := o9 })] v44) fun v46 v47 => AM.asI IntKind.i64 v46 fun v48 => some (Value.bool (v48 == (0 : Int)), v47))
        (some (Value.bool false, v44))) := by kernel_rfl
/-! isobar/isobarlaw08.GateKeeps: 4; parameters [l] -/
theorem f4_eq (L k : Nat) (σ : St) (a0 : Option Addr) (a0n a0z : Nat) : evCall Go.Proofs.Try.prog Go.AM.Gt.env L (k + 1) 4 [.slice a0 a0n a0z] σ =
    AM.bnd (AM.evCall Proofs.Try.prog AM.Gt.env L k (6 : Nat) [] σ) fun v1 v2 =>
  AM.asB v1 fun v3 =>
    AM.br (!v3) (AM.bnd (AM.evCall Proofs.Try.prog AM.Gt.env L k (6 : Nat) [] v2) fun v4 v5 => AM.asB v4 fun v6 => some (Value.bool v6, v5))
      (AM.bnd (AM.evCall Proofs.Try.prog AM.Gt.env L k (7 : Nat) [Value.slice a0 a0n a0z] v2) fun v7 v8 =>
        AM.asB v7 fun v9 =>
          AM.br (!v9) (AM.bnd (AM.evCall Proofs.Try.prog AM.Gt.env L k (6 : Nat) [] v8) fun v10 v11 => AM.asB v10 fun v12 => some (Value.bool v12, v11))
            (AM.bnd (AM.evCall Proofs.Try.prog AM.Gt.env L k (8 : Nat) [] v8) fun v13 v14 =>
              AM.asP v13 fun v15 =>
                AM.lpAt Proofs.Try.prog AM.Gt.env L k (4 : Nat) [true, true, true, true, false, true] [] L
                  [((0 : Nat), Value.slice a0 a0n a0z), ((3 : Nat), Value.pointer v15), ((4 : Nat), Value.int IntKind.i64 (0 : Int)), ((5 : Nat), Value.int IntKind.i64 (0 : Int)), ((21 : Nat), Value.int IntKind.i64 (↑a0n : Int)),
                    ((22 : Nat), Value.int IntKind.i64 (0 : Int))]
                  v14)) := by kernel_rfl
theorem f4_l6 (L k n : Nat) (σ : St) (s0 : Option Addr) (s0n s0z : Nat) (s3 o3 : Nat) (s4 : Int) (s5 : Int) (s21 : Int) (s22 : Int) : lpAt Go.Proofs.Try.prog Go.AM.Gt.env L k 4 [true, true, true, true, false, true] [] (n + 1) [(0, .slice s0 s0n s0z), (3, .pointer (some ⟨s3, o3, none⟩)), (4, .int .i64 s4), (5, .int .i64 s5), (21, .int .i64 s21), (22, .int .i64 s22)] σ =
    AM.br (decide (s22 < s21))
  (AM.need (AM.inRange s22 (↑s0n : Int))
    (AM.adr s0 fun v1 v2 =>
      AM.St.ld σ v1 (v2 + Int.toNat s22 * (6 : Nat) + (0 : Nat)) fun v3 =>
        AM.asI IntKind.i64 v3 fun v4 =>
          AM.br (v4 == (1 : Int))
            (AM.need (AM.inRange s22 (↑s0n : Int))
              (AM.adr s0 fun v5 v6 =>
                AM.St.ld σ v5 (v6 + Int.toNat s22 * (6 : Nat) + (1 : Nat)) fun v7 =>
                  AM.asI IntKind.i64 v7 fun v8 =>
                    AM.need (AM.inRange s22 (↑s0n : Int))
                      (AM.adr s0 fun v9 v10 =>
                        AM.St.ld σ v9 (v10 + Int.toNat s22 * (6 : Nat) + (2 : Nat)) fun v11 =>
                          AM.asI IntKind.i64 v11 fun v12 =>
                            AM.bnd (AM.evCall Proofs.Try.prog AM.Gt.env L k (9 : Nat) [Value.pointer (some { block := s3, off := o3 }), Value.int IntKind.i64 v8, Value.int IntKind.i64 v12] σ) fun v13 v14 =>
                              AM.lpAt Proofs.Try.prog AM.Gt.env L k (4 : Nat) [true, true, true, true, false, true, false, true, true, false, true, true, true, false, true] [n] L
                                [((0 : Nat), Value.slice s0 s0n s0z), ((3 : Nat), Value.pointer (some { block := s3, off := o3 })), ((4 : Nat), Value.int IntKind.i64 s4), ((5 : Nat), Value.int IntKind.i64 s5),
                                  ((7 : Nat), Value.slice none (0 : Nat) (0 : Nat)), ((21 : Nat), Value.int IntKind.i64 s21), ((22 : Nat), Value.int IntKind.i64 s22), ((96 : Nat), Value.int IntKind.i64 (0 : Int)),
                                  ((97 : Nat), Value.int IntKind.i64 (0 : Int))]
                                v14)))
            (AM.br (v4 == (2 : Int))
              (AM.need (AM.inRange s22 (↑s0n : Int))
                (AM.adr s0 fun v15 v16 =>
                  AM.St.ld σ v15 (v16 + Int.toNat s22 * (6 : Nat) + (1 : Nat)) fun v17 =>
                    AM.asI IntKind.i64 v17 fun v18 =>
                      AM.bnd (AM.evCall Proofs.Try.prog AM.Gt.env L k (14 : Nat) [Value.pointer (some { block := s3, off := o3 }), Value.int IntKind.i64 v18] σ) fun v19 v20 =>
                        AM.asT v19 fun v21 =>
                          AM.uncons v21 fun v22 v23 =>
                            AM.asSl v22 fun v24 v25 v26 =>
                              AM.uncons v23 fun v27 v28 =>
                                AM.endl v28
                                  (AM.lpAt Proofs.Try.prog AM.Gt.env L k (4 : Nat) [true, true, true, true, false, true, false, true, true, false, true, true, true, false, true] [n] L
                                    [((0 : Nat), Value.slice s0 s0n s0z), ((3 : Nat), Value.pointer (some { block := s3, off := o3 })), ((4 : Nat), Value.int IntKind.i64 s4), ((5 : Nat), Value.int IntKind.i64 s5),
                                      ((7 : Nat), Value.slice v24 v25 v26), ((21 : Nat), Value.int IntKind.i64 s21), ((22 : Nat), Value.int IntKind.i64 s22), ((96 : Nat), Value.int IntKind.i64 (↑v25 : Int)),
                                      ((97 : Nat), Value.int IntKind.i64 (0 : Int))]
                                    v20)))
              (AM.br (v4 == (3 : Int))
                (AM.bnd (AM.evCall Proofs.Try.prog AM.Gt.env L k (12 : Nat) [Value.pointer (some { block := s3, off := o3 }), Value.agg #[Value.int IntKind.i64 s4, Value.int IntKind.i64 (0 : Int), Value.string { data := #[] }]] σ)
                  fun v29 v30 =>
                  AM.asT v29 fun v31 =>
                    AM.uncons v31 fun v32 v33 =>
                      AM.asB v32 fun v34 =>
                        AM.uncons v33 fun v35 v36 =>
                          AM.endl v36
                            (AM.br v34
                              (AM.br (s4 != s5) (some (Value.bool false, v30))
                                (AM.br (!v34)
                                  (AM.eqNil v35 fun v37 =>
                                    AM.br v37
                                      (AM.bnd (AM.evCall Proofs.Try.prog AM.Gt.env L k (11 : Nat) [Value.pointer (some { block := s3, off := o3 })] v30) fun v38 v39 =>
                                        AM.asI IntKind.i64 v38 fun v40 =>
                                          AM.br (v40 == (0 : Int)) (some (Value.bool false, v39))
                                            (AM.eqNil v35 fun v41 =>
                                              AM.br v41
                                                (AM.br v34
                                                  (AM.lpAt Proofs.Try.prog AM.Gt.env L k (4 : Nat) [true, true, true, true, false, true, false, true, true, false, true, true, true, false, true] [n] L
                                                    [((0 : Nat), Value.slice s0 s0n s0z), ((3 : Nat), Value.pointer (some { block := s3, off := o3 })), ((4 : Nat), Value.int IntKind.i64 (IntKind.wrap IntKind.i64 (s4 + (1 : Int)))),
                                                      ((5 : Nat), Value.int IntKind.i64 (IntKind.wrap IntKind.i64 (s5 + (1 : Int)))), ((7 : Nat), Value.slice none (0 : Nat) (0 : Nat)), ((21 : Nat), Value.int IntKind.i64 s21),
                                                      ((22 : Nat), Value.int IntKind.i64 s22), ((96 : Nat), Value.int IntKind.i64 (0 : Int)), ((97 : Nat), Value.int IntKind.i64 (0 : Int))]
                                                    v39)
                                                  (AM.lpAt Proofs.Try.prog AM.Gt.env L k (4 : Nat) [true, true, true, true, false, true, false, true, true, false, true, true, true, false, true] [n] L
                                                    [((0 : Nat), Value.slice s0 s0n s0z), ((3 : Nat), Value.pointer (some { block := s3, off := o3 })), ((4 : Nat), Value.int IntKind.i64 (IntKind.wrap IntKind.i64 (s4 + (1 : Int)))),
                                                      ((5 : Nat), Value.int IntKind.i64 s5), ((7 : Nat), Value.slice none (0 : Nat) (0 : Nat)), ((21 : Nat), Value.int IntKind.i64 s21), ((22 : Nat), Value.int IntKind.i64 s22),
                                                      ((96 : Nat), Value.int IntKind.i64 (0 : Int)), ((97 : Nat), Value.int IntKind.i64 (0 : Int))]
                                                    v39))
                                                (AM.br v34
                                                  (AM.lpAt Proofs.Try.prog AM.Gt.env L k (4 : Nat) [true, true, true, true, false, true, false, true, true, false, true, true, true, false, true] [n] L
                                                    [((0 : Nat), Value.slice s0 s0n s0z), ((3 : Nat), Value.pointer (some { block := s3, off := o3 })), ((4 : Nat), Value.int IntKind.i64 s4),
                                                      ((5 : Nat), Value.int IntKind.i64 (IntKind.wrap IntKind.i64 (s5 + (1 : Int)))), ((7 : Nat), Value.slice none (0 : Nat) (0 : Nat)), ((21 : Nat), Value.int IntKind.i64 s21),
                                                      ((22 : Nat), Value.int IntKind.i64 s22), ((96 : Nat), Value.int IntKind.i64 (0 : Int)), ((97 : Nat), Value.int IntKind.i64 (0 : Int))]
                                                    v39)
                                                  (AM.lpAt Proofs.Try.prog AM.Gt.env L k (4 : Nat) [true, true, true, true, false, true, false, true, true, false, true, true, true, false, true] [n] L
                                                    [((0 : Nat), Value.slice s0 s0n s0z), ((3 : Nat), Value.pointer (some { block := s3, off := o3 })), ((4 : Nat), Value.int IntKind.i64 s4), ((5 : Nat), Value.int IntKind.i64 s5),
                                                      ((7 : Nat), Value.slice none (0 : Nat) (0 : Nat)), ((21 : Nat), Value.int IntKind.i64 s21), ((22 : Nat), Value.int IntKind.i64 s22), ((96 : Nat), Value.int IntKind.i64 (0 : Int)),
                                                      ((97 : Nat), Value.int IntKind.i64 (0 : Int))]
                                                    v39))))
                                      (AM.eqNil v35 fun v42 =>
                                        AM.br v42
                                          (AM.br v34
                                            (AM.lpAt Proofs.Try.prog AM.Gt.env L k (4 : Nat) [true, true, true, true, false, true, false, true, true, false, true, true, true, false, true] [n] L
                                              [((0 : Nat), Value.slice s0 s0n s0z), ((3 : Nat), Value.pointer (some { block := s3, off := o3 })), ((4 : Nat), Value.int IntKind.i64 (IntKind.wrap IntKind.i64 (s4 + (1 : Int)))),
                                                ((5 : Nat), Value.int IntKind.i64 (IntKind.wrap IntKind.i64 (s5 + (1 : Int)))), ((7 : Nat), Value.slice none (0 : Nat) (0 : Nat)), ((21 : Nat), Value.int IntKind.i64 s21),
                                                ((22 : Nat), Value.int IntKind.i64 s22), ((96 : Nat), Value.int IntKind.i64 (0 : Int)), ((97 : Nat), Value.int IntKind.i64 (0 : Int))]
                                              v30)
                                            (AM.lpAt Proofs.Try.prog AM.Gt.env L k (4 : Nat) [true, true, true, true, false, true, false, true, true, false, true, true, true, false, true] [n] L
                                              [((0 : Nat), Value.slice s0 s0n s0z), ((3 : Nat), Value.pointer (some { block := s3, off := o3 })), ((4 : Nat), Value.int IntKind.i64 (IntKind.wrap IntKind.i64 (s4 + (1 : Int)))),
                                                ((5 : Nat), Value.int IntKind.i64 s5), ((7 : Nat), Value.slice none (0 : Nat) (0 : Nat)), ((21 : Nat), Value.int IntKind.i64 s21), ((22 : Nat), Value.int IntKind.i64 s22),
                                                ((96 : Nat), Value.int IntKind.i64 (0 : Int)), ((97 : Nat), Value.int IntKind.i64 (0 : Int))]
                                              v30))
                                          (AM.br v34
                                            (AM.lpAt Proofs.Try.prog AM.Gt.env L k (4 : Nat) [true, true, true, true, false, true, false, true, true, false, true, true, true, false, true] [n] L
                                              [((0 : Nat), Value.slice s0 s0n s0z), ((3 : Nat), Value.pointer (some { block := s3, off := o3 })), ((4 : Nat), Value.int IntKind.i64 s4),
                                                ((5 : Nat), Value.int IntKind.i64 (IntKind.wrap IntKind.i64 (s5 + (1 : Int)))), ((7 : Nat), Value.slice none (0 : Nat) (0 : Nat)), ((21 : Nat), Value.int IntKind.i64 s21),
                                                ((22 : Nat), Value.int IntKind.i64 s22), ((96 : Nat), Value.int IntKind.i64 (0 : Int)), ((97 : Nat), Value.int IntKind.i64 (0 : Int))]
                                              v30)
                                            (AM.lpAt Proofs.Try.prog AM.Gt.env L k (4 : Nat) [true, true, true, true, false, true, false, true, true, false, true, true, true, false, true] [n] L
                                              [((0 : Nat), Value.slice s0 s0n s0z), ((3 : Nat), Value.pointer (some { block := s3, off := o3 })), ((4 : Nat), Value.int IntKind.i64 s4), ((5 : Nat), Value.int IntKind.i64 s5),
                                                ((7 : Nat), Value.slice none (0 : Nat) (0 : Nat)), ((21 : Nat), Value.int IntKind.i64 s21), ((22 : Nat), Value.int IntKind.i64 s22), ((96 : Nat), Value.int IntKind.i64 (0 : Int)),
                                                ((97 : Nat), Value.int IntKind.i64 (0 : Int))]
                                              v30))))
                                  (AM.eqNil v35 fun v43 =>
                                    AM.br v43
                                      (AM.br v34
                                        (AM.lpAt Proofs.Try.prog AM.Gt.env L k (4 : Nat) [true, true, true, true, false, true, false, true, true, false, true, true, true, false, true] [n] L
                                          [((0 : Nat), Value.slice s0 s0n s0z), ((3 : Nat), Value.pointer (some { block := s3, off := o3 })), ((4 : Nat), Value.int IntKind.i64 (IntKind.wrap IntKind.i64 (s4 + (1 : Int)))),
                                            ((5 : Nat), Value.int IntKind.i64 (IntKind.wrap IntKind.i64 (s5 + (1 : Int)))), ((7 : Nat), Value.slice none (0 : Nat) (0 : Nat)), ((21 : Nat), Value.int IntKind.i64 s21),
                                            ((22 : Nat), Value.int IntKind.i64 s22), ((96 : Nat), Value.int IntKind.i64 (0 : Int)), ((97 : Nat), Value.int IntKind.i64 (0 : Int))]
                                          v30)
                                        (AM.lpAt Proofs.Try.prog AM.Gt.env L k (4 : Nat) [true, true, true, true, false, true, false, true, true, false, true, true, true, false, true] [n] L
                                          [((0 : Nat), Value.slice s0 s0n s0z), ((3 : Nat), Value.pointer (some { block := s3, off := o3 })), ((4 : Nat), Value.int IntKind.i64 (IntKind.wrap IntKind.i64 (s4 + (1 : Int)))),
                                            ((5 : Nat), Value.int IntKind.i64 s5), ((7 : Nat), Value.slice none (0 : Nat) (0 : Nat)), ((21 : Nat), Value.int IntKind.i64 s21), ((22 : Nat), Value.int IntKind.i64 s22),
                                            ((96 : Nat), Value.int IntKind.i64 (0 : Int)), ((97 : Nat), Value.int IntKind.i64 (0 : Int))]
                                          v30))
                                      (AM.br v34
                                        (AM.lpAt Proofs.Try.prog AM.Gt.env L k (4 : Nat) [true, true, true, true, false, true, false, true, true, false, true, true, true, false, true] [n] L
                                          [((0 : Nat), Value.slice s0 s0n s0z), ((3 : Nat), Value.pointer (some { block := s3, off := o3 })), ((4 : Nat), Value.int IntKind.i64 s4),
                                            ((5 : Nat), Value.int IntKind.i64 (IntKind.wrap IntKind.i64 (s5 + (1 : Int)))), ((7 : Nat), Value.slice none (0 : Nat) (0 : Nat)), ((21 : Nat), Value.int IntKind.i64 s21),
                                            ((22 : Nat), Value.int IntKind.i64 s22), ((96 : Nat), Value.int IntKind.i64 (0 : Int)), ((97 : Nat), Value.int IntKind.i64 (0 : Int))]
                                          v30)
                                        (AM.lpAt Proofs.Try.prog AM.Gt.env L k (4 : Nat) [true, true, true, true, false, true, false, true, true, false, true, true, true, false, true] [n] L
                                          [((0 : Nat), Value.slice s0 s0n s0z), ((3 : Nat), Value.pointer (some { block := s3, off := o3 })), ((4 : Nat), Value.int IntKind.i64 s4), ((5 : Nat), Value.int IntKind.i64 s5),
                                            ((7 : Nat), Value.slice none (0 : Nat) (0 : Nat)), ((21 : Nat), Value.int IntKind.i64 s21), ((22 : Nat), Value.int IntKind.i64 s22), ((96 : Nat), Value.int IntKind.i64 (0 : Int)),
                                            ((97 : Nat), Value.int IntKind.i64 (0 : Int))]
                                          v30)))))
                              (AM.br (!v34)
                                (AM.eqNil v35 fun v44 =>
                                  AM.br v44
                                    (AM.bnd (AM.evCall Proofs.Try.prog AM.Gt.env L k (11 : Nat) [Value.pointer (some { block := s3, off := o3 })] v30) fun v45 v46 =>
                                      AM.asI IntKind.i64 v45 fun v47 =>
                                        AM.br (v47 == (0 : Int)) (some (Value.bool false, v46))
                                          (AM.eqNil v35 fun v48 =>
                                            AM.br v48
                                              (AM.br v34
                                                (AM.lpAt Proofs.Try.prog AM.Gt.env L k (4 : Nat) [true, true, true, true, false, true, false, true, true, false, true, true, true, false, true] [n] L
                                                  [((0 : Nat), Value.slice s0 s0n s0z), ((3 : Nat), Value.pointer (some { block := s3, off := o3 })), ((4 : Nat), Value.int IntKind.i64 (IntKind.wrap IntKind.i64 (s4 + (1 : Int)))),
                                                    ((5 : Nat), Value.int IntKind.i64 (IntKind.wrap IntKind.i64 (s5 + (1 : Int)))), ((7 : Nat), Value.slice none (0 : Nat) (0 : Nat)), ((21 : Nat), Value.int IntKind.i64 s21),
                                                    ((22 : Nat), Value.int IntKind.i64 s22), ((96 : Nat), Value.int IntKind.i64 (0 : Int)), ((97 : Nat), Value.int IntKind.i64 (0 : Int))]
                                                  v46)
                                                (AM.lpAt Proofs.Try.prog AM.Gt.env L k (4 : Nat) [true, true, true, true, false, true, false, true, true, false, true, true, true, false, true] [n] L
                                                  [((0 : Nat), Value.slice s0 s0n s0z), ((3 : Nat), Value.pointer (some { block := s3, off := o3 })), ((4 : Nat), Value.int IntKind.i64 (IntKind.wrap IntKind.i64 (s4 + (1 : Int)))),
                                                    ((5 : Nat), Value.int IntKind.i64 s5), ((7 : Nat), Value.slice none (0 : Nat) (0 : Nat)), ((21 : Nat), Value.int IntKind.i64 s21), ((22 : Nat), Value.int IntKind.i64 s22),
                                                    ((96 : Nat), Value.int IntKind.i64 (0 : Int)), ((97 : Nat), Value.int IntKind.i64 (0 : Int))]
                                                  v46))
                                              (AM.br v34
                                                (AM.lpAt Proofs.Try.prog AM.Gt.env L k (4 : Nat) [true, true, true, true, false, true, false, true, true, false, true, true, true, false, true] [n] L
                                                  [((0 : Nat), Value.slice s0 s0n s0z), ((3 : Nat), Value.pointer (some { block := s3, off := o3 })), ((4 : Nat), Value.int IntKind.i64 s4),
                                                    ((5 : Nat), Value.int IntKind.i64 (IntKind.wrap IntKind.i64 (s5 + (1 : Int)))), ((7 : Nat), Value.slice none (0 : Nat) (0 : Nat)), ((21 : Nat), Value.int IntKind.i64 s21),
                                                    ((22 : Nat), Value.int IntKind.i64 s22), ((96 : Nat), Value.int IntKind.i64 (0 : Int)), ((97 : Nat), Value.int IntKind.i64 (0 : Int))]
                                                  v46)
                                                (AM.lpAt Proofs.Try.prog AM.Gt.env L k (4 : Nat) [true, true, true, true, false, true, false, true, true, false, true, true, true, false, true] [n] L
                                                  [((0 : Nat), Value.slice s0 s0n s0z), ((3 : Nat), Value.pointer (some { block := s3, off := o3 })), ((4 : Nat), Value.int IntKind.i64 s4), ((5 : Nat), Value.int IntKind.i64 s5),
                                                    ((7 : Nat), Value.slice none (0 : Nat) (0 : Nat)), ((21 : Nat), Value.int IntKind.i64 s21), ((22 : Nat), Value.int IntKind.i64 s22), ((96 : Nat), Value.int IntKind.i64 (0 : Int)),
                                                    ((97 : Nat), Value.int IntKind.i64 (0 : Int))]
                                                  v46))))
                                    (AM.eqNil v35 fun v49 =>
                                      AM.br v49
                                        (AM.br v34
                                          (AM.lpAt Proofs.Try.prog AM.Gt.env L k (4 : Nat) [true, true, true, true, false, true, false, true, true, false, true, true, true, false, true] [n] L
                                            [((0 : Nat), Value.slice s0 s0n s0z), ((3 : Nat), Value.pointer (some { block := s3, off := o3 })), ((4 : Nat), Value.int IntKind.i64 (IntKind.wrap IntKind.i64 (s4 + (1 : Int)))),
                                              ((5 : Nat), Value.int IntKind.i64 (IntKind.wrap IntKind.i64 (s5 + (1 : Int)))), ((7 : Nat), Value.slice none (0 : Nat) (0 : Nat)), ((21 : Nat), Value.int IntKind.i64 s21),
                                              ((22 : Nat), Value.int IntKind.i64 s22), ((96 : Nat), Value.int IntKind.i64 (0 : Int)), ((97 : Nat), Value.int IntKind.i64 (0 : Int))]
                                            v30)
                                          (AM.lpAt Proofs.Try.prog AM.Gt.env L k (4 : Nat) [true, true, true, true, false, true, false, true, true, false, true, true, true, false, true] [n] L
                                            [((0 : Nat), Value.slice s0 s0n s0z), ((3 : Nat), Value.pointer (some { block := s3, off := o3 })), ((4 : Nat), Value.int IntKind.i64 (IntKind.wrap IntKind.i64 (s4 + (1 : Int)))),
                                              ((5 : Nat), Value.int IntKind.i64 s5), ((7 : Nat), Value.slice none (0 : Nat) (0 : Nat)), ((21 : Nat), Value.int IntKind.i64 s21), ((22 : Nat), Value.int IntKind.i64 s22),
                                              ((96 : Nat), Value.int IntKind.i64 (0 : Int)), ((97 : Nat), Value.int IntKind.i64 (0 : Int))]
                                            v30))
                                        (AM.br v34
                                          (AM.lpAt Proofs.Try.prog AM.Gt.env L k (4 : Nat) [true, true, true, true, false, true, false, true, true, false, true, true, true, false, true] [n] L
                                            [((0 : Nat), Value.slice s0 s0n s0z), ((3 : Nat), Value.pointer (some { block := s3, off := o3 })), ((4 : Nat), Value.int IntKind.i64 s4),
                                              ((5 : Nat), Value.int IntKind.i64 (IntKind.wrap IntKind.i64 (s5 + (1 : Int)))), ((7 : Nat), Value.slice none (0 : Nat) (0 : Nat)), ((21 : Nat), Value.int IntKind.i64 s21),
                                              ((22 : Nat), Value.int IntKind.i64 s22), ((96 : Nat), Value.int IntKind.i64 (0 : Int)), ((97 : Nat), Value.int IntKind.i64 (0 : Int))]
                                            v30)
                                          (AM.lpAt Proofs.Try.prog AM.Gt.env L k (4 : Nat) [true, true, true, true, false, true, false, true, true, false, true, true, true, false, true] [n] L
                                            [((0 : Nat), Value.slice s0 s0n s0z), ((3 : Nat), Value.pointer (some { block := s3, off := o3 })), ((4 : Nat), Value.int IntKind.i64 s4), ((5 : Nat), Value.int IntKind.i64 s5),
                                              ((7 : Nat), Value.slice none (0 : Nat) (0 : Nat)), ((21 : Nat), Value.int IntKind.i64 s21), ((22 : Nat), Value.int IntKind.i64 s22), ((96 : Nat), Value.int IntKind.i64 (0 : Int)),
                                              ((97 : Nat), Value.int IntKind.i64 (0 : Int))]
                                            v30))))
                                (AM.eqNil v35 fun v50 =>
                                  AM.br v50
                                    (AM.br v34
                                      (AM.lpAt Proofs.Try.prog AM.Gt.env L k (4 : Nat) [true, true, true, true, false, true, false, true, true, false, true, true, true, false, true] [n] L
                                        [((0 : Nat), Value.slice s0 s0n s0z), ((3 : Nat), Value.pointer (some { block := s3, off := o3 })), ((4 : Nat), Value.int IntKind.i64 (IntKind.wrap IntKind.i64 (s4 + (1 : Int)))),
                                          ((5 : Nat), Value.int IntKind.i64 (IntKind.wrap IntKind.i64 (s5 + (1 : Int)))), ((7 : Nat), Value.slice none (0 : Nat) (0 : Nat)), ((21 : Nat), Value.int IntKind.i64 s21),
                                          ((22 : Nat), Value.int IntKind.i64 s22), ((96 : Nat), Value.int IntKind.i64 (0 : Int)), ((97 : Nat), Value.int IntKind.i64 (0 : Int))]
                                        v30)
                                      (AM.lpAt Proofs.Try.prog AM.Gt.env L k (4 : Nat) [true, true, true, true, false, true, false, true, true, false, true, true, true, false, true] [n] L
                                        [((0 : Nat), Value.slice s0 s0n s0z), ((3 : Nat), Value.pointer (some { block := s3, off := o3 })), ((4 : Nat), Value.int IntKind.i64 (IntKind.wrap IntKind.i64 (s4 + (1 : Int)))),
                                          ((5 : Nat), Value.int IntKind.i64 s5), ((7 : Nat), Value.slice none (0 : Nat) (0 : Nat)), ((21 : Nat), Value.int IntKind.i64 s21), ((22 : Nat), Value.int IntKind.i64 s22),
                                          ((96 : Nat), Value.int IntKind.i64 (0 : Int)), ((97 : Nat), Value.int IntKind.i64 (0 : Int))]
                                        v30))
                                    (AM.br v34
                                      (AM.lpAt Proofs.Try.prog AM.Gt.env L k (4 : Nat) [true, true, true, true, false, true, false, true, true, false, true, true, true, false, true] [n] L
                                        [((0 : Nat), Value.slice s0 s0n s0z), ((3 : Nat), Value.pointer (some { block := s3, off := o3 })), ((4 : Nat), Value.int IntKind.i64 s4),
                                          ((5 : Nat), Value.int IntKind.i64 (IntKind.wrap IntKind.i64 (s5 + (1 : Int)))), ((7 : Nat), Value.slice none (0 : Nat) (0 : Nat)), ((21 : Nat), Value.int IntKind.i64 s21),
                                          ((22 : Nat), Value.int IntKind.i64 s22), ((96 : Nat), Value.int IntKind.i64 (0 : Int)), ((97 : Nat), Value.int IntKind.i64 (0 : Int))]
                                        v30)
                                      (AM.lpAt Proofs.Try.prog AM.Gt.env L k (4 : Nat) [true, true, true, true, false, true, false, true, true, false, true, true, true, false, true] [n] L
                                        [((0 : Nat), Value.slice s0 s0n s0z), ((3 : Nat), Value.pointer (some { block := s3, off := o3 })), ((4 : Nat), Value.int IntKind.i64 s4), ((5 : Nat), Value.int IntKind.i64 s5),
                                          ((7 : Nat), Value.slice none (0 : Nat) (0 : Nat)), ((21 : Nat), Value.int IntKind.i64 s21), ((22 : Nat), Value.int IntKind.i64 s22), ((96 : Nat), Value.int IntKind.i64 (0 : Int)),
                                          ((97 : Nat), Value.int IntKind.i64 (0 : Int))]
                                        v30))))))
                (AM.br (v4 == (4 : Int))
                  (AM.bnd (AM.evCall Proofs.Try.prog AM.Gt.env L k (10 : Nat) [Value.pointer (some { block := s3, off := o3 })] σ) fun v51 v52 =>
                    AM.asSl v51 fun v53 v54 v55 =>
                      AM.lpAt Proofs.Try.prog AM.Gt.env L k (4 : Nat) [true, true, true, true, false, true, false, true, true, false, true, true, true, false, true] [n] L
                        [((0 : Nat), Value.slice s0 s0n s0z), ((3 : Nat), Value.pointer (some { block := s3, off := o3 })), ((4 : Nat), Value.int IntKind.i64 s4), ((5 : Nat), Value.int IntKind.i64 s5), ((7 : Nat), Value.slice v53 v54 v55),
                          ((21 : Nat), Value.int IntKind.i64 s21), ((22 : Nat), Value.int IntKind.i64 s22), ((96 : Nat), Value.int IntKind.i64 (↑v54 : Int)), ((97 : Nat), Value.int IntKind.i64 (0 : Int))]
                        v52)
                  (AM.lpAt Proofs.Try.prog AM.Gt.env L k (4 : Nat) [true, true, true, true, false, true, false, true, true, false, true, true, true, false, true] [n] L
                    [((0 : Nat), Value.slice s0 s0n s0z), ((3 : Nat), Value.pointer (some { block := s3, off := o3 })), ((4 : Nat), Value.int IntKind.i64 s4), ((5 : Nat), Value.int IntKind.i64 s5),
                      ((7 : Nat), Value.slice none (0 : Nat) (0 : Nat)), ((21 : Nat), Value.int IntKind.i64 s21), ((22 : Nat), Value.int IntKind.i64 s22), ((96 : Nat), Value.int IntKind.i64 (0 : Int)),
                      ((97 : Nat), Value.int IntKind.i64 (0 : Int))]
                    σ))))))
  (some (Value.bool true, σ)) := by kernel_rfl
theorem f4_l25 (L k m0 n : Nat) (σ : St) (s0 : Option Addr) (s0n s0z : Nat) (s3 o3 : Nat) (s4 : Int) (s5 : Int) (s7 : Option Addr) (s7n s7z : Nat) (s21 : Int) (s22 : Int) (s96 : Int) (s97 : Int) : lpAt Go.Proofs.Try.prog Go.AM.Gt.env L k 4 [true, true, true, true, false, true, false, true, true, false, true, true, true, false, true] [m0] (n + 1) [(0, .slice s0 s0n s0z), (3, .pointer (some ⟨s3, o3, none⟩)), (4, .int .i64 s4), (5, .int .i64 s5), (7, .slice s7 s7n s7z), (21, .int .i64 s21), (22, .int .i64 s22), (96, .int .i64 s96), (97, .int .i64 s97)] σ =
    AM.br (decide (s97 < s96))
  (AM.need (AM.inRange s97 (↑s7n : Int))
    (AM.adr s7 fun v1 v2 =>
      AM.St.ld σ v1 (v2 + Int.toNat s97 * (3 : Nat) + (0 : Nat)) fun v3 =>
        AM.asI IntKind.i64 v3 fun v4 =>
          AM.br (v4 != s5) (some (Value.bool false, σ))
            (AM.lpAt Proofs.Try.prog AM.Gt.env L k (4 : Nat) [true, true, true, true, false, true, false, true, true, false, true, true, true, false, true] [m0] n
              [((0 : Nat), Value.slice s0 s0n s0z), ((3 : Nat), Value.pointer (some { block := s3, off := o3 })), ((4 : Nat), Value.int IntKind.i64 s4), ((5 : Nat), Value.int IntKind.i64 (IntKind.wrap IntKind.i64 (s5 + (1 : Int)))),
                ((7 : Nat), Value.slice s7 s7n s7z), ((21 : Nat), Value.int IntKind.i64 s21), ((22 : Nat), Value.int IntKind.i64 s22), ((96 : Nat), Value.int IntKind.i64 s96),
                ((97 : Nat), Value.int IntKind.i64 (IntKind.wrap IntKind.i64 (s97 + (1 : Int))))]
              σ)))
  (AM.bnd (AM.evCall Proofs.Try.prog AM.Gt.env L k (13 : Nat) [Value.pointer (some { block := s3, off := o3 })] σ) fun v5 v6 =>
    AM.asI IntKind.i64 v5 fun v7 =>
      AM.br (v7 != IntKind.wrap IntKind.i64 (s4 - s5)) (some (Value.bool false, v6))
        (AM.bnd (AM.evCall Proofs.Try.prog AM.Gt.env L k (13 : Nat) [Value.pointer (some { block := s3, off := o3 })] v6) fun v8 v9 =>
          AM.asI IntKind.i64 v8 fun v10 =>
            AM.br (decide (v10 > (4 : Int))) (some (Value.bool false, v9))
              (AM.bnd (AM.evCall Proofs.Try.prog AM.Gt.env L k (11 : Nat) [Value.pointer (some { block := s3, off := o3 })] v9) fun v11 v12 =>
                AM.asI IntKind.i64 v11 fun v13 =>
                  AM.br (v13 == (0 : Int))
                    (AM.bnd (AM.evCall Proofs.Try.prog AM.Gt.env L k (13 : Nat) [Value.pointer (some { block := s3, off := o3 })] v12) fun v14 v15 =>
                      AM.asI IntKind.i64 v14 fun v16 =>
                        AM.br (v16 != (0 : Int)) (some (Value.bool false, v15))
                          (AM.lpAt Proofs.Try.prog AM.Gt.env L k (4 : Nat) [true, true, true, true, false, true] [] m0
                            [((0 : Nat), Value.slice s0 s0n s0z), ((3 : Nat), Value.pointer (some { block := s3, off := o3 })), ((4 : Nat), Value.int IntKind.i64 s4), ((5 : Nat), Value.int IntKind.i64 s5),
                              ((21 : Nat), Value.int IntKind.i64 s21), ((22 : Nat), Value.int IntKind.i64 (IntKind.wrap IntKind.i64 (s22 + (1 : Int))))]
                            v15))
                    (AM.lpAt Proofs.Try.prog AM.Gt.env L k (4 : Nat) [true, true, true, true, false, true] [] m0
                      [((0 : Nat), Value.slice s0 s0n s0z), ((3 : Nat), Value.pointer (some { block := s3, off := o3 })), ((4 : Nat), Value.int IntKind.i64 s4), ((5 : Nat), Value.int IntKind.i64 s5), ((21 : Nat), Value.int IntKind.i64 s21),
                        ((22 : Nat), Value.int IntKind.i64 (IntKind.wrap IntKind.i64 (s22 + (1 : Int))))]
                      v12)))) := by kernel_rfl
/-! isobar/isobarlaw08.GateOpen: 5; parameters [l, c] -/
theorem f5_eq (L k : Nat) (σ : St) (a0 : Option Addr) (a0n a0z : Nat) (a1_0 : Int) (a1_1 : Int) (a1_2 : ByteArray) : evCall Go.Proofs.Try.prog Go.AM.Gt.env L (k + 1) 5 [.slice a0 a0n a0z, .agg [.int .i64 a1_0, .int .i64 a1_1, .string a1_2].toArray] σ =
    AM.bnd (AM.evCall Proofs.Try.prog AM.Gt.env L k (6 : Nat) [] (AM.St.new σ (AM.Blk.own [Value.int IntKind.i64 a1_0, Value.int IntKind.i64 a1_1, Value.string a1_2] (30 : Nat)))) fun v1 v2 =>
  AM.asB v1 fun v3 =>
    AM.br (!v3) (AM.bnd (AM.evCall Proofs.Try.prog AM.Gt.env L k (6 : Nat) [] v2) fun v4 v5 => AM.asB v4 fun v6 => some (Value.bool v6, v5))
      (AM.bnd (AM.evCall Proofs.Try.prog AM.Gt.env L k (7 : Nat) [Value.slice a0 a0n a0z] v2) fun v7 v8 =>
        AM.asB v7 fun v9 =>
          AM.br (!v9) (AM.bnd (AM.evCall Proofs.Try.prog AM.Gt.env L k (6 : Nat) [] v8) fun v10 v11 => AM.asB v10 fun v12 => some (Value.bool v12, v11))
            (AM.St.ld v8 (AM.St.next σ) (2 : Nat) fun v13 =>
              AM.asS v13 fun v14 =>
                AM.br (decide ((↑(ByteArray.size v14) : Int) > (200 : Int))) (AM.bnd (AM.evCall Proofs.Try.prog AM.Gt.env L k (6 : Nat) [] v8) fun v15 v16 => AM.asB v15 fun v17 => some (Value.bool v17, v16))
                  (AM.bnd (AM.evCall Proofs.Try.prog AM.Gt.env L k (8 : Nat) [] v8) fun v18 v19 =>
                    AM.asP v18 fun v20 =>
                      AM.lpAt Proofs.Try.prog AM.Gt.env L k (5 : Nat) [true, true, true, false, true] [] L
                        [((0 : Nat), Value.slice a0 a0n a0z), ((3 : Nat), Value.pointer (some { block := AM.St.next σ, off := (0 : Nat) })), ((5 : Nat), Value.pointer v20), ((27 : Nat), Value.int IntKind.i64 (↑a0n : Int)),
                          ((28 : Nat), Value.int IntKind.i64 (0 : Int))]
                        v19))) := by kernel_rfl
theorem f5_l5 (L k n : Nat) (σ : St) (s0 : Option Addr) (s0n s0z : Nat) (s3 : Value) (s5 o5 : Nat) (s27 : Int) (s28 : Int) : lpAt Go.Proofs.Try.prog Go.AM.Gt.env L k 5 [true, true, true, false, true] [] (n + 1) [(0, .slice s0 s0n s0z), (3, s3), (5, .pointer (some ⟨s5, o5, none⟩)), (27, .int .i64 s27), (28, .int .i64 s28)] σ =
    AM.br (decide (s28 < s27))
  (AM.need (AM.inRange s28 (↑s0n : Int))
    (AM.adr s0 fun v1 v2 =>
      AM.St.ld σ v1 (v2 + Int.toNat s28 * (6 : Nat) + (0 : Nat)) fun v3 =>
        AM.asI IntKind.i64 v3 fun v4 =>
          AM.br (v4 == (1 : Int))
            (AM.need (AM.inRange s28 (↑s0n : Int))
              (AM.adr s0 fun v5 v6 =>
                AM.St.ld σ v5 (v6 + Int.toNat s28 * (6 : Nat) + (1 : Nat)) fun v7 =>
                  AM.asI IntKind.i64 v7 fun v8 =>
                    AM.need (AM.inRange s28 (↑s0n : Int))
                      (AM.adr s0 fun v9 v10 =>
                        AM.St.ld σ v9 (v10 + Int.toNat s28 * (6 : Nat) + (2 : Nat)) fun v11 =>
                          AM.asI IntKind.i64 v11 fun v12 =>
                            AM.bnd (AM.evCall Proofs.Try.prog AM.Gt.env L k (9 : Nat) [Value.pointer (some { block := s5, off := o5 }), Value.int IntKind.i64 v8, Value.int IntKind.i64 v12] σ) fun v13 v14 =>
                              AM.bnd (AM.evCall Proofs.Try.prog AM.Gt.env L k (11 : Nat) [Value.pointer (some { block := s5, off := o5 })] v14) fun v15 v16 =>
                                AM.asI IntKind.i64 v15 fun v17 =>
                                  AM.bnd (AM.evCall Proofs.Try.prog AM.Gt.env L k (13 : Nat) [Value.pointer (some { block := s5, off := o5 })] v16) fun v18 v19 =>
                                    AM.asI IntKind.i64 v18 fun v20 =>
                                      AM.asP s3 fun v21 =>
                                        AM.adr v21 fun v22 v23 =>
                                          AM.St.lds v19 v22 v23 (3 : Nat) fun v24 =>
                                            AM.uncons v24 fun v25 v26 =>
                                              AM.asI IntKind.i64 v25 fun v27 =>
                                                AM.uncons v26 fun v28 v29 =>
                                                  AM.asI IntKind.i64 v28 fun v30 =>
                                                    AM.uncons v29 fun v31 v32 =>
                                                      AM.asS v31 fun v33 =>
                                                        AM.endl v32
                                                          (AM.bnd
                                                            (AM.evCall Proofs.Try.prog AM.Gt.env L k (12 : Nat)
                                                              [Value.pointer (some { block := s5, off := o5 }), Value.agg #[Value.int IntKind.i64 v27, Value.int IntKind.i64 v30, Value.string v33]] v19)
                                                            fun v34 v35 =>
                                                            AM.asT v34 fun v36 =>
                                                              AM.uncons v36 fun v37 v38 =>
                                                                AM.asB v37 fun v39 =>
                                                                  AM.uncons v38 fun v40 v41 =>
                                                                    AM.endl v41
                                                                      (AM.br (v39 == (v17 != (0 : Int))) (some (Value.bool false, v35))
                                                                        (AM.br (!v17 != (0 : Int))
                                                                          (AM.eqNil v40 fun v42 =>
                                                                            AM.br (!v42) (some (Value.bool false, v35))
                                                                              (AM.br (v17 != (0 : Int))
                                                                                (AM.eqNil v40 fun v43 =>
                                                                                  AM.br (!v43 == decide (v20 < (4 : Int))) (some (Value.bool false, v35))
                                                                                    (AM.lpAt Proofs.Try.prog AM.Gt.env L k (5 : Nat) [true, true, true, false, true] [] n
                                                                                      [((0 : Nat), Value.slice s0 s0n s0z), ((3 : Nat), s3), ((5 : Nat), Value.pointer (some { block := s5, off := o5 })),
                                                                                        ((27 : Nat), Value.int IntKind.i64 s27), ((28 : Nat), Value.int IntKind.i64 (IntKind.wrap IntKind.i64 (s28 + (1 : Int))))]
                                                                                      v35))
                                                                                (AM.lpAt Proofs.Try.prog AM.Gt.env L k (5 : Nat) [true, true, true, false, true] [] n
                                                                                  [((0 : Nat), Value.slice s0 s0n s0z), ((3 : Nat), s3), ((5 : Nat), Value.pointer (some { block := s5, off := o5 })), ((27 : Nat), Value.int IntKind.i64 s27),
                                                                                    ((28 : Nat), Value.int IntKind.i64 (IntKind.wrap IntKind.i64 (s28 + (1 : Int))))]
                                                                                  v35)))
                                                                          (AM.br (v17 != (0 : Int))
                                                                            (AM.eqNil v40 fun v44 =>
                                                                              AM.br (!v44 == decide (v20 < (4 : Int))) (some (Value.bool false, v35))
                                                                                (AM.lpAt Proofs.Try.prog AM.Gt.env L k (5 : Nat) [true, true, true, false, true] [] n
                                                                                  [((0 : Nat), Value.slice s0 s0n s0z), ((3 : Nat), s3), ((5 : Nat), Value.pointer (some { block := s5, off := o5 })), ((27 : Nat), Value.int IntKind.i64 s27),
                                                                                    ((28 : Nat), Value.int IntKind.i64 (IntKind.wrap IntKind.i64 (s28 + (1 : Int))))]
                                                                                  v35))
                                                                            (AM.lpAt Proofs.Try.prog AM.Gt.env L k (5 : Nat) [true, true, true, false, true] [] n
                                                                              [((0 : Nat), Value.slice s0 s0n s0z), ((3 : Nat), s3), ((5 : Nat), Value.pointer (some { block := s5, off := o5 })), ((27 : Nat), Value.int IntKind.i64 s27),
                                                                                ((28 : Nat), Value.int IntKind.i64 (IntKind.wrap IntKind.i64 (s28 + (1 : Int))))]
                                                                              v35))))))))
            (AM.br (v4 == (2 : Int))
              (AM.need (AM.inRange s28 (↑s0n : Int))
                (AM.adr s0 fun v45 v46 =>
                  AM.St.ld σ v45 (v46 + Int.toNat s28 * (6 : Nat) + (1 : Nat)) fun v47 =>
                    AM.asI IntKind.i64 v47 fun v48 =>
                      AM.bnd (AM.evCall Proofs.Try.prog AM.Gt.env L k (14 : Nat) [Value.pointer (some { block := s5, off := o5 }), Value.int IntKind.i64 v48] σ) fun v49 v50 =>
                        AM.asT v49 fun v51 =>
                          AM.uncons v51 fun v52 v53 =>
                            AM.asSl v52 fun v54 v55 v56 =>
                              AM.uncons v53 fun v57 v58 =>
                                AM.endl v58
                                  (AM.bnd (AM.evCall Proofs.Try.prog AM.Gt.env L k (11 : Nat) [Value.pointer (some { block := s5, off := o5 })] v50) fun v59 v60 =>
                                    AM.asI IntKind.i64 v59 fun v61 =>
                                      AM.bnd (AM.evCall Proofs.Try.prog AM.Gt.env L k (13 : Nat) [Value.pointer (some { block := s5, off := o5 })] v60) fun v62 v63 =>
                                        AM.asI IntKind.i64 v62 fun v64 =>
                                          AM.asP s3 fun v65 =>
                                            AM.adr v65 fun v66 v67 =>
                                              AM.St.lds v63 v66 v67 (3 : Nat) fun v68 =>
                                                AM.uncons v68 fun v69 v70 =>
                                                  AM.asI IntKind.i64 v69 fun v71 =>
                                                    AM.uncons v70 fun v72 v73 =>
                                                      AM.asI IntKind.i64 v72 fun v74 =>
                                                        AM.uncons v73 fun v75 v76 =>
                                                          AM.asS v75 fun v77 =>
                                                            AM.endl v76
                                                              (AM.bnd
                                                                (AM.evCall Proofs.Try.prog AM.Gt.env L k (12 : Nat)
                                                                  [Value.pointer (some { block := s5, off := o5 }), Value.agg #[Value.int IntKind.i64 v71, Value.int IntKind.i64 v74, Value.string v77]] v63)
                                                                fun v78 v79 =>
                                                                AM.asT v78 fun v80 =>
                                                                  AM.uncons v80 fun v81 v82 =>
                                                                    AM.asB v81 fun v83 =>
                                                                      AM.uncons v82 fun v84 v85 =>
                                                                        AM.endl v85
                                                                          (AM.br (v83 == (v61 != (0 : Int))) (some (Value.bool false, v79))
                                                                            (AM.br (!v61 != (0 : Int))
                                                                              (AM.eqNil v84 fun v86 =>
                                                                                AM.br (!v86) (some (Value.bool false, v79))
                                                                                  (AM.br (v61 != (0 : Int))
                                                                                    (AM.eqNil v84 fun v87 =>
                                                                                      AM.br (!v87 == decide (v64 < (4 : Int))) (some (Value.bool false, v79))
                                                                                        (AM.lpAt Proofs.Try.prog AM.Gt.env L k (5 : Nat) [true, true, true, false, true] [] n
                                                                                          [((0 : Nat), Value.slice s0 s0n s0z), ((3 : Nat), s3), ((5 : Nat), Value.pointer (some { block := s5, off := o5 })),
                                                                                            ((27 : Nat), Value.int IntKind.i64 s27), ((28 : Nat), Value.int IntKind.i64 (IntKind.wrap IntKind.i64 (s28 + (1 : Int))))]
                                                                                          v79))
                                                                                    (AM.lpAt Proofs.Try.prog AM.Gt.env L k (5 : Nat) [true, true, true, false, true] [] n
                                                                                      [((0 : Nat), Value.slice s0 s0n s0z), ((3 : Nat), s3), ((5 : Nat), Value.pointer (some { block := s5, off := o5 })),
                                                                                        ((27 : Nat), Value.int IntKind.i64 s27), ((28 : Nat), Value.int IntKind.i64 (IntKind.wrap IntKind.i64 (s28 + (1 : Int))))]
                                                                                      v79)))
                                                                              (AM.br (v61 != (0 : Int))
                                                                                (AM.eqNil v84 fun v88 =>
                                                                                  AM.br (!v88 == decide (v64 < (4 : Int))) (some (Value.bool false, v79))
                                                                                    (AM.lpAt Proofs.Try.prog AM.Gt.env L k (5 : Nat) [true, true, true, false, true] [] n
                                                                                      [((0 : Nat), Value.slice s0 s0n s0z), ((3 : Nat), s3), ((5 : Nat), Value.pointer (some { block := s5, off := o5 })),
                                                                                        ((27 : Nat), Value.int IntKind.i64 s27), ((28 : Nat), Value.int IntKind.i64 (IntKind.wrap IntKind.i64 (s28 + (1 : Int))))]
                                                                                      v79))
                                                                                (AM.lpAt Proofs.Try.prog AM.Gt.env L k (5 : Nat) [true, true, true, false, true] [] n
                                                                                  [((0 : Nat), Value.slice s0 s0n s0z), ((3 : Nat), s3), ((5 : Nat), Value.pointer (some { block := s5, off := o5 })), ((27 : Nat), Value.int IntKind.i64 s27),
                                                                                    ((28 : Nat), Value.int IntKind.i64 (IntKind.wrap IntKind.i64 (s28 + (1 : Int))))]
                                                                                  v79))))))))
              (AM.br (v4 == (4 : Int))
                (AM.bnd (AM.evCall Proofs.Try.prog AM.Gt.env L k (10 : Nat) [Value.pointer (some { block := s5, off := o5 })] σ) fun v89 v90 =>
                  AM.asSl v89 fun v91 v92 v93 =>
                    AM.bnd (AM.evCall Proofs.Try.prog AM.Gt.env L k (11 : Nat) [Value.pointer (some { block := s5, off := o5 })] v90) fun v94 v95 =>
                      AM.asI IntKind.i64 v94 fun v96 =>
                        AM.bnd (AM.evCall Proofs.Try.prog AM.Gt.env L k (13 : Nat) [Value.pointer (some { block := s5, off := o5 })] v95) fun v97 v98 =>
                          AM.asI IntKind.i64 v97 fun v99 =>
                            AM.asP s3 fun v100 =>
                              AM.adr v100 fun v101 v102 =>
                                AM.St.lds v98 v101 v102 (3 : Nat) fun v103 =>
                                  AM.uncons v103 fun v104 v105 =>
                                    AM.asI IntKind.i64 v104 fun v106 =>
                                      AM.uncons v105 fun v107 v108 =>
                                        AM.asI IntKind.i64 v107 fun v109 =>
                                          AM.uncons v108 fun v110 v111 =>
                                            AM.asS v110 fun v112 =>
                                              AM.endl v111
                                                (AM.bnd
                                                  (AM.evCall Proofs.Try.prog AM.Gt.env L k (12 : Nat) [Value.pointer (some { block := s5, off := o5 }), Value.agg #[Value.int IntKind.i64 v106, Value.int IntKind.i64 v109, Value.string v112]]
                                                    v98)
                                                  fun v113 v114 =>
                                                  AM.asT v113 fun v115 =>
                                                    AM.uncons v115 fun v116 v117 =>
                                                      AM.asB v116 fun v118 =>
                                                        AM.uncons v117 fun v119 v120 =>
                                                          AM.endl v120
                                                            (AM.br (v118 == (v96 != (0 : Int))) (some (Value.bool false, v114))
                                                              (AM.br (!v96 != (0 : Int))
                                                                (AM.eqNil v119 fun v121 =>
                                                                  AM.br (!v121) (some (Value.bool false, v114))
                                                                    (AM.br (v96 != (0 : Int))
                                                                      (AM.eqNil v119 fun v122 =>
                                                                        AM.br (!v122 == decide (v99 < (4 : Int))) (some (Value.bool false, v114))
                                                                          (AM.lpAt Proofs.Try.prog AM.Gt.env L k (5 : Nat) [true, true, true, false, true] [] n
                                                                            [((0 : Nat), Value.slice s0 s0n s0z), ((3 : Nat), s3), ((5 : Nat), Value.pointer (some { block := s5, off := o5 })), ((27 : Nat), Value.int IntKind.i64 s27),
                                                                              ((28 : Nat), Value.int IntKind.i64 (IntKind.wrap IntKind.i64 (s28 + (1 : Int))))]
                                                                            v114))
                                                                      (AM.lpAt Proofs.Try.prog AM.Gt.env L k (5 : Nat) [true, true, true, false, true] [] n
                                                                        [((0 : Nat), Value.slice s0 s0n s0z), ((3 : Nat), s3), ((5 : Nat), Value.pointer (some { block := s5, off := o5 })), ((27 : Nat), Value.int IntKind.i64 s27),
                                                                          ((28 : Nat), Value.int IntKind.i64 (IntKind.wrap IntKind.i64 (s28 + (1 : Int))))]
                                                                        v114)))
                                                                (AM.br (v96 != (0 : Int))
                                                                  (AM.eqNil v119 fun v123 =>
                                                                    AM.br (!v123 == decide (v99 < (4 : Int))) (some (Value.bool false, v114))
                                                                      (AM.lpAt Proofs.Try.prog AM.Gt.env L k (5 : Nat) [true, true, true, false, true] [] n
                                                                        [((0 : Nat), Value.slice s0 s0n s0z), ((3 : Nat), s3), ((5 : Nat), Value.pointer (some { block := s5, off := o5 })), ((27 : Nat), Value.int IntKind.i64 s27),
                                                                          ((28 : Nat), Value.int IntKind.i64 (IntKind.wrap IntKind.i64 (s28 + (1 : Int))))]
                                                                        v114))
                                                                  (AM.lpAt Proofs.Try.prog AM.Gt.env L k (5 : Nat) [true, true, true, false, true] [] n
                                                                    [((0 : Nat), Value.slice s0 s0n s0z), ((3 : Nat), s3), ((5 : Nat), Value.pointer (some { block := s5, off := o5 })), ((27 : Nat), Value.int IntKind.i64 s27),
                                                                      ((28 : Nat), Value.int IntKind.i64 (IntKind.wrap IntKind.i64 (s28 + (1 : Int))))]
                                                                    v114))))))
                (AM.bnd (AM.evCall Proofs.Try.prog AM.Gt.env L k (11 : Nat) [Value.pointer (some { block := s5, off := o5 })] σ) fun v124 v125 =>
                  AM.asI IntKind.i64 v124 fun v126 =>
                    AM.bnd (AM.evCall Proofs.Try.prog AM.Gt.env L k (13 : Nat) [Value.pointer (some { block := s5, off := o5 })] v125) fun v127 v128 =>
                      AM.asI IntKind.i64 v127 fun v129 =>
                        AM.asP s3 fun v130 =>
                          AM.adr v130 fun v131 v132 =>
                            AM.St.lds v128 v131 v132 (3 : Nat) fun v133 =>
                              AM.uncons v133 fun v134 v135 =>
                                AM.asI IntKind.i64 v134 fun v136 =>
                                  AM.uncons v135 fun v137 v138 =>
                                    AM.asI IntKind.i64 v137 fun v139 =>
                                      AM.uncons v138 fun v140 v141 =>
                                        AM.asS v140 fun v142 =>
                                          AM.endl v141
                                            (AM.bnd
                                              (AM.evCall Proofs.Try.prog AM.Gt.env L k (12 : Nat) [Value.pointer (some { block := s5, off := o5 }), Value.agg #[Value.int IntKind.i64 v136, Value.int IntKind.i64 v139, Value.string v142]]
                                                v128)
                                              fun v143 v144 =>
                                              AM.asT v143 fun v145 =>
                                                AM.uncons v145 fun v146 v147 =>
                                                  AM.asB v146 fun v148 =>
                                                    AM.uncons v147 fun v149 v150 =>
                                                      AM.endl v150
                                                        (AM.br (v148 == (v126 != (0 : Int))) (some (Value.bool false, v144))
                                                          (AM.br (!v126 != (0 : Int))
                                                            (AM.eqNil v149 fun v151 =>
                                                              AM.br (!v151) (some (Value.bool false, v144))
                                                                (AM.br (v126 != (0 : Int))
                                                                  (AM.eqNil v149 fun v152 =>
                                                                    AM.br (!v152 == decide (v129 < (4 : Int))) (some (Value.bool false, v144))
                                                                      (AM.lpAt Proofs.Try.prog AM.Gt.env L k (5 : Nat) [true, true, true, false, true] [] n
                                                                        [((0 : Nat), Value.slice s0 s0n s0z), ((3 : Nat), s3), ((5 : Nat), Value.pointer (some { block := s5, off := o5 })), ((27 : Nat), Value.int IntKind.i64 s27),
                                                                          ((28 : Nat), Value.int IntKind.i64 (IntKind.wrap IntKind.i64 (s28 + (1 : Int))))]
                                                                        v144))
                                                                  (AM.lpAt Proofs.Try.prog AM.Gt.env L k (5 : Nat) [true, true, true, false, true] [] n
                                                                    [((0 : Nat), Value.slice s0 s0n s0z), ((3 : Nat), s3), ((5 : Nat), Value.pointer (some { block := s5, off := o5 })), ((27 : Nat), Value.int IntKind.i64 s27),
                                                                      ((28 : Nat), Value.int IntKind.i64 (IntKind.wrap IntKind.i64 (s28 + (1 : Int))))]
                                                                    v144)))
                                                            (AM.br (v126 != (0 : Int))
                                                              (AM.eqNil v149 fun v153 =>
                                                                AM.br (!v153 == decide (v129 < (4 : Int))) (some (Value.bool false, v144))
                                                                  (AM.lpAt Proofs.Try.prog AM.Gt.env L k (5 : Nat) [true, true, true, false, true] [] n
                                                                    [((0 : Nat), Value.slice s0 s0n s0z), ((3 : Nat), s3), ((5 : Nat), Value.pointer (some { block := s5, off := o5 })), ((27 : Nat), Value.int IntKind.i64 s27),
                                                                      ((28 : Nat), Value.int IntKind.i64 (IntKind.wrap IntKind.i64 (s28 + (1 : Int))))]
                                                                    v144))
                                                              (AM.lpAt Proofs.Try.prog AM.Gt.env L k (5 : Nat) [true, true, true, false, true] [] n
                                                                [((0 : Nat), Value.slice s0 s0n s0z), ((3 : Nat), s3), ((5 : Nat), Value.pointer (some { block := s5, off := o5 })), ((27 : Nat), Value.int IntKind.i64 s27),
                                                                  ((28 : Nat), Value.int IntKind.i64 (IntKind.wrap IntKind.i64 (s28 + (1 : Int))))]
                                                                v144))))))))))
  (some (Value.bool true, σ)) := by kernel_rfl
/-! isobar/isobarlaw08.awake: 6; parameters [] -/
theorem f6_eq (L k : Nat) (σ : St)  : evCall Go.Proofs.Try.prog Go.AM.Gt.env L (k + 1) 6 [] σ =
    AM.bnd (AM.evCall Proofs.Try.prog AM.Gt.env L k (8 : Nat) [] σ) fun v1 v2 =>
  AM.asP v1 fun v3 =>
    AM.br (Option.isNone v3) (some (Value.bool false, v2))
      (AM.bnd (AM.evCall Proofs.Try.prog AM.Gt.env L k (9 : Nat) [Value.pointer v3, Value.int IntKind.i64 (1 : Int), Value.int IntKind.i64 (1 : Int)] v2) fun v4 v5 =>
        AM.eqNil v4 fun v6 =>
          AM.br (!v6) (some (Value.bool false, v5))
            (AM.bnd (AM.evCall Proofs.Try.prog AM.Gt.env L k (12 : Nat) [Value.pointer v3, Value.agg #[Value.int IntKind.i64 (5 : Int), Value.int IntKind.i64 (0 : Int), Value.string { data := #[] }]] v5) fun v7 v8 =>
              AM.asT v7 fun v9 =>
                AM.uncons v9 fun v10 v11 =>
                  AM.asB v10 fun v12 =>
                    AM.uncons v11 fun v13 v14 =>
                      AM.endl v14
                        (AM.bnd (AM.evCall Proofs.Try.prog AM.Gt.env L k (10 : Nat) [Value.pointer v3] v8) fun v15 v16 =>
                          AM.asSl v15 fun v17 v18 v19 =>
                            AM.br (!v12)
                              (AM.eqNil v13 fun v20 =>
                                AM.br v20
                                  (AM.br ((↑v18 : Int) == (1 : Int))
                                    (AM.need (AM.inRange (0 : Int) (↑v18 : Int))
                                      (AM.adr v17 fun v21 v22 =>
                                        AM.St.ld v16 v21 (v22 + (0 : Nat) + (0 : Nat)) fun v23 =>
                                          AM.asI IntKind.i64 v23 fun v24 =>
                                            AM.br (v24 == (5 : Int)) (AM.bnd (AM.evCall Proofs.Try.prog AM.Gt.env L k (15 : Nat) [Value.int IntKind.i64 (7 : Int)] v16) fun v25 v26 => AM.asB v25 fun v27 => some (Value.bool v27, v26))
                                              (some (Value.bool false, v16))))
                                    (some (Value.bool false, v16)))
                                  (some (Value.bool false, v16)))
                              (some (Value.bool false, v16))))) := by kernel_rfl
/-! isobar/isobarlaw08.few: 7; parameters [l] -/
theorem f7_eq (L k : Nat) (σ : St) (a0 : Option Addr) (a0n a0z : Nat) : evCall Go.Proofs.Try.prog Go.AM.Gt.env L (k + 1) 7 [.slice a0 a0n a0z] σ =
    AM.br (decide ((↑a0n : Int) > (300 : Int))) (some (Value.bool false, σ))
  (AM.lpAt Proofs.Try.prog AM.Gt.env L k (7 : Nat) [true, true, false, true] [] L [((0 : Nat), Value.slice a0 a0n a0z), ((8 : Nat), Value.int IntKind.i64 (↑a0n : Int)), ((9 : Nat), Value.int IntKind.i64 (0 : Int))] σ) := by kernel_rfl
theorem f7_l4 (L k n : Nat) (σ : St) (s0 : Option Addr) (s0n s0z : Nat) (s8 : Int) (s9 : Int) : lpAt Go.Proofs.Try.prog Go.AM.Gt.env L k 7 [true, true, false, true] [] (n + 1) [(0, .slice s0 s0n s0z), (8, .int .i64 s8), (9, .int .i64 s9)] σ =
    AM.br (decide (s9 < s8))
  (AM.need (AM.inRange s9 (↑s0n : Int))
    (AM.adr s0 fun v1 v2 =>
      AM.St.ld σ v1 (v2 + Int.toNat s9 * (6 : Nat) + (3 : Nat) + (2 : Nat)) fun v3 =>
        AM.asS v3 fun v4 =>
          AM.br (decide ((↑(ByteArray.size v4) : Int) > (200 : Int))) (some (Value.bool false, σ))
            (AM.lpAt Proofs.Try.prog AM.Gt.env L k (7 : Nat) [true, true, false, true] [] n
              [((0 : Nat), Value.slice s0 s0n s0z), ((8 : Nat), Value.int IntKind.i64 s8), ((9 : Nat), Value.int IntKind.i64 (IntKind.wrap IntKind.i64 (s9 + (1 : Int))))] σ)))
  (some (Value.bool true, σ)) := by kernel_rfl
/-! isobar/gate.New: 8; parameters [] -/
theorem f8_eq (L k : Nat) (σ : St)  : evCall Go.Proofs.Try.prog Go.AM.Gt.env L (k + 1) 8 [] σ =
    some
  (Value.pointer (some { block := AM.St.next σ, off := (0 : Nat) }),
    AM.St.new σ (AM.Blk.own [Value.int IntKind.i64 (0 : Int), Value.int IntKind.i64 (0 : Int), Value.int IntKind.i64 (0 : Int), Value.slice none (0 : Nat) (0 : Nat)] (49 : Nat))) := by kernel_rfl
/-! (*isobar/gate.Gate).Freeze: 9; parameters [g, round, ticks] -/
theorem f9_eq (L k : Nat) (σ : St) (a0 : Nat) (a1 : Int) (a2 : Int) : evCall Go.Proofs.Try.prog Go.AM.Gt.env L (k + 1) 9 [.pointer (some ⟨a0, 0, none⟩), .int .i64 a1, .int .i64 a2] σ =
    AM.br (decide (a1 < (1 : Int))) (AM.bnd (AM.evCall Proofs.Try.prog AM.Gt.env L k (16 : Nat) [Value.int IntKind.i64 a1, Value.int IntKind.i64 (1 : Int)] σ) fun v1 v2 => some (AM.pack [v1], v2))
  (AM.br (decide (a2 < (1 : Int))) (AM.bnd (AM.evCall Proofs.Try.prog AM.Gt.env L k (16 : Nat) [Value.int IntKind.i64 a1, Value.int IntKind.i64 (1 : Int)] σ) fun v3 v4 => some (AM.pack [v3], v4))
    (AM.St.ld σ a0 (0 : Nat) fun v5 =>
      AM.asI IntKind.i64 v5 fun v6 =>
        AM.br (a1 != v6)
          (AM.St.ld σ a0 (2 : Nat) fun v7 =>
            AM.asI IntKind.i64 v7 fun v8 =>
              AM.br (decide (a1 ≤ v8)) (AM.bnd (AM.evCall Proofs.Try.prog AM.Gt.env L k (16 : Nat) [Value.int IntKind.i64 a1, Value.int IntKind.i64 (10 : Int)] σ) fun v9 v10 => some (AM.pack [v9], v10))
                (AM.St.put σ a0 (0 : Nat) [Value.int IntKind.i64 a1] fun v11 => AM.St.put v11 a0 (2 : Nat) [Value.int IntKind.i64 a1] fun v12 => AM.St.put v12 a0 (1 : Nat) [Value.int IntKind.i64 a2] fun v13 => some (Value.nilIface, v13)))
          (AM.St.put σ a0 (0 : Nat) [Value.int IntKind.i64 a1] fun v14 => AM.St.put v14 a0 (2 : Nat) [Value.int IntKind.i64 a1] fun v15 => AM.St.put v15 a0 (1 : Nat) [Value.int IntKind.i64 a2] fun v16 => some (Value.nilIface, v16)))) := by kernel_rfl
/-! (*isobar/gate.Gate).Tick: 10; parameters [g] -/
theorem f10_eq (L k : Nat) (σ : St) (a0 : Nat) : evCall Go.Proofs.Try.prog Go.AM.Gt.env L (k + 1) 10 [.pointer (some ⟨a0, 0, none⟩)] σ =
    AM.bnd (AM.evCall Proofs.Try.prog AM.Gt.env L k (11 : Nat) [Value.pointer (some { block := a0, off := (0 : Nat) })] σ) fun v1 v2 =>
  AM.asI IntKind.i64 v1 fun v3 =>
    AM.br (v3 == (0 : Int)) (some (Value.slice none (0 : Nat) (0 : Nat), v2))
      (AM.bnd (AM.evCall Proofs.Try.prog AM.Gt.env L k (17 : Nat) [Value.pointer (some { block := a0, off := (0 : Nat) }), Value.int IntKind.i64 (0 : Int)] v2) fun v4 v5 => AM.asSl v4 fun v6 v7 v8 => some (Value.slice v6 v7 v8, v5)) := by kernel_rfl
/-! (*isobar/gate.Gate).Frozen: 11; parameters [g] -/
theorem f11_eq (L k : Nat) (σ : St) (a0 : Nat) : evCall Go.Proofs.Try.prog Go.AM.Gt.env L (k + 1) 11 [.pointer (some ⟨a0, 0, none⟩)] σ =
    AM.St.ld σ a0 (0 : Nat) fun v1 => AM.asI IntKind.i64 v1 fun v2 => some (Value.int IntKind.i64 v2, σ) := by kernel_rfl
/-! (*isobar/gate.Gate).Enter: 12; parameters [g, c] -/
theorem f12_eq (L k : Nat) (σ : St) (a0 : Nat) (a1_0 : Int) (a1_1 : Int) (a1_2 : ByteArray) : evCall Go.Proofs.Try.prog Go.AM.Gt.env L (k + 1) 12 [.pointer (some ⟨a0, 0, none⟩), .agg [.int .i64 a1_0, .int .i64 a1_1, .string a1_2].toArray] σ =
    AM.St.ld (AM.St.new σ (AM.Blk.own [Value.int IntKind.i64 a1_0, Value.int IntKind.i64 a1_1, Value.string a1_2] (41 : Nat))) a0 (0 : Nat) fun v1 =>
  AM.asI IntKind.i64 v1 fun v2 =>
    AM.br (v2 == (0 : Int)) (some (Value.tuple #[Value.bool true, Value.nilIface], AM.St.new σ (AM.Blk.own [Value.int IntKind.i64 a1_0, Value.int IntKind.i64 a1_1, Value.string a1_2] (41 : Nat))))
      (AM.St.ld (AM.St.new σ (AM.Blk.own [Value.int IntKind.i64 a1_0, Value.int IntKind.i64 a1_1, Value.string a1_2] (41 : Nat))) a0 (3 : Nat) fun v3 =>
        AM.asSl v3 fun v4 v5 v6 =>
          AM.br (decide ((↑v5 : Int) ≥ (4 : Int)))
            (AM.St.ld (AM.St.new σ (AM.Blk.own [Value.int IntKind.i64 a1_0, Value.int IntKind.i64 a1_1, Value.string a1_2] (41 : Nat))) a0 (0 : Nat) fun v7 =>
              AM.asI IntKind.i64 v7 fun v8 =>
                AM.bnd
                  (AM.evCall Proofs.Try.prog AM.Gt.env L k (16 : Nat) [Value.int IntKind.i64 v8, Value.int IntKind.i64 (7 : Int)]
                    (AM.St.new σ (AM.Blk.own [Value.int IntKind.i64 a1_0, Value.int IntKind.i64 a1_1, Value.string a1_2] (41 : Nat))))
                  fun v9 v10 => some (Value.tuple #[Value.bool false, v9], v10))
            (AM.St.ld (AM.St.new σ (AM.Blk.own [Value.int IntKind.i64 a1_0, Value.int IntKind.i64 a1_1, Value.string a1_2] (41 : Nat))) a0 (3 : Nat) fun v11 =>
              AM.asSl v11 fun v12 v13 v14 =>
                AM.St.lds (AM.St.new σ (AM.Blk.own [Value.int IntKind.i64 a1_0, Value.int IntKind.i64 a1_1, Value.string a1_2] (41 : Nat))) (AM.St.next σ) (0 : Nat) (3 : Nat) fun v15 =>
                  AM.uncons v15 fun v16 v17 =>
                    AM.asI IntKind.i64 v16 fun v18 =>
                      AM.uncons v17 fun v19 v20 =>
                        AM.asI IntKind.i64 v19 fun v21 =>
                          AM.uncons v20 fun v22 v23 =>
                            AM.asS v22 fun v24 =>
                              AM.endl v23
                                (AM.St.ld
                                  (AM.St.new (AM.St.new σ (AM.Blk.own [Value.int IntKind.i64 a1_0, Value.int IntKind.i64 a1_1, Value.string a1_2] (41 : Nat)))
                                    (AM.Blk.own [Value.int IntKind.i64 v18, Value.int IntKind.i64 v21, Value.string v24] (41 : Nat)))
                                  a0 (3 : Nat) fun v25 =>
                                  AM.asSl v25 fun v26 v27 v28 =>
                                    AM.chk (Value.slice v26 v27 v28) (Value.slice v12 v13 v14)
                                      (AM.St.row
                                        (AM.St.new (AM.St.new σ (AM.Blk.own [Value.int IntKind.i64 a1_0, Value.int IntKind.i64 a1_1, Value.string a1_2] (41 : Nat)))
                                          (AM.Blk.own [Value.int IntKind.i64 v18, Value.int IntKind.i64 v21, Value.string v24] (41 : Nat)))
                                        (some { block := AM.St.next (AM.St.new σ (AM.Blk.own [Value.int IntKind.i64 a1_0, Value.int IntKind.i64 a1_1, Value.string a1_2] (41 : Nat))), off := (0 : Nat) }) (3 : Nat) fun v29 =>
                                        AM.grow (41 : Nat) (3 : Nat) (32 : Nat) v12 v13 v14 (1 : Nat) v29
                                          (AM.St.new (AM.St.new σ (AM.Blk.own [Value.int IntKind.i64 a1_0, Value.int IntKind.i64 a1_1, Value.string a1_2] (41 : Nat)))
                                            (AM.Blk.own [Value.int IntKind.i64 v18, Value.int IntKind.i64 v21, Value.string v24] (41 : Nat)))
                                          fun v30 v31 v32 v33 => AM.St.put v33 a0 (3 : Nat) [Value.slice v30 v31 v32] fun v34 => some (Value.tuple #[Value.bool false, Value.nilIface], v34))))) := by kernel_rfl
/-! (*isobar/gate.Gate).Waiting: 13; parameters [g] -/
theorem f13_eq (L k : Nat) (σ : St) (a0 : Nat) : evCall Go.Proofs.Try.prog Go.AM.Gt.env L (k + 1) 13 [.pointer (some ⟨a0, 0, none⟩)] σ =
    AM.St.ld σ a0 (3 : Nat) fun v1 => AM.asSl v1 fun v2 v3 v4 => some (Value.int IntKind.i64 (↑v3 : Int), σ) := by kernel_rfl
/-! (*isobar/gate.Gate).Thaw: 14; parameters [g, round] -/
theorem f14_eq (L k : Nat) (σ : St) (a0 : Nat) (a1 : Int) : evCall Go.Proofs.Try.prog Go.AM.Gt.env L (k + 1) 14 [.pointer (some ⟨a0, 0, none⟩), .int .i64 a1] σ =
    AM.St.ld σ a0 (0 : Nat) fun v1 =>
  AM.asI IntKind.i64 v1 fun v2 =>
    AM.br (v2 == (0 : Int)) (AM.bnd (AM.evCall Proofs.Try.prog AM.Gt.env L k (16 : Nat) [Value.int IntKind.i64 a1, Value.int IntKind.i64 (9 : Int)] σ) fun v3 v4 => some (Value.tuple #[Value.slice none (0 : Nat) (0 : Nat), v3], v4))
      (AM.St.ld σ a0 (0 : Nat) fun v5 =>
        AM.asI IntKind.i64 v5 fun v6 =>
          AM.br (v6 != a1) (AM.bnd (AM.evCall Proofs.Try.prog AM.Gt.env L k (16 : Nat) [Value.int IntKind.i64 a1, Value.int IntKind.i64 (9 : Int)] σ) fun v7 v8 => some (Value.tuple #[Value.slice none (0 : Nat) (0 : Nat), v7], v8))
            (AM.bnd (AM.evCall Proofs.Try.prog AM.Gt.env L k (17 : Nat) [Value.pointer (some { block := a0, off := (0 : Nat) }), Value.int IntKind.i64 (2 : Int)] σ) fun v9 v10 =>
              AM.asSl v9 fun v11 v12 v13 => some (Value.tuple #[Value.slice v11 v12 v13, Value.nilIface], v10))) := by kernel_rfl
/-! isobar/gate.Known: 15; parameters [e] -/
theorem f15_eq (L k : Nat) (σ : St) (a0 : Int) : evCall Go.Proofs.Try.prog Go.AM.Gt.env L (k + 1) 15 [.int .i64 a0] σ =
    AM.br (a0 == (1 : Int)) (AM.br (a0 == (1 : Int)) (some (Value.bool true, σ)) (some (Value.bool false, σ)))
  (AM.br (a0 == (7 : Int)) (AM.br (a0 == (7 : Int)) (some (Value.bool true, σ)) (some (Value.bool false, σ)))
    (AM.br (a0 == (9 : Int)) (AM.br (a0 == (9 : Int)) (some (Value.bool true, σ)) (some (Value.bool false, σ))) (AM.br (a0 == (10 : Int)) (some (Value.bool true, σ)) (some (Value.bool false, σ))))) := by kernel_rfl
/-! isobar/gate.wrong: 16; parameters [round, e] -/
theorem f16_eq (L k : Nat) (σ : St) (a0 : Int) (a1 : Int) : evCall Go.Proofs.Try.prog Go.AM.Gt.env L (k + 1) 16 [.int .i64 a0, .int .i64 a1] σ =
    AM.bnd (AM.evCall Proofs.Try.prog AM.Gt.env L k (18 : Nat) [Value.string { data := #[(103 : UInt8), (97 : UInt8), (116 : UInt8), (101 : UInt8)] }, Value.int IntKind.i64 a0, Value.iface (47 : Nat) (Value.int IntKind.i64 a1)] σ) fun v1 v2 =>
  some (AM.pack [v1], v2) := by kernel_rfl
/-! (*isobar/gate.Gate).opens: 17; parameters [g, event] -/
theorem f17_eq (L k : Nat) (σ : St) (a0 : Nat) (a1 : Int) : evCall Go.Proofs.Try.prog Go.AM.Gt.env L (k + 1) 17 [.pointer (some ⟨a0, 0, none⟩), .int .i64 a1] σ =
    AM.br (a1 == (0 : Int))
  (AM.St.ld σ a0 (1 : Nat) fun v1 =>
    AM.asI IntKind.i64 v1 fun v2 =>
      AM.St.put σ a0 (1 : Nat) [Value.int IntKind.i64 (IntKind.wrap IntKind.i64 (v2 - (1 : Int)))] fun v3 =>
        AM.St.ld v3 a0 (1 : Nat) fun v4 =>
          AM.asI IntKind.i64 v4 fun v5 =>
            AM.br (decide (v5 > (0 : Int))) (some (Value.slice none (0 : Nat) (0 : Nat), v3))
              (AM.St.ld v3 a0 (3 : Nat) fun v6 =>
                AM.asSl v6 fun v7 v8 v9 =>
                  AM.St.put v3 a0 (3 : Nat) [Value.slice none (0 : Nat) (0 : Nat)] fun v10 =>
                    AM.St.put v10 a0 (0 : Nat) [Value.int IntKind.i64 (0 : Int)] fun v11 => AM.St.put v11 a0 (1 : Nat) [Value.int IntKind.i64 (0 : Int)] fun v12 => some (Value.slice v7 v8 v9, v12)))
  (AM.br (a1 == (1 : Int))
    (AM.br (a1 == (1 : Int))
      (AM.St.ld σ a0 (3 : Nat) fun v13 =>
        AM.asSl v13 fun v14 v15 v16 =>
          AM.St.put σ a0 (3 : Nat) [Value.slice none (0 : Nat) (0 : Nat)] fun v17 =>
            AM.St.put v17 a0 (0 : Nat) [Value.int IntKind.i64 (0 : Int)] fun v18 => AM.St.put v18 a0 (1 : Nat) [Value.int IntKind.i64 (0 : Int)] fun v19 => some (Value.slice v14 v15 v16, v19))
      (some (Value.slice none (0 : Nat) (0 : Nat), σ)))
    (AM.br (a1 == (2 : Int))
      (AM.St.ld σ a0 (3 : Nat) fun v20 =>
        AM.asSl v20 fun v21 v22 v23 =>
          AM.St.put σ a0 (3 : Nat) [Value.slice none (0 : Nat) (0 : Nat)] fun v24 =>
            AM.St.put v24 a0 (0 : Nat) [Value.int IntKind.i64 (0 : Int)] fun v25 => AM.St.put v25 a0 (1 : Nat) [Value.int IntKind.i64 (0 : Int)] fun v26 => some (Value.slice v21 v22 v23, v26))
      (some (Value.slice none (0 : Nat) (0 : Nat), σ)))) := by kernel_rfl
/-! isobar/fault.Wrap: 18; parameters [op, at, err] -/
theorem f18_eq (L k : Nat) (σ : St) (a0 : ByteArray) (a1 : Int) (a2 : Value) : evCall Go.Proofs.Try.prog Go.AM.Gt.env L (k + 1) 18 [.string a0, .int .i64 a1, a2] σ =
    AM.eqNil a2 fun v1 =>
  AM.br v1 (some (Value.nilIface, σ))
    (AM.eqErr a2 (47 : Nat) IntKind.i64 (0 : Int) fun v2 =>
      AM.br v2 (some (Value.nilIface, σ))
        (AM.need true
          (AM.need (AM.oneCell a2) (AM.need true (some (Value.iface (53 : Nat) (Value.pointer (some { block := AM.St.next σ, off := (0 : Nat) })), AM.St.new σ (AM.Blk.own [Value.string a0, Value.int IntKind.i64 a1, a2] (55 : Nat)))))))) := by kernel_rfl
end Go.AM.Gt
