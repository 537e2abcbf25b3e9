/-
  WHAT EACH FUNCTION DOES, word by word (printed).
-/
import Derived.Test.YtopogeimdanbkaaAm0
import Derived.Test.YtopogeimdanbkaaEnvLk
set_option linter.unusedVariables false
set_option linter.unusedSimpArgs false
namespace Go.AM.Lk
open Go.Proofs
/-! isobar/isobarlaw10.LinkCounts: 3; parameters [l] -/
theorem f3_eq (L k : Nat) (σ : St) (a0 : Option Addr) (a0n a0z : Nat) : evCall Go.Proofs.Try.prog Go.AM.Lk.env L (k + 1) 3 [.slice a0 a0n a0z] σ =
    AM.bnd (AM.evCall Proofs.Try.prog AM.Lk.env L k (5 : Nat) [] σ) fun v1 v2 =>
  AM.asB v1 fun v3 =>
    AM.br (!v3) (AM.bnd (AM.evCall Proofs.Try.prog AM.Lk.env L k (5 : Nat) [] v2) fun v4 v5 => AM.asB v4 fun v6 => some (Value.bool v6, v5))
      (AM.bnd (AM.evCall Proofs.Try.prog AM.Lk.env L k (6 : Nat) [Value.slice a0 a0n a0z] v2) fun v7 v8 =>
        AM.asB v7 fun v9 =>
          AM.br (!v9) (AM.bnd (AM.evCall Proofs.Try.prog AM.Lk.env L k (5 : Nat) [] v8) fun v10 v11 => AM.asB v10 fun v12 => some (Value.bool v12, v11))
            (AM.bnd (AM.evCall Proofs.Try.prog AM.Lk.env L k (7 : Nat) [Value.int IntKind.i64 (4096 : Int)] v8) fun v13 v14 =>
              AM.asP v13 fun v15 =>
                AM.lpAt Proofs.Try.prog AM.Lk.env L k (3 : Nat) [true, true, true, true, true, true, false, true] [] L
                  [((0 : Nat), Value.slice a0 a0n a0z), ((3 : Nat), Value.pointer v15), ((4 : Nat), Value.int IntKind.i64 (0 : Int)), ((5 : Nat), Value.int IntKind.i64 (0 : Int)),
                    ((6 : Nat), Value.slice (some { block := AM.St.next v14, off := (0 : Nat) }) (400 : Nat) (1 : Nat)), ((7 : Nat), Value.int IntKind.i64 (0 : Int)), ((22 : Nat), Value.int IntKind.i64 (↑a0n : Int)),
                    ((23 : Nat), Value.int IntKind.i64 (0 : Int))]
                  (AM.St.new v14 (AM.Blk.own (AM.zerosN [Value.int IntKind.i64 (0 : Int)] (400 : Nat)) (3 : Nat))))) := by kernel_rfl
theorem f3_l8 (L k n : Nat) (σ : St) (s0 : Option Addr) (s0n s0z : Nat) (s3 o3 : Nat) (s4 : Int) (s5 : Int) (s6 : Option Addr) (s6n s6z : Nat) (s7 : Int) (s22 : Int) (s23 : Int) : lpAt Go.Proofs.Try.prog Go.AM.Lk.env L k 3 [true, true, true, true, true, true, false, true] [] (n + 1) [(0, .slice s0 s0n s0z), (3, .pointer (some ⟨s3, o3, none⟩)), (4, .int .i64 s4), (5, .int .i64 s5), (6, .slice s6 s6n s6z), (7, .int .i64 s7), (22, .int .i64 s22), (23, .int .i64 s23)] σ =
    AM.br (decide (s23 < s22))
  (AM.need (AM.inRange s23 (↑s0n : Int))
    (AM.adr s0 fun v1 v2 =>
      AM.St.ld σ v1 (v2 + Int.toNat s23 * (4 : Nat) + (0 : Nat)) fun v3 =>
        AM.asI IntKind.i64 v3 fun v4 =>
          AM.br (v4 == (1 : Int))
            (AM.bnd (AM.evCall Proofs.Try.prog AM.Lk.env L k (8 : Nat) [Value.pointer (some { block := s3, off := o3 }), Value.int IntKind.i64 s7] σ) fun v5 v6 =>
              AM.eqNil v5 fun v7 =>
                AM.br v7
                  (AM.need (AM.inRange s7 (↑s6n : Int))
                    (AM.adr s6 fun v8 v9 =>
                      AM.St.ld v6 v8 (v9 + Int.toNat s7 * (1 : Nat)) fun v10 =>
                        AM.asI IntKind.i64 v10 fun v11 =>
                          AM.need (AM.inRange s7 (↑s6n : Int))
                            (AM.adr s6 fun v12 v13 =>
                              AM.St.put v6 v12 (v13 + Int.toNat s7 * (1 : Nat)) [Value.int IntKind.i64 (IntKind.wrap IntKind.i64 (v11 + (1 : Int)))] fun v14 =>
                                AM.lpAt Proofs.Try.prog AM.Lk.env L k (3 : Nat) [true, true, true, true, true, true, false, true] [] n
                                  [((0 : Nat), Value.slice s0 s0n s0z), ((3 : Nat), Value.pointer (some { block := s3, off := o3 })), ((4 : Nat), Value.int IntKind.i64 (IntKind.wrap IntKind.i64 (s4 + (1 : Int)))),
                                    ((5 : Nat), Value.int IntKind.i64 s5), ((6 : Nat), Value.slice s6 s6n s6z), ((7 : Nat), Value.int IntKind.i64 (IntKind.wrap IntKind.i64 (s7 + (1 : Int)))), ((22 : Nat), Value.int IntKind.i64 s22),
                                    ((23 : Nat), Value.int IntKind.i64 (IntKind.wrap IntKind.i64 (s23 + (1 : Int))))]
                                  v14)))
                  (AM.lpAt Proofs.Try.prog AM.Lk.env L k (3 : Nat) [true, true, true, true, true, true, false, true] [] n
                    [((0 : Nat), Value.slice s0 s0n s0z), ((3 : Nat), Value.pointer (some { block := s3, off := o3 })), ((4 : Nat), Value.int IntKind.i64 s4), ((5 : Nat), Value.int IntKind.i64 s5), ((6 : Nat), Value.slice s6 s6n s6z),
                      ((7 : Nat), Value.int IntKind.i64 s7), ((22 : Nat), Value.int IntKind.i64 s22), ((23 : Nat), Value.int IntKind.i64 (IntKind.wrap IntKind.i64 (s23 + (1 : Int))))]
                    v6))
            (AM.br (v4 == (2 : Int))
              (AM.need (AM.inRange s23 (↑s0n : Int))
                (AM.adr s0 fun v15 v16 =>
                  AM.St.ld σ v15 (v16 + Int.toNat s23 * (4 : Nat) + (1 : Nat)) fun v17 =>
                    AM.asI IntKind.i64 v17 fun v18 =>
                      AM.bnd (AM.evCall Proofs.Try.prog AM.Lk.env L k (9 : Nat) [Value.pointer (some { block := s3, off := o3 }), Value.int IntKind.i64 v18] σ) fun v19 v20 =>
                        AM.asT v19 fun v21 =>
                          AM.uncons v21 fun v22 v23 =>
                            AM.asI IntKind.i64 v22 fun v24 =>
                              AM.uncons v23 fun v25 v26 =>
                                AM.endl v26
                                  (AM.eqNil v25 fun v27 =>
                                    AM.br v27
                                      (AM.br (decide (v24 < (0 : Int))) (some (Value.bool false, v20))
                                        (AM.br (decide (v24 ≥ s7)) (some (Value.bool false, v20))
                                          (AM.need (AM.inRange v24 (↑s6n : Int))
                                            (AM.adr s6 fun v28 v29 =>
                                              AM.St.ld v20 v28 (v29 + Int.toNat v24 * (1 : Nat)) fun v30 =>
                                                AM.asI IntKind.i64 v30 fun v31 =>
                                                  AM.need (AM.inRange v24 (↑s6n : Int))
                                                    (AM.adr s6 fun v32 v33 =>
                                                      AM.St.put v20 v32 (v33 + Int.toNat v24 * (1 : Nat)) [Value.int IntKind.i64 (IntKind.wrap IntKind.i64 (v31 - (1 : Int)))] fun v34 =>
                                                        AM.lpAt Proofs.Try.prog AM.Lk.env L k (3 : Nat) [true, true, true, true, true, true, false, true] [] n
                                                          [((0 : Nat), Value.slice s0 s0n s0z), ((3 : Nat), Value.pointer (some { block := s3, off := o3 })), ((4 : Nat), Value.int IntKind.i64 s4),
                                                            ((5 : Nat), Value.int IntKind.i64 (IntKind.wrap IntKind.i64 (s5 + (1 : Int)))), ((6 : Nat), Value.slice s6 s6n s6z), ((7 : Nat), Value.int IntKind.i64 s7),
                                                            ((22 : Nat), Value.int IntKind.i64 s22), ((23 : Nat), Value.int IntKind.i64 (IntKind.wrap IntKind.i64 (s23 + (1 : Int))))]
                                                          v34)))))
                                      (AM.lpAt Proofs.Try.prog AM.Lk.env L k (3 : Nat) [true, true, true, true, true, true, false, true] [] n
                                        [((0 : Nat), Value.slice s0 s0n s0z), ((3 : Nat), Value.pointer (some { block := s3, off := o3 })), ((4 : Nat), Value.int IntKind.i64 s4), ((5 : Nat), Value.int IntKind.i64 s5),
                                          ((6 : Nat), Value.slice s6 s6n s6z), ((7 : Nat), Value.int IntKind.i64 s7), ((22 : Nat), Value.int IntKind.i64 s22), ((23 : Nat), Value.int IntKind.i64 (IntKind.wrap IntKind.i64 (s23 + (1 : Int))))]
                                        v20))))
              (AM.br (v4 == (3 : Int))
                (AM.need (AM.inRange s23 (↑s0n : Int))
                  (AM.adr s0 fun v35 v36 =>
                    AM.St.ld σ v35 (v36 + Int.toNat s23 * (4 : Nat) + (1 : Nat)) fun v37 =>
                      AM.asI IntKind.i64 v37 fun v38 =>
                        AM.bnd (AM.evCall Proofs.Try.prog AM.Lk.env L k (10 : Nat) [Value.pointer (some { block := s3, off := o3 }), Value.int IntKind.i64 v38] σ) fun v39 v40 =>
                          AM.eqNil v39 fun v41 =>
                            AM.br v41
                              (AM.lpAt Proofs.Try.prog AM.Lk.env L k (3 : Nat) [true, true, true, true, true, true, false, true] [] n
                                [((0 : Nat), Value.slice s0 s0n s0z), ((3 : Nat), Value.pointer (some { block := s3, off := o3 })), ((4 : Nat), Value.int IntKind.i64 (IntKind.wrap IntKind.i64 (s4 + (1 : Int)))),
                                  ((5 : Nat), Value.int IntKind.i64 s5), ((6 : Nat), Value.slice s6 s6n s6z), ((7 : Nat), Value.int IntKind.i64 s7), ((22 : Nat), Value.int IntKind.i64 s22),
                                  ((23 : Nat), Value.int IntKind.i64 (IntKind.wrap IntKind.i64 (s23 + (1 : Int))))]
                                v40)
                              (AM.lpAt Proofs.Try.prog AM.Lk.env L k (3 : Nat) [true, true, true, true, true, true, false, true] [] n
                                [((0 : Nat), Value.slice s0 s0n s0z), ((3 : Nat), Value.pointer (some { block := s3, off := o3 })), ((4 : Nat), Value.int IntKind.i64 s4), ((5 : Nat), Value.int IntKind.i64 s5),
                                  ((6 : Nat), Value.slice s6 s6n s6z), ((7 : Nat), Value.int IntKind.i64 s7), ((22 : Nat), Value.int IntKind.i64 s22), ((23 : Nat), Value.int IntKind.i64 (IntKind.wrap IntKind.i64 (s23 + (1 : Int))))]
                                v40)))
                (AM.br (v4 == (4 : Int))
                  (AM.need (AM.inRange s23 (↑s0n : Int))
                    (AM.adr s0 fun v42 v43 =>
                      AM.St.ld σ v42 (v43 + Int.toNat s23 * (4 : Nat) + (1 : Nat)) fun v44 =>
                        AM.asI IntKind.i64 v44 fun v45 =>
                          AM.bnd (AM.evCall Proofs.Try.prog AM.Lk.env L k (11 : Nat) [Value.pointer (some { block := s3, off := o3 }), Value.int IntKind.i64 v45] σ) fun v46 v47 =>
                            AM.eqNil v46 fun v48 =>
                              AM.br v48
                                (AM.lpAt Proofs.Try.prog AM.Lk.env L k (3 : Nat) [true, true, true, true, true, true, false, true] [] n
                                  [((0 : Nat), Value.slice s0 s0n s0z), ((3 : Nat), Value.pointer (some { block := s3, off := o3 })), ((4 : Nat), Value.int IntKind.i64 s4),
                                    ((5 : Nat), Value.int IntKind.i64 (IntKind.wrap IntKind.i64 (s5 + (1 : Int)))), ((6 : Nat), Value.slice s6 s6n s6z), ((7 : Nat), Value.int IntKind.i64 s7), ((22 : Nat), Value.int IntKind.i64 s22),
                                    ((23 : Nat), Value.int IntKind.i64 (IntKind.wrap IntKind.i64 (s23 + (1 : Int))))]
                                  v47)
                                (AM.lpAt Proofs.Try.prog AM.Lk.env L k (3 : Nat) [true, true, true, true, true, true, false, true] [] n
                                  [((0 : Nat), Value.slice s0 s0n s0z), ((3 : Nat), Value.pointer (some { block := s3, off := o3 })), ((4 : Nat), Value.int IntKind.i64 s4), ((5 : Nat), Value.int IntKind.i64 s5),
                                    ((6 : Nat), Value.slice s6 s6n s6z), ((7 : Nat), Value.int IntKind.i64 s7), ((22 : Nat), Value.int IntKind.i64 s22), ((23 : Nat), Value.int IntKind.i64 (IntKind.wrap IntKind.i64 (s23 + (1 : Int))))]
                                  v47)))
                  (AM.lpAt Proofs.Try.prog AM.Lk.env L k (3 : Nat) [true, true, true, true, true, true, false, true] [] n
                    [((0 : Nat), Value.slice s0 s0n s0z), ((3 : Nat), Value.pointer (some { block := s3, off := o3 })), ((4 : Nat), Value.int IntKind.i64 s4), ((5 : Nat), Value.int IntKind.i64 s5), ((6 : Nat), Value.slice s6 s6n s6z),
                      ((7 : Nat), Value.int IntKind.i64 s7), ((22 : Nat), Value.int IntKind.i64 s22), ((23 : Nat), Value.int IntKind.i64 (IntKind.wrap IntKind.i64 (s23 + (1 : Int))))]
                    σ))))))
  (AM.bnd (AM.evCall Proofs.Try.prog AM.Lk.env L k (12 : Nat) [Value.pointer (some { block := s3, off := o3 })] σ) fun v49 v50 => AM.asI IntKind.i64 v49 fun v51 => some (Value.bool (v51 == IntKind.wrap IntKind.i64 (s4 - s5)), v50)) := by kernel_rfl
/-! isobar/isobarlaw10.LinkDoubles: 4; parameters [l, many] -/
theorem f4_eq (L k : Nat) (σ : St) (a0 : Option Addr) (a0n a0z : Nat) (a1 : Int) : evCall Go.Proofs.Try.prog Go.AM.Lk.env L (k + 1) 4 [.slice a0 a0n a0z, .int .u8 a1] σ =
    AM.bnd (AM.evCall Proofs.Try.prog AM.Lk.env L k (5 : Nat) [] σ) fun v1 v2 =>
  AM.asB v1 fun v3 =>
    AM.br (!v3) (AM.bnd (AM.evCall Proofs.Try.prog AM.Lk.env L k (5 : Nat) [] v2) fun v4 v5 => AM.asB v4 fun v6 => some (Value.bool v6, v5))
      (AM.br (decide ((↑a0n : Int) > (100 : Int))) (AM.bnd (AM.evCall Proofs.Try.prog AM.Lk.env L k (5 : Nat) [] v2) fun v7 v8 => AM.asB v7 fun v9 => some (Value.bool v9, v8))
        (AM.bnd (AM.evCall Proofs.Try.prog AM.Lk.env L k (7 : Nat) [Value.int IntKind.i64 (4096 : Int)] v2) fun v10 v11 =>
          AM.asP v10 fun v12 =>
            AM.need
              (decide ((0 : Int) ≤ IntKind.wrap IntKind.i64 ((1 : Int) + Int.tmod (IntKind.wrap IntKind.i64 a1) (9 : Int))) &&
                        decide (IntKind.wrap IntKind.i64 ((1 : Int) + Int.tmod (IntKind.wrap IntKind.i64 a1) (9 : Int)) ≤ IntKind.wrap IntKind.i64 ((1 : Int) + Int.tmod (IntKind.wrap IntKind.i64 a1) (9 : Int))) &&
                      decide (Int.toNat (IntKind.wrap IntKind.i64 ((1 : Int) + Int.tmod (IntKind.wrap IntKind.i64 a1) (9 : Int))) * (8 : Nat) ≤ (140737488355328 : Nat)) &&
                    decide (IntKind.wrap IntKind.i64 ((1 : Int) + Int.tmod (IntKind.wrap IntKind.i64 a1) (9 : Int)) ≤ (4611686018427387904 : Int)) &&
                  true &&
                true)
              (AM.lpAt Proofs.Try.prog AM.Lk.env L k (4 : Nat) [true, true, true, true, true, false, true] [] L
                [((0 : Nat), Value.slice a0 a0n a0z), ((5 : Nat), Value.int IntKind.i64 (IntKind.wrap IntKind.i64 ((1 : Int) + Int.tmod (IntKind.wrap IntKind.i64 a1) (9 : Int)))), ((6 : Nat), Value.pointer v12),
                  ((7 : Nat), Value.slice (some { block := AM.St.next v11, off := (0 : Nat) }) (Int.toNat (IntKind.wrap IntKind.i64 ((1 : Int) + Int.tmod (IntKind.wrap IntKind.i64 a1) (9 : Int)))) (1 : Nat)),
                  ((31 : Nat), Value.int IntKind.i64 (IntKind.wrap IntKind.i64 ((1 : Int) + Int.tmod (IntKind.wrap IntKind.i64 a1) (9 : Int)))), ((32 : Nat), Value.int IntKind.i64 (0 : Int))]
                (AM.St.new v11 (AM.Blk.own (AM.zerosN [Value.int IntKind.i64 (0 : Int)] (Int.toNat (IntKind.wrap IntKind.i64 ((1 : Int) + Int.tmod (IntKind.wrap IntKind.i64 a1) (9 : Int))))) (3 : Nat)))))) := by kernel_rfl
theorem f4_l7 (L k n : Nat) (σ : St) (s0 : Option Addr) (s0n s0z : Nat) (s5 : Int) (s6 o6 : Nat) (s7 : Option Addr) (s7n s7z : Nat) (s31 : Int) (s32 : Int) : lpAt Go.Proofs.Try.prog Go.AM.Lk.env L k 4 [true, true, true, true, true, false, true] [] (n + 1) [(0, .slice s0 s0n s0z), (5, .int .i64 s5), (6, .pointer (some ⟨s6, o6, none⟩)), (7, .slice s7 s7n s7z), (31, .int .i64 s31), (32, .int .i64 s32)] σ =
    AM.br (decide (s32 < s31))
  (AM.bnd (AM.evCall Proofs.Try.prog AM.Lk.env L k (8 : Nat) [Value.pointer (some { block := s6, off := o6 }), Value.int IntKind.i64 s32] σ) fun v1 v2 =>
    AM.eqNil v1 fun v3 =>
      AM.br (!v3) (some (Value.bool false, v2))
        (AM.need (AM.inRange s32 (↑s7n : Int))
          (AM.adr s7 fun v4 v5 =>
            AM.St.put v2 v4 (v5 + Int.toNat s32 * (1 : Nat)) [Value.int IntKind.i64 (1 : Int)] fun v6 =>
              AM.lpAt Proofs.Try.prog AM.Lk.env L k (4 : Nat) [true, true, true, true, true, false, true] [] n
                [((0 : Nat), Value.slice s0 s0n s0z), ((5 : Nat), Value.int IntKind.i64 s5), ((6 : Nat), Value.pointer (some { block := s6, off := o6 })), ((7 : Nat), Value.slice s7 s7n s7z), ((31 : Nat), Value.int IntKind.i64 s31),
                  ((32 : Nat), Value.int IntKind.i64 (IntKind.wrap IntKind.i64 (s32 + (1 : Int))))]
                v6)))
  (AM.lpAt Proofs.Try.prog AM.Lk.env L k (4 : Nat) [true, true, true, true, true, true, true, false, true] [] L
    [((0 : Nat), Value.slice s0 s0n s0z), ((5 : Nat), Value.int IntKind.i64 s5), ((6 : Nat), Value.pointer (some { block := s6, off := o6 })), ((7 : Nat), Value.slice s7 s7n s7z), ((9 : Nat), Value.slice none (0 : Nat) (0 : Nat)),
      ((43 : Nat), Value.int IntKind.i64 s5), ((44 : Nat), Value.int IntKind.i64 (0 : Int))]
    σ) := by kernel_rfl
theorem f4_l15 (L k n : Nat) (σ : St) (s0 : Option Addr) (s0n s0z : Nat) (s5 : Int) (s6 o6 : Nat) (s7 : Option Addr) (s7n s7z : Nat) (s9 : Option Addr) (s9n s9z : Nat) (s43 : Int) (s44 : Int) : lpAt Go.Proofs.Try.prog Go.AM.Lk.env L k 4 [true, true, true, true, true, true, true, false, true] [] (n + 1) [(0, .slice s0 s0n s0z), (5, .int .i64 s5), (6, .pointer (some ⟨s6, o6, none⟩)), (7, .slice s7 s7n s7z), (9, .slice s9 s9n s9z), (43, .int .i64 s43), (44, .int .i64 s44)] σ =
    AM.br (decide (s44 < s43))
  (AM.St.row (AM.St.new σ (AM.Blk.own [Value.int IntKind.i64 s44] (3 : Nat))) (some { block := AM.St.next σ, off := (0 : Nat) }) (1 : Nat) fun v1 =>
    AM.grow (3 : Nat) (1 : Nat) (8 : Nat) s9 s9n s9z (1 : Nat) v1 (AM.St.new σ (AM.Blk.own [Value.int IntKind.i64 s44] (3 : Nat))) fun v2 v3 v4 v5 =>
      AM.lpAt Proofs.Try.prog AM.Lk.env L k (4 : Nat) [true, true, true, true, true, true, true, false, true] [] n
        [((0 : Nat), Value.slice s0 s0n s0z), ((5 : Nat), Value.int IntKind.i64 s5), ((6 : Nat), Value.pointer (some { block := s6, off := o6 })), ((7 : Nat), Value.slice s7 s7n s7z), ((9 : Nat), Value.slice v2 v3 v4),
          ((43 : Nat), Value.int IntKind.i64 s43), ((44 : Nat), Value.int IntKind.i64 (IntKind.wrap IntKind.i64 (s44 + (1 : Int))))]
        v5)
  (AM.lpAt Proofs.Try.prog AM.Lk.env L k (4 : Nat) [true, true, true, true, true, true, true, true, false, true] [] L
    [((0 : Nat), Value.slice s0 s0n s0z), ((5 : Nat), Value.int IntKind.i64 s5), ((6 : Nat), Value.pointer (some { block := s6, off := o6 })), ((7 : Nat), Value.slice s7 s7n s7z), ((9 : Nat), Value.slice s9 s9n s9z),
      ((53 : Nat), Value.int IntKind.i64 (↑s0n : Int)), ((54 : Nat), Value.int IntKind.i64 (0 : Int))]
    σ) := by kernel_rfl
theorem f4_l20 (L k n : Nat) (σ : St) (s0 : Option Addr) (s0n s0z : Nat) (s5 : Int) (s6 o6 : Nat) (s7 : Option Addr) (s7n s7z : Nat) (s9 : Option Addr) (s9n s9z : Nat) (s53 : Int) (s54 : Int) : lpAt Go.Proofs.Try.prog Go.AM.Lk.env L k 4 [true, true, true, true, true, true, true, true, false, true] [] (n + 1) [(0, .slice s0 s0n s0z), (5, .int .i64 s5), (6, .pointer (some ⟨s6, o6, none⟩)), (7, .slice s7 s7n s7z), (9, .slice s9 s9n s9z), (53, .int .i64 s53), (54, .int .i64 s54)] σ =
    AM.br (decide (s54 < s53))
  (AM.need (AM.inRange s54 (↑s0n : Int))
    (AM.adr s0 fun v1 v2 =>
      AM.St.ld σ v1 (v2 + Int.toNat s54 * (1 : Nat)) fun v3 =>
        AM.asI IntKind.u8 v3 fun v4 =>
          AM.need ((↑s9n : Int) != (0 : Int))
            (AM.need (AM.inRange s54 (↑s0n : Int))
              (AM.adr s0 fun v5 v6 =>
                AM.St.ld σ v5 (v6 + Int.toNat s54 * (1 : Nat)) fun v7 =>
                  AM.asI IntKind.u8 v7 fun v8 =>
                    AM.br (Int.tmod v8 (2 : Int) == (0 : Int))
                      (AM.need (AM.inRange (Int.tmod (IntKind.wrap IntKind.i64 (Int.tdiv (IntKind.wrap IntKind.i64 v4) (2 : Int))) (↑s9n : Int)) (↑s9n : Int))
                        (AM.adr s9 fun v9 v10 =>
                          AM.St.ld σ v9 (v10 + Int.toNat (Int.tmod (IntKind.wrap IntKind.i64 (Int.tdiv (IntKind.wrap IntKind.i64 v4) (2 : Int))) (↑s9n : Int)) * (1 : Nat)) fun v11 =>
                            AM.asI IntKind.i64 v11 fun v12 =>
                              AM.St.row (AM.St.new σ (AM.Blk.own [Value.int IntKind.i64 v12] (3 : Nat))) (some { block := AM.St.next σ, off := (0 : Nat) }) (1 : Nat) fun v13 =>
                                AM.grow (3 : Nat) (1 : Nat) (8 : Nat) s9 s9n s9z (1 : Nat) v13 (AM.St.new σ (AM.Blk.own [Value.int IntKind.i64 v12] (3 : Nat))) fun v14 v15 v16 v17 =>
                                  AM.need (AM.inRange (Int.tmod (IntKind.wrap IntKind.i64 (Int.tdiv (IntKind.wrap IntKind.i64 v4) (2 : Int))) (↑s9n : Int)) (↑v15 : Int))
                                    (AM.adr v14 fun v18 v19 =>
                                      AM.St.ld v17 v18 (v19 + Int.toNat (Int.tmod (IntKind.wrap IntKind.i64 (Int.tdiv (IntKind.wrap IntKind.i64 v4) (2 : Int))) (↑s9n : Int)) * (1 : Nat)) fun v20 =>
                                        AM.asI IntKind.i64 v20 fun v21 =>
                                          AM.need (AM.inRange v21 (↑s7n : Int))
                                            (AM.adr s7 fun v22 v23 =>
                                              AM.St.ld v17 v22 (v23 + Int.toNat v21 * (1 : Nat)) fun v24 =>
                                                AM.asI IntKind.i64 v24 fun v25 =>
                                                  AM.need (AM.inRange v21 (↑s7n : Int))
                                                    (AM.adr s7 fun v26 v27 =>
                                                      AM.St.put v17 v26 (v27 + Int.toNat v21 * (1 : Nat)) [Value.int IntKind.i64 (IntKind.wrap IntKind.i64 (v25 + (1 : Int)))] fun v28 =>
                                                        AM.bnd
                                                          (AM.evCall Proofs.Try.prog AM.Lk.env L k (10 : Nat)
                                                            [Value.pointer (some { block := s6, off := o6 }), Value.int IntKind.i64 (Int.tmod (IntKind.wrap IntKind.i64 (Int.tdiv (IntKind.wrap IntKind.i64 v4) (2 : Int))) (↑s9n : Int))] v28)
                                                          fun v29 v30 =>
                                                          AM.eqNil v29 fun v31 =>
                                                            AM.br (!v31) (some (Value.bool false, v30))
                                                              (AM.lpAt Proofs.Try.prog AM.Lk.env L k (4 : Nat) [true, true, true, true, true, true, true, true, false, true] [] n
                                                                [((0 : Nat), Value.slice s0 s0n s0z), ((5 : Nat), Value.int IntKind.i64 s5), ((6 : Nat), Value.pointer (some { block := s6, off := o6 })), ((7 : Nat), Value.slice s7 s7n s7z),
                                                                  ((9 : Nat), Value.slice v14 v15 v16), ((53 : Nat), Value.int IntKind.i64 s53), ((54 : Nat), Value.int IntKind.i64 (IntKind.wrap IntKind.i64 (s54 + (1 : Int))))]
                                                                v30))))))
                      (AM.br (decide ((↑s9n : Int) > (1 : Int)))
                        (AM.need (AM.inRange (Int.tmod (IntKind.wrap IntKind.i64 (Int.tdiv (IntKind.wrap IntKind.i64 v4) (2 : Int))) (↑s9n : Int)) (↑s9n : Int))
                          (AM.adr s9 fun v32 v33 =>
                            AM.St.ld σ v32 (v33 + Int.toNat (Int.tmod (IntKind.wrap IntKind.i64 (Int.tdiv (IntKind.wrap IntKind.i64 v4) (2 : Int))) (↑s9n : Int)) * (1 : Nat)) fun v34 =>
                              AM.asI IntKind.i64 v34 fun v35 =>
                                AM.need (AM.inRange v35 (↑s7n : Int))
                                  (AM.adr s7 fun v36 v37 =>
                                    AM.St.ld σ v36 (v37 + Int.toNat v35 * (1 : Nat)) fun v38 =>
                                      AM.asI IntKind.i64 v38 fun v39 =>
                                        AM.need (AM.inRange v35 (↑s7n : Int))
                                          (AM.adr s7 fun v40 v41 =>
                                            AM.St.put σ v40 (v41 + Int.toNat v35 * (1 : Nat)) [Value.int IntKind.i64 (IntKind.wrap IntKind.i64 (v39 - (1 : Int)))] fun v42 =>
                                              AM.need (Nat.beq s9z (0 : Nat) || Nat.beq s9z (1 : Nat))
                                                (AM.need (AM.inRange (Int.tmod (IntKind.wrap IntKind.i64 (Int.tdiv (IntKind.wrap IntKind.i64 v4) (2 : Int))) (↑s9n : Int)) ((↑s9n : Int) + (1 : Int)))
                                                  (AM.St.row (AM.St.new v42 (AM.Blk.own [] (3 : Nat))) (AM.subA s9 (0 : Nat))
                                                    ((Int.toNat (Int.tmod (IntKind.wrap IntKind.i64 (Int.tdiv (IntKind.wrap IntKind.i64 v4) (2 : Int))) (↑s9n : Int)) - (0 : Nat)) * (1 : Nat)) fun v43 =>
                                                    AM.grow (3 : Nat) (1 : Nat) (8 : Nat) (some { block := AM.St.next v42, off := (0 : Nat) }) (0 : Nat) (1 : Nat)
                                                      (Int.toNat (Int.tmod (IntKind.wrap IntKind.i64 (Int.tdiv (IntKind.wrap IntKind.i64 v4) (2 : Int))) (↑s9n : Int)) - (0 : Nat)) v43 (AM.St.new v42 (AM.Blk.own [] (3 : Nat)))
                                                      fun v44 v45 v46 v47 =>
                                                      AM.need (Nat.beq s9z (0 : Nat) || Nat.beq s9z (1 : Nat))
                                                        (AM.need
                                                          (AM.inRange (IntKind.wrap IntKind.i64 (Int.tmod (IntKind.wrap IntKind.i64 (Int.tdiv (IntKind.wrap IntKind.i64 v4) (2 : Int))) (↑s9n : Int) + (1 : Int))) ((↑s9n : Int) + (1 : Int)))
                                                          (AM.St.row v47
                                                            (AM.subA s9 (Int.toNat (IntKind.wrap IntKind.i64 (Int.tmod (IntKind.wrap IntKind.i64 (Int.tdiv (IntKind.wrap IntKind.i64 v4) (2 : Int))) (↑s9n : Int) + (1 : Int))) * (1 : Nat)))
                                                            ((s9n - Int.toNat (IntKind.wrap IntKind.i64 (Int.tmod (IntKind.wrap IntKind.i64 (Int.tdiv (IntKind.wrap IntKind.i64 v4) (2 : Int))) (↑s9n : Int) + (1 : Int)))) * (1 : Nat))
                                                            fun v48 =>
                                                            AM.grow (3 : Nat) (1 : Nat) (8 : Nat) v44 v45 v46
                                                              (s9n - Int.toNat (IntKind.wrap IntKind.i64 (Int.tmod (IntKind.wrap IntKind.i64 (Int.tdiv (IntKind.wrap IntKind.i64 v4) (2 : Int))) (↑s9n : Int) + (1 : Int)))) v48 v47
                                                              fun v49 v50 v51 v52 =>
                                                              AM.bnd
                                                                (AM.evCall Proofs.Try.prog AM.Lk.env L k (11 : Nat)
                                                                  [Value.pointer (some { block := s6, off := o6 }), Value.int IntKind.i64 (Int.tmod (IntKind.wrap IntKind.i64 (Int.tdiv (IntKind.wrap IntKind.i64 v4) (2 : Int))) (↑s9n : Int))]
                                                                  v52)
                                                                fun v53 v54 =>
                                                                AM.eqNil v53 fun v55 =>
                                                                  AM.br (!v55) (some (Value.bool false, v54))
                                                                    (AM.lpAt Proofs.Try.prog AM.Lk.env L k (4 : Nat) [true, true, true, true, true, true, true, true, false, true] [] n
                                                                      [((0 : Nat), Value.slice s0 s0n s0z), ((5 : Nat), Value.int IntKind.i64 s5), ((6 : Nat), Value.pointer (some { block := s6, off := o6 })),
                                                                        ((7 : Nat), Value.slice s7 s7n s7z), ((9 : Nat), Value.slice v49 v50 v51), ((53 : Nat), Value.int IntKind.i64 s53),
                                                                        ((54 : Nat), Value.int IntKind.i64 (IntKind.wrap IntKind.i64 (s54 + (1 : Int))))]
                                                                      v54)))))))))
                        (AM.lpAt Proofs.Try.prog AM.Lk.env L k (4 : Nat) [true, true, true, true, true, true, true, true, false, true] [] n
                          [((0 : Nat), Value.slice s0 s0n s0z), ((5 : Nat), Value.int IntKind.i64 s5), ((6 : Nat), Value.pointer (some { block := s6, off := o6 })), ((7 : Nat), Value.slice s7 s7n s7z), ((9 : Nat), Value.slice s9 s9n s9z),
                            ((53 : Nat), Value.int IntKind.i64 s53), ((54 : Nat), Value.int IntKind.i64 (IntKind.wrap IntKind.i64 (s54 + (1 : Int))))]
                          σ))))))
  (AM.lpAt Proofs.Try.prog AM.Lk.env L k (4 : Nat) [true, true, true, true, true, true, true, true, true, false, true] [] L
    [((5 : Nat), Value.int IntKind.i64 s5), ((6 : Nat), Value.pointer (some { block := s6, off := o6 })), ((7 : Nat), Value.slice s7 s7n s7z), ((120 : Nat), Value.int IntKind.i64 (↑s9n : Int)),
      ((121 : Nat), Value.int IntKind.i64 (0 : Int))]
    σ) := by kernel_rfl
theorem f4_l35 (L k n : Nat) (σ : St) (s5 : Int) (s6 o6 : Nat) (s7 : Option Addr) (s7n s7z : Nat) (s120 : Int) (s121 : Int) : lpAt Go.Proofs.Try.prog Go.AM.Lk.env L k 4 [true, true, true, true, true, true, true, true, true, false, true] [] (n + 1) [(5, .int .i64 s5), (6, .pointer (some ⟨s6, o6, none⟩)), (7, .slice s7 s7n s7z), (120, .int .i64 s120), (121, .int .i64 s121)] σ =
    AM.br (decide (s121 < s120))
  (AM.bnd (AM.evCall Proofs.Try.prog AM.Lk.env L k (9 : Nat) [Value.pointer (some { block := s6, off := o6 }), Value.int IntKind.i64 (0 : Int)] σ) fun v1 v2 =>
    AM.asT v1 fun v3 =>
      AM.uncons v3 fun v4 v5 =>
        AM.asI IntKind.i64 v4 fun v6 =>
          AM.uncons v5 fun v7 v8 =>
            AM.endl v8
              (AM.eqNil v7 fun v9 =>
                AM.br (!v9) (some (Value.bool false, v2))
                  (AM.br (decide (v6 < (0 : Int))) (some (Value.bool false, v2))
                    (AM.br (decide (v6 ≥ s5)) (some (Value.bool false, v2))
                      (AM.need (AM.inRange v6 (↑s7n : Int))
                        (AM.adr s7 fun v10 v11 =>
                          AM.St.ld v2 v10 (v11 + Int.toNat v6 * (1 : Nat)) fun v12 =>
                            AM.asI IntKind.i64 v12 fun v13 =>
                              AM.need (AM.inRange v6 (↑s7n : Int))
                                (AM.adr s7 fun v14 v15 =>
                                  AM.St.put v2 v14 (v15 + Int.toNat v6 * (1 : Nat)) [Value.int IntKind.i64 (IntKind.wrap IntKind.i64 (v13 - (1 : Int)))] fun v16 =>
                                    AM.lpAt Proofs.Try.prog AM.Lk.env L k (4 : Nat) [true, true, true, true, true, true, true, true, true, false, true] [] n
                                      [((5 : Nat), Value.int IntKind.i64 s5), ((6 : Nat), Value.pointer (some { block := s6, off := o6 })), ((7 : Nat), Value.slice s7 s7n s7z), ((120 : Nat), Value.int IntKind.i64 s120),
                                        ((121 : Nat), Value.int IntKind.i64 (IntKind.wrap IntKind.i64 (s121 + (1 : Int))))]
                                      v16)))))))
  (AM.lpAt Proofs.Try.prog AM.Lk.env L k (4 : Nat) [true, true, true, true, true, true, true, true, true, true, false, true] [] L
    [((6 : Nat), Value.pointer (some { block := s6, off := o6 })), ((7 : Nat), Value.slice s7 s7n s7z), ((147 : Nat), Value.int IntKind.i64 (↑s7n : Int)), ((148 : Nat), Value.int IntKind.i64 (0 : Int))] σ) := by kernel_rfl
theorem f4_l42 (L k n : Nat) (σ : St) (s6 o6 : Nat) (s7 : Option Addr) (s7n s7z : Nat) (s147 : Int) (s148 : Int) : lpAt Go.Proofs.Try.prog Go.AM.Lk.env L k 4 [true, true, true, true, true, true, true, true, true, true, false, true] [] (n + 1) [(6, .pointer (some ⟨s6, o6, none⟩)), (7, .slice s7 s7n s7z), (147, .int .i64 s147), (148, .int .i64 s148)] σ =
    AM.br (decide (s148 < s147))
  (AM.need (AM.inRange s148 (↑s7n : Int))
    (AM.adr s7 fun v1 v2 =>
      AM.St.ld σ v1 (v2 + Int.toNat s148 * (1 : Nat)) fun v3 =>
        AM.asI IntKind.i64 v3 fun v4 =>
          AM.br (v4 != (0 : Int)) (some (Value.bool false, σ))
            (AM.lpAt Proofs.Try.prog AM.Lk.env L k (4 : Nat) [true, true, true, true, true, true, true, true, true, true, false, true] [] n
              [((6 : Nat), Value.pointer (some { block := s6, off := o6 })), ((7 : Nat), Value.slice s7 s7n s7z), ((147 : Nat), Value.int IntKind.i64 s147), ((148 : Nat), Value.int IntKind.i64 (IntKind.wrap IntKind.i64 (s148 + (1 : Int))))]
              σ)))
  (AM.bnd (AM.evCall Proofs.Try.prog AM.Lk.env L k (12 : Nat) [Value.pointer (some { block := s6, off := o6 })] σ) fun v5 v6 => AM.asI IntKind.i64 v5 fun v7 => some (Value.bool (v7 == (0 : Int)), v6)) := by kernel_rfl
/-! isobar/isobarlaw10.awake: 5; parameters [] -/
theorem f5_eq (L k : Nat) (σ : St)  : evCall Go.Proofs.Try.prog Go.AM.Lk.env L (k + 1) 5 [] σ =
    AM.bnd (AM.evCall Proofs.Try.prog AM.Lk.env L k (7 : Nat) [Value.int IntKind.i64 (2 : Int)] σ) fun v1 v2 =>
  AM.asP v1 fun v3 =>
    AM.br (Option.isNone v3) (some (Value.bool false, v2))
      (AM.bnd (AM.evCall Proofs.Try.prog AM.Lk.env L k (8 : Nat) [Value.pointer v3, Value.int IntKind.i64 (7 : Int)] v2) fun v4 v5 =>
        AM.eqNil v4 fun v6 =>
          AM.br (!v6) (some (Value.bool false, v5))
            (AM.bnd (AM.evCall Proofs.Try.prog AM.Lk.env L k (10 : Nat) [Value.pointer v3, Value.int IntKind.i64 (0 : Int)] v5) fun v7 v8 =>
              AM.eqNil v7 fun v9 =>
                AM.br (!v9) (some (Value.bool false, v8))
                  (AM.bnd (AM.evCall Proofs.Try.prog AM.Lk.env L k (12 : Nat) [Value.pointer v3] v8) fun v10 v11 =>
                    AM.asI IntKind.i64 v10 fun v12 =>
                      AM.br (v12 != (2 : Int)) (some (Value.bool false, v11))
                        (AM.bnd (AM.evCall Proofs.Try.prog AM.Lk.env L k (9 : Nat) [Value.pointer v3, Value.int IntKind.i64 (1 : Int)] v11) fun v13 v14 =>
                          AM.asT v13 fun v15 =>
                            AM.uncons v15 fun v16 v17 =>
                              AM.asI IntKind.i64 v16 fun v18 =>
                                AM.uncons v17 fun v19 v20 =>
                                  AM.endl v20
                                    (AM.br (v18 == (7 : Int))
                                      (AM.eqNil v19 fun v21 =>
                                        AM.br v21 (AM.bnd (AM.evCall Proofs.Try.prog AM.Lk.env L k (12 : Nat) [Value.pointer v3] v14) fun v22 v23 => AM.asI IntKind.i64 v22 fun v24 => some (Value.bool (v24 == (1 : Int)), v23))
                                          (some (Value.bool false, v14)))
                                      (some (Value.bool false, v14))))))) := by kernel_rfl
/-! isobar/isobarlaw10.few: 6; parameters [l] -/
theorem f6_eq (L k : Nat) (σ : St) (a0 : Option Addr) (a0n a0z : Nat) : evCall Go.Proofs.Try.prog Go.AM.Lk.env L (k + 1) 6 [.slice a0 a0n a0z] σ =
    AM.br (decide ((↑a0n : Int) > (300 : Int))) (some (Value.bool false, σ))
  (AM.lpAt Proofs.Try.prog AM.Lk.env L k (6 : Nat) [true, true, false, true] [] L [((0 : Nat), Value.slice a0 a0n a0z), ((8 : Nat), Value.int IntKind.i64 (↑a0n : Int)), ((9 : Nat), Value.int IntKind.i64 (0 : Int))] σ) := by kernel_rfl
theorem f6_l4 (L k n : Nat) (σ : St) (s0 : Option Addr) (s0n s0z : Nat) (s8 : Int) (s9 : Int) : lpAt Go.Proofs.Try.prog Go.AM.Lk.env L k 6 [true, true, false, true] [] (n + 1) [(0, .slice s0 s0n s0z), (8, .int .i64 s8), (9, .int .i64 s9)] σ =
    AM.br (decide (s9 < s8))
  (AM.need (AM.inRange s9 (↑s0n : Int))
    (AM.adr s0 fun v1 v2 =>
      AM.St.ld σ v1 (v2 + Int.toNat s9 * (4 : Nat) + (2 : Nat)) fun v3 =>
        AM.asS v3 fun v4 =>
          AM.br (decide ((↑(ByteArray.size v4) : Int) > (100 : Int))) (some (Value.bool false, σ))
            (AM.lpAt Proofs.Try.prog AM.Lk.env L k (6 : Nat) [true, true, false, true] [] n
              [((0 : Nat), Value.slice s0 s0n s0z), ((8 : Nat), Value.int IntKind.i64 s8), ((9 : Nat), Value.int IntKind.i64 (IntKind.wrap IntKind.i64 (s9 + (1 : Int))))] σ)))
  (some (Value.bool true, σ)) := by kernel_rfl
/-! isobar/link.New[int]: 7; parameters [room] -/
theorem f7_eq (L k : Nat) (σ : St) (a0 : Int) : evCall Go.Proofs.Try.prog Go.AM.Lk.env L (k + 1) 7 [.int .i64 a0] σ =
    some (Value.pointer (some { block := AM.St.next σ, off := (0 : Nat) }), AM.St.new σ (AM.Blk.own [Value.slice none (0 : Nat) (0 : Nat), Value.int IntKind.i64 (AM.mx (0 : Int) (AM.mn a0 (4096 : Int))), Value.bool false] (39 : Nat))) := by kernel_rfl
/-! (*isobar/link.Link[int]).Send: 8; parameters [l, x] -/
theorem f8_eq (L k : Nat) (σ : St) (a0 : Nat) (a1 : Int) : evCall Go.Proofs.Try.prog Go.AM.Lk.env L (k + 1) 8 [.pointer (some ⟨a0, 0, none⟩), .int .i64 a1] σ =
    AM.St.ld σ a0 (0 : Nat) fun v1 =>
  AM.asSl v1 fun v2 v3 v4 =>
    AM.bnd (AM.evCall Proofs.Try.prog AM.Lk.env L k (14 : Nat) [Value.pointer (some { block := a0, off := (0 : Nat) }), Value.int IntKind.i64 a1, Value.int IntKind.i64 (↑v3 : Int)] σ) fun v5 v6 => some (AM.pack [v5], v6) := by kernel_rfl
/-! (*isobar/link.Link[int]).Deliver: 9; parameters [l, i] -/
theorem f9_eq (L k : Nat) (σ : St) (a0 : Nat) (a1 : Int) : evCall Go.Proofs.Try.prog Go.AM.Lk.env L (k + 1) 9 [.pointer (some ⟨a0, 0, none⟩), .int .i64 a1] σ =
    AM.St.ld σ a0 (2 : Nat) fun v1 =>
  AM.asB v1 fun v2 =>
    AM.br v2 (AM.bnd (AM.evCall Proofs.Try.prog AM.Lk.env L k (13 : Nat) [Value.int IntKind.i64 a1, Value.int IntKind.i64 (11 : Int)] σ) fun v3 v4 => some (Value.tuple #[Value.int IntKind.i64 (0 : Int), v3], v4))
      (AM.bnd (AM.evCall Proofs.Try.prog AM.Lk.env L k (15 : Nat) [Value.pointer (some { block := a0, off := (0 : Nat) }), Value.int IntKind.i64 a1] σ) fun v5 v6 =>
        AM.eqNil v5 fun v7 =>
          AM.br (!v7) (some (Value.tuple #[Value.int IntKind.i64 (0 : Int), v5], v6))
            (AM.St.ld v6 a0 (0 : Nat) fun v8 =>
              AM.asSl v8 fun v9 v10 v11 =>
                AM.need (AM.inRange a1 (↑v10 : Int))
                  (AM.adr v9 fun v12 v13 =>
                    AM.St.ld v6 v12 (v13 + Int.toNat a1 * (1 : Nat)) fun v14 =>
                      AM.asI IntKind.i64 v14 fun v15 =>
                        AM.bnd (AM.evCall Proofs.Try.prog AM.Lk.env L k (11 : Nat) [Value.pointer (some { block := a0, off := (0 : Nat) }), Value.int IntKind.i64 a1] v6) fun v16 v17 =>
                          some (Value.tuple #[Value.int IntKind.i64 v15, v16], v17)))) := by kernel_rfl
/-! (*isobar/link.Link[int]).Double: 10; parameters [l, i] -/
theorem f10_eq (L k : Nat) (σ : St) (a0 : Nat) (a1 : Int) : evCall Go.Proofs.Try.prog Go.AM.Lk.env L (k + 1) 10 [.pointer (some ⟨a0, 0, none⟩), .int .i64 a1] σ =
    AM.bnd (AM.evCall Proofs.Try.prog AM.Lk.env L k (15 : Nat) [Value.pointer (some { block := a0, off := (0 : Nat) }), Value.int IntKind.i64 a1] σ) fun v1 v2 =>
  AM.eqNil v1 fun v3 =>
    AM.br (!v3) (some (AM.pack [v1], v2))
      (AM.St.ld v2 a0 (0 : Nat) fun v4 =>
        AM.asSl v4 fun v5 v6 v7 =>
          AM.need (AM.inRange a1 (↑v6 : Int))
            (AM.adr v5 fun v8 v9 =>
              AM.St.ld v2 v8 (v9 + Int.toNat a1 * (1 : Nat)) fun v10 =>
                AM.asI IntKind.i64 v10 fun v11 =>
                  AM.bnd (AM.evCall Proofs.Try.prog AM.Lk.env L k (14 : Nat) [Value.pointer (some { block := a0, off := (0 : Nat) }), Value.int IntKind.i64 v11, Value.int IntKind.i64 a1] v2) fun v12 v13 => some (AM.pack [v12], v13))) := by kernel_rfl
/-! (*isobar/link.Link[int]).Drop: 11; parameters [l, i] -/
theorem f11_eq (L k : Nat) (σ : St) (a0 : Nat) (a1 : Int) : evCall Go.Proofs.Try.prog Go.AM.Lk.env L (k + 1) 11 [.pointer (some ⟨a0, 0, none⟩), .int .i64 a1] σ =
    AM.bnd (AM.evCall Proofs.Try.prog AM.Lk.env L k (15 : Nat) [Value.pointer (some { block := a0, off := (0 : Nat) }), Value.int IntKind.i64 a1] σ) fun v1 v2 =>
  AM.eqNil v1 fun v3 =>
    AM.br (!v3) (some (AM.pack [v1], v2))
      (AM.St.ld v2 a0 (0 : Nat) fun v4 =>
        AM.asSl v4 fun v5 v6 v7 =>
          AM.need (Nat.beq v7 (0 : Nat) || Nat.beq v7 (1 : Nat))
            (AM.need (AM.inRange a1 ((↑v6 : Int) + (1 : Int)))
              (AM.St.ld v2 a0 (0 : Nat) fun v8 =>
                AM.asSl v8 fun v9 v10 v11 =>
                  AM.need (Nat.beq v11 (0 : Nat) || Nat.beq v11 (1 : Nat))
                    (AM.need (AM.inRange (IntKind.wrap IntKind.i64 (a1 + (1 : Int))) ((↑v10 : Int) + (1 : Int)))
                      (AM.cpy (1 : Nat) (AM.subA v5 (Int.toNat a1 * (1 : Nat))) (AM.subA v9 (Int.toNat (IntKind.wrap IntKind.i64 (a1 + (1 : Int))) * (1 : Nat)))
                        (min (v10 - Int.toNat (IntKind.wrap IntKind.i64 (a1 + (1 : Int)))) (v6 - Int.toNat a1)) v2 fun v12 =>
                        AM.St.ld v12 a0 (0 : Nat) fun v13 =>
                          AM.asSl v13 fun v14 v15 v16 =>
                            AM.need (Nat.beq v16 (0 : Nat) || Nat.beq v16 (1 : Nat))
                              (AM.need (AM.inRange (IntKind.wrap IntKind.i64 (a1 + (↑(min (v10 - Int.toNat (IntKind.wrap IntKind.i64 (a1 + (1 : Int)))) (v6 - Int.toNat a1)) : Int))) ((↑v15 : Int) + (1 : Int)))
                                (AM.St.put v12 a0 (0 : Nat)
                                  [Value.slice (AM.subA v14 (0 : Nat)) (Int.toNat (IntKind.wrap IntKind.i64 (a1 + (↑(min (v10 - Int.toNat (IntKind.wrap IntKind.i64 (a1 + (1 : Int)))) (v6 - Int.toNat a1)) : Int))) - (0 : Nat)) v16]
                                  fun v17 => some (Value.nilIface, v17)))))))) := by kernel_rfl
/-! (*isobar/link.Link[int]).Len: 12; parameters [l] -/
theorem f12_eq (L k : Nat) (σ : St) (a0 : Nat) : evCall Go.Proofs.Try.prog Go.AM.Lk.env L (k + 1) 12 [.pointer (some ⟨a0, 0, none⟩)] σ =
    AM.St.ld σ a0 (0 : Nat) fun v1 => AM.asSl v1 fun v2 v3 v4 => some (Value.int IntKind.i64 (↑v3 : Int), σ) := by kernel_rfl
/-! isobar/link.wrong: 13; parameters [at, e] -/
theorem f13_eq (L k : Nat) (σ : St) (a0 : Int) (a1 : Int) : evCall Go.Proofs.Try.prog Go.AM.Lk.env L (k + 1) 13 [.int .i64 a0, .int .i64 a1] σ =
    AM.bnd (AM.evCall Proofs.Try.prog AM.Lk.env L k (16 : Nat) [Value.string { data := #[(108 : UInt8), (105 : UInt8), (110 : UInt8), (107 : UInt8)] }, Value.int IntKind.i64 a0, Value.iface (41 : Nat) (Value.int IntKind.i64 a1)] σ) fun v1 v2 =>
  some (AM.pack [v1], v2) := by kernel_rfl
/-! (*isobar/link.Link[int]).put: 14; parameters [l, x, at] -/
theorem f14_eq (L k : Nat) (σ : St) (a0 : Nat) (a1 : Int) (a2 : Int) : evCall Go.Proofs.Try.prog Go.AM.Lk.env L (k + 1) 14 [.pointer (some ⟨a0, 0, none⟩), .int .i64 a1, .int .i64 a2] σ =
    AM.St.ld σ a0 (0 : Nat) fun v1 =>
  AM.asSl v1 fun v2 v3 v4 =>
    AM.St.ld σ a0 (1 : Nat) fun v5 =>
      AM.asI IntKind.i64 v5 fun v6 =>
        AM.br (decide ((↑v3 : Int) ≥ v6)) (AM.bnd (AM.evCall Proofs.Try.prog AM.Lk.env L k (13 : Nat) [Value.int IntKind.i64 a2, Value.int IntKind.i64 (6 : Int)] σ) fun v7 v8 => some (AM.pack [v7], v8))
          (AM.St.ld σ a0 (0 : Nat) fun v9 =>
            AM.asSl v9 fun v10 v11 v12 =>
              AM.St.row (AM.St.new σ (AM.Blk.own [Value.int IntKind.i64 a1] (3 : Nat))) (some { block := AM.St.next σ, off := (0 : Nat) }) (1 : Nat) fun v13 =>
                AM.grow (3 : Nat) (1 : Nat) (8 : Nat) v10 v11 v12 (1 : Nat) v13 (AM.St.new σ (AM.Blk.own [Value.int IntKind.i64 a1] (3 : Nat))) fun v14 v15 v16 v17 =>
                  AM.St.put v17 a0 (0 : Nat) [Value.slice v14 v15 v16] fun v18 => some (Value.nilIface, v18)) := by kernel_rfl
/-! (*isobar/link.Link[int]).there: 15; parameters [l, i] -/
theorem f15_eq (L k : Nat) (σ : St) (a0 : Nat) (a1 : Int) : evCall Go.Proofs.Try.prog Go.AM.Lk.env L (k + 1) 15 [.pointer (some ⟨a0, 0, none⟩), .int .i64 a1] σ =
    AM.br (decide (a1 < (0 : Int))) (AM.bnd (AM.evCall Proofs.Try.prog AM.Lk.env L k (13 : Nat) [Value.int IntKind.i64 a1, Value.int IntKind.i64 (5 : Int)] σ) fun v1 v2 => some (AM.pack [v1], v2))
  (AM.St.ld σ a0 (0 : Nat) fun v3 =>
    AM.asSl v3 fun v4 v5 v6 =>
      AM.br (decide (a1 ≥ (↑v5 : Int))) (AM.bnd (AM.evCall Proofs.Try.prog AM.Lk.env L k (13 : Nat) [Value.int IntKind.i64 a1, Value.int IntKind.i64 (5 : Int)] σ) fun v7 v8 => some (AM.pack [v7], v8)) (some (Value.nilIface, σ))) := by kernel_rfl
/-! isobar/fault.Wrap: 16; parameters [op, at, err] -/
theorem f16_eq (L k : Nat) (σ : St) (a0 : ByteArray) (a1 : Int) (a2 : Value) : evCall Go.Proofs.Try.prog Go.AM.Lk.env L (k + 1) 16 [.string a0, .int .i64 a1, a2] σ =
    AM.eqNil a2 fun v1 =>
  AM.br v1 (some (Value.nilIface, σ))
    (AM.eqErr a2 (41 : Nat) IntKind.i64 (0 : Int) fun v2 =>
      AM.br v2 (some (Value.nilIface, σ))
        (AM.need true
          (AM.need (AM.oneCell a2) (AM.need true (some (Value.iface (44 : Nat) (Value.pointer (some { block := AM.St.next σ, off := (0 : Nat) })), AM.St.new σ (AM.Blk.own [Value.string a0, Value.int IntKind.i64 a1, a2] (46 : Nat)))))))) := by kernel_rfl
end Go.AM.Lk
