import Derived.Test.YtmmjibadpdbkaaaAm0
import Derived.Test.YtmmjibadpdbkaaaEnvW
set_option linter.unusedVariables false
set_option linter.unusedSimpArgs false
namespace Go.AM
open Go.Proofs
/-! isobar/isobarlaw09.WindowDups: 3; parameters [come] -/
theorem f3_eq (L k : Nat) (σ : St) (a0 : Option Addr) (a0n a0z : Nat) : evCall Go.Proofs.Try.prog Go.AM.env L (k + 1) 3 [.slice a0 a0n a0z] σ =
    AM.bnd (AM.evCall Proofs.Try.prog AM.env L k (8 : Nat) [] σ) fun v1 v2 =>
  AM.asB v1 fun v3 =>
    AM.br (!v3) (AM.bnd (AM.evCall Proofs.Try.prog AM.env L k (8 : Nat) [] v2) fun v4 v5 => AM.asB v4 fun v6 => some (Value.bool v6, v5))
      (AM.br (decide ((↑a0n : Int) > (300 : Int))) (AM.bnd (AM.evCall Proofs.Try.prog AM.env L k (8 : Nat) [] v2) fun v7 v8 => AM.asB v7 fun v9 => some (Value.bool v9, v8))
        (AM.lpAt Proofs.Try.prog AM.env L k (3 : Nat) [true, true, true, true, false, true] [] L
          [((0 : Nat), Value.slice a0 a0n a0z), ((3 : Nat), Value.pointer (some { block := AM.St.next v2, off := (0 : Nat) })), ((4 : Nat), Value.int IntKind.i64 (1 : Int)), ((20 : Nat), Value.int IntKind.i64 (↑a0n : Int)),
            ((21 : Nat), Value.int IntKind.i64 (0 : Int))]
          (AM.St.new v2 (AM.Blk.own [Value.slice none (0 : Nat) (0 : Nat)] (27 : Nat))))) := by kernel_rfl
theorem f3_l6 (L k n : Nat) (σ : St) (s0 : Option Addr) (s0n s0z : Nat) (s3 o3 : Nat) (s4 : Int) (s20 : Int) (s21 : Int) : lpAt Go.Proofs.Try.prog Go.AM.env L k 3 [true, true, true, true, false, true] [] (n + 1) [(0, .slice s0 s0n s0z), (3, .pointer (some ⟨s3, o3, none⟩)), (4, .int .i64 s4), (20, .int .i64 s20), (21, .int .i64 s21)] σ =
    AM.br (decide (s21 < s20))
  (AM.need (AM.inRange s21 (↑s0n : Int))
    (AM.adr s0 fun v1 v2 =>
      AM.St.ld σ v1 (v2 + Int.toNat s21 * (1 : Nat)) fun v3 =>
        AM.asI IntKind.u8 v3 fun v4 =>
          AM.br (IntKind.wrap IntKind.i64 ((1 : Int) + Int.tmod (IntKind.wrap IntKind.i64 v4) (20 : Int)) == s4)
            (AM.need true
              (AM.bnd
                (AM.evCall Proofs.Try.prog AM.env L k (9 : Nat)
                  [Value.pointer (some { block := s3, off := o3 }),
                    Value.agg
                      #[Value.int IntKind.i64 (IntKind.wrap IntKind.i64 ((1 : Int) + Int.tmod (IntKind.wrap IntKind.i64 v4) (20 : Int))),
                        Value.int IntKind.i64
                          (IntKind.wrap IntKind.i64 (IntKind.wrap IntKind.i64 ((1 : Int) + Int.tmod (IntKind.wrap IntKind.i64 v4) (20 : Int)) * IntKind.wrap IntKind.i64 ((1 : Int) + Int.tmod (IntKind.wrap IntKind.i64 v4) (20 : Int))))]]
                  σ)
                fun v5 v6 =>
                AM.asI IntKind.i64 v5 fun v7 =>
                  AM.br (v7 != IntKind.wrap IntKind.i64 (IntKind.wrap IntKind.i64 (s4 + (1 : Int)) - (1 : Int))) (some (Value.bool false, v6))
                    (AM.lpAt Proofs.Try.prog AM.env L k (3 : Nat) [true, true, true, true, false, true] [] n
                      [((0 : Nat), Value.slice s0 s0n s0z), ((3 : Nat), Value.pointer (some { block := s3, off := o3 })), ((4 : Nat), Value.int IntKind.i64 (IntKind.wrap IntKind.i64 (s4 + (1 : Int)))),
                        ((20 : Nat), Value.int IntKind.i64 s20), ((21 : Nat), Value.int IntKind.i64 (IntKind.wrap IntKind.i64 (s21 + (1 : Int))))]
                      v6)))
            (AM.need true
              (AM.bnd
                (AM.evCall Proofs.Try.prog AM.env L k (9 : Nat)
                  [Value.pointer (some { block := s3, off := o3 }),
                    Value.agg
                      #[Value.int IntKind.i64 (IntKind.wrap IntKind.i64 ((1 : Int) + Int.tmod (IntKind.wrap IntKind.i64 v4) (20 : Int))),
                        Value.int IntKind.i64
                          (IntKind.wrap IntKind.i64 (IntKind.wrap IntKind.i64 ((1 : Int) + Int.tmod (IntKind.wrap IntKind.i64 v4) (20 : Int)) * IntKind.wrap IntKind.i64 ((1 : Int) + Int.tmod (IntKind.wrap IntKind.i64 v4) (20 : Int))))]]
                  σ)
                fun v8 v9 =>
                AM.asI IntKind.i64 v8 fun v10 =>
                  AM.br (v10 != IntKind.wrap IntKind.i64 (s4 - (1 : Int))) (some (Value.bool false, v9))
                    (AM.lpAt Proofs.Try.prog AM.env L k (3 : Nat) [true, true, true, true, false, true] [] n
                      [((0 : Nat), Value.slice s0 s0n s0z), ((3 : Nat), Value.pointer (some { block := s3, off := o3 })), ((4 : Nat), Value.int IntKind.i64 s4), ((20 : Nat), Value.int IntKind.i64 s20),
                        ((21 : Nat), Value.int IntKind.i64 (IntKind.wrap IntKind.i64 (s21 + (1 : Int))))]
                      v9)))))
  (AM.bnd (AM.evCall Proofs.Try.prog AM.env L k (10 : Nat) [Value.pointer (some { block := s3, off := o3 })] σ) fun v11 v12 =>
    AM.asSl v11 fun v13 v14 v15 =>
      AM.lpAt Proofs.Try.prog AM.env L k (3 : Nat) [true, true, true, true, true, true, false, true] [] L
        [((4 : Nat), Value.int IntKind.i64 s4), ((7 : Nat), Value.slice v13 v14 v15), ((50 : Nat), Value.int IntKind.i64 (↑v14 : Int)), ((51 : Nat), Value.int IntKind.i64 (0 : Int))] v12) := by kernel_rfl
theorem f3_l16 (L k n : Nat) (σ : St) (s4 : Int) (s7 : Option Addr) (s7n s7z : Nat) (s50 : Int) (s51 : Int) : lpAt Go.Proofs.Try.prog Go.AM.env L k 3 [true, true, true, true, true, true, false, true] [] (n + 1) [(4, .int .i64 s4), (7, .slice s7 s7n s7z), (50, .int .i64 s50), (51, .int .i64 s51)] σ =
    AM.br (decide (s51 < s50))
  (AM.need (AM.inRange s51 (↑s7n : Int))
    (AM.adr s7 fun v1 v2 =>
      AM.St.ld σ v1 (v2 + Int.toNat s51 * (1 : Nat)) fun v3 =>
        AM.asI IntKind.i64 v3 fun v4 =>
          AM.br (v4 != IntKind.wrap IntKind.i64 (IntKind.wrap IntKind.i64 (s51 + (1 : Int)) * IntKind.wrap IntKind.i64 (s51 + (1 : Int)))) (some (Value.bool false, σ))
            (AM.lpAt Proofs.Try.prog AM.env L k (3 : Nat) [true, true, true, true, true, true, false, true] [] n
              [((4 : Nat), Value.int IntKind.i64 s4), ((7 : Nat), Value.slice s7 s7n s7z), ((50 : Nat), Value.int IntKind.i64 s50), ((51 : Nat), Value.int IntKind.i64 (IntKind.wrap IntKind.i64 (s51 + (1 : Int))))] σ)))
  (some (Value.bool ((↑s7n : Int) == IntKind.wrap IntKind.i64 (s4 - (1 : Int))), σ)) := by kernel_rfl
/-! isobar/isobarlaw09.WindowSends: 4; parameters [many, step] -/
theorem f4_eq (L k : Nat) (σ : St) (a0 : Int) (a1 : Int) : evCall Go.Proofs.Try.prog Go.AM.env L (k + 1) 4 [.int .u8 a0, .int .u8 a1] σ =
    AM.bnd (AM.evCall Proofs.Try.prog AM.env L k (8 : Nat) [] σ) fun v1 v2 =>
  AM.asB v1 fun v3 =>
    AM.br (!v3) (some (Value.bool false, v2))
      (AM.lpAt Proofs.Try.prog AM.env L k (4 : Nat) [true, true, true, true, false, true] [] L
        [((5 : Nat), Value.int IntKind.i64 (Int.tmod (IntKind.wrap IntKind.i64 a0) (60 : Int))), ((6 : Nat), Value.int IntKind.i64 (IntKind.wrap IntKind.i64 ((1 : Int) + Int.tmod (IntKind.wrap IntKind.i64 a1) (4 : Int)))),
          ((7 : Nat), Value.pointer (some { block := AM.St.next v2, off := (0 : Nat) })), ((26 : Nat), Value.int IntKind.i64 (Int.tmod (IntKind.wrap IntKind.i64 a0) (60 : Int))), ((27 : Nat), Value.int IntKind.i64 (0 : Int))]
        (AM.St.new v2 (AM.Blk.own [Value.slice none (0 : Nat) (0 : Nat), Value.int IntKind.i64 (0 : Int), Value.int IntKind.i64 (0 : Int)] (35 : Nat)))) := by kernel_rfl
theorem f4_l6 (L k n : Nat) (σ : St) (s5 : Int) (s6 : Int) (s7 o7 : Nat) (s26 : Int) (s27 : Int) : lpAt Go.Proofs.Try.prog Go.AM.env L k 4 [true, true, true, true, false, true] [] (n + 1) [(5, .int .i64 s5), (6, .int .i64 s6), (7, .pointer (some ⟨s7, o7, none⟩)), (26, .int .i64 s26), (27, .int .i64 s27)] σ =
    AM.br (decide (s27 < s26))
  (AM.bnd (AM.evCall Proofs.Try.prog AM.env L k (11 : Nat) [Value.pointer (some { block := s7, off := o7 }), Value.int IntKind.i64 (IntKind.wrap IntKind.i64 (s27 * (7 : Int)))] σ) fun v1 v2 =>
    AM.asT v1 fun v3 =>
      AM.endl v3
        (AM.lpAt Proofs.Try.prog AM.env L k (4 : Nat) [true, true, true, true, false, true] [] n
          [((5 : Nat), Value.int IntKind.i64 s5), ((6 : Nat), Value.int IntKind.i64 s6), ((7 : Nat), Value.pointer (some { block := s7, off := o7 })), ((26 : Nat), Value.int IntKind.i64 s26),
            ((27 : Nat), Value.int IntKind.i64 (IntKind.wrap IntKind.i64 (s27 + (1 : Int))))]
          v2))
  (AM.lpAt Proofs.Try.prog AM.env L k (4 : Nat) [true, true, true, true, true, true, false, true] [] L
    [((5 : Nat), Value.int IntKind.i64 s5), ((6 : Nat), Value.int IntKind.i64 s6), ((7 : Nat), Value.pointer (some { block := s7, off := o7 })), ((9 : Nat), Value.int IntKind.i64 (0 : Int)),
      ((36 : Nat), Value.int IntKind.i64 (IntKind.wrap IntKind.i64 (s5 + (1 : Int)))), ((37 : Nat), Value.int IntKind.i64 (0 : Int))]
    σ) := by kernel_rfl
theorem f4_l12 (L k n : Nat) (σ : St) (s5 : Int) (s6 : Int) (s7 o7 : Nat) (s9 : Int) (s36 : Int) (s37 : Int) : lpAt Go.Proofs.Try.prog Go.AM.env L k 4 [true, true, true, true, true, true, false, true] [] (n + 1) [(5, .int .i64 s5), (6, .int .i64 s6), (7, .pointer (some ⟨s7, o7, none⟩)), (9, .int .i64 s9), (36, .int .i64 s36), (37, .int .i64 s37)] σ =
    AM.br (decide (s37 < s36))
  (AM.bnd (AM.evCall Proofs.Try.prog AM.env L k (12 : Nat) [Value.pointer (some { block := s7, off := o7 })] σ) fun v1 v2 =>
    AM.asSl v1 fun v3 v4 v5 =>
      AM.lpAt Proofs.Try.prog AM.env L k (4 : Nat) [true, true, true, true, true, true, false, true, false, true, true, false, true, false, true] [n] L
        [((5 : Nat), Value.int IntKind.i64 s5), ((6 : Nat), Value.int IntKind.i64 s6), ((7 : Nat), Value.pointer (some { block := s7, off := o7 })), ((9 : Nat), Value.int IntKind.i64 s9), ((10 : Nat), Value.slice v3 v4 v5),
          ((36 : Nat), Value.int IntKind.i64 s36), ((37 : Nat), Value.int IntKind.i64 s37), ((42 : Nat), Value.int IntKind.i64 (↑v4 : Int)), ((43 : Nat), Value.int IntKind.i64 (0 : Int))]
        v2)
  (some (Value.bool (s9 == s5), σ)) := by kernel_rfl
theorem f4_l15 (L k m0 n : Nat) (σ : St) (s5 : Int) (s6 : Int) (s7 o7 : Nat) (s9 : Int) (s10 : Option Addr) (s10n s10z : Nat) (s36 : Int) (s37 : Int) (s42 : Int) (s43 : Int) : lpAt Go.Proofs.Try.prog Go.AM.env L k 4 [true, true, true, true, true, true, false, true, false, true, true, false, true, false, true] [m0] (n + 1) [(5, .int .i64 s5), (6, .int .i64 s6), (7, .pointer (some ⟨s7, o7, none⟩)), (9, .int .i64 s9), (10, .slice s10 s10n s10z), (36, .int .i64 s36), (37, .int .i64 s37), (42, .int .i64 s42), (43, .int .i64 s43)] σ =
    AM.br (decide (s43 < s42))
  (AM.need (AM.inRange s43 (↑s10n : Int))
    (AM.adr s10 fun v1 v2 =>
      AM.St.ld σ v1 (v2 + Int.toNat s43 * (2 : Nat) + (0 : Nat)) fun v3 =>
        AM.asI IntKind.i64 v3 fun v4 =>
          AM.br (v4 != IntKind.wrap IntKind.i64 (s9 + (1 : Int))) (some (Value.bool false, σ))
            (AM.need (AM.inRange s43 (↑s10n : Int))
              (AM.adr s10 fun v5 v6 =>
                AM.St.ld σ v5 (v6 + Int.toNat s43 * (2 : Nat) + (1 : Nat)) fun v7 =>
                  AM.asI IntKind.i64 v7 fun v8 =>
                    AM.br (v8 != IntKind.wrap IntKind.i64 (s9 * (7 : Int))) (some (Value.bool false, σ))
                      (AM.lpAt Proofs.Try.prog AM.env L k (4 : Nat) [true, true, true, true, true, true, false, true, false, true, true, false, true, false, true] [m0] n
                        [((5 : Nat), Value.int IntKind.i64 s5), ((6 : Nat), Value.int IntKind.i64 s6), ((7 : Nat), Value.pointer (some { block := s7, off := o7 })),
                          ((9 : Nat), Value.int IntKind.i64 (IntKind.wrap IntKind.i64 (s9 + (1 : Int)))), ((10 : Nat), Value.slice s10 s10n s10z), ((36 : Nat), Value.int IntKind.i64 s36), ((37 : Nat), Value.int IntKind.i64 s37),
                          ((42 : Nat), Value.int IntKind.i64 s42), ((43 : Nat), Value.int IntKind.i64 (IntKind.wrap IntKind.i64 (s43 + (1 : Int))))]
                        σ)))))
  (AM.bnd (AM.evCall Proofs.Try.prog AM.env L k (13 : Nat) [Value.pointer (some { block := s7, off := o7 })] σ) fun v9 v10 =>
    AM.asT v9 fun v11 =>
      AM.uncons v11 fun v12 v13 =>
        AM.asI IntKind.i64 v12 fun v14 =>
          AM.uncons v13 fun v15 v16 =>
            AM.asI IntKind.i64 v15 fun v17 =>
              AM.uncons v16 fun v18 v19 =>
                AM.asI IntKind.i64 v18 fun v20 =>
                  AM.endl v19
                    (AM.br (v17 != s9) (some (Value.bool false, v10))
                      (AM.br (decide (IntKind.wrap IntKind.i64 (v17 - v20) > (4 : Int))) (some (Value.bool false, v10))
                        (AM.br (decide (v17 < s5))
                          (AM.br (IntKind.wrap IntKind.i64 (v17 - v20) != (4 : Int)) (some (Value.bool false, v10))
                            (AM.bnd (AM.evCall Proofs.Try.prog AM.env L k (14 : Nat) [Value.pointer (some { block := s7, off := o7 }), Value.int IntKind.i64 (AM.mn (IntKind.wrap IntKind.i64 (v20 + s6)) v17)] v10) fun v21 v22 =>
                              AM.eqNil v21 fun v23 =>
                                AM.br (!v23) (some (Value.bool false, v22))
                                  (AM.lpAt Proofs.Try.prog AM.env L k (4 : Nat) [true, true, true, true, true, true, false, true] [] m0
                                    [((5 : Nat), Value.int IntKind.i64 s5), ((6 : Nat), Value.int IntKind.i64 s6), ((7 : Nat), Value.pointer (some { block := s7, off := o7 })), ((9 : Nat), Value.int IntKind.i64 s9),
                                      ((36 : Nat), Value.int IntKind.i64 s36), ((37 : Nat), Value.int IntKind.i64 (IntKind.wrap IntKind.i64 (s37 + (1 : Int))))]
                                    v22)))
                          (AM.bnd (AM.evCall Proofs.Try.prog AM.env L k (14 : Nat) [Value.pointer (some { block := s7, off := o7 }), Value.int IntKind.i64 (AM.mn (IntKind.wrap IntKind.i64 (v20 + s6)) v17)] v10) fun v24 v25 =>
                            AM.eqNil v24 fun v26 =>
                              AM.br (!v26) (some (Value.bool false, v25))
                                (AM.lpAt Proofs.Try.prog AM.env L k (4 : Nat) [true, true, true, true, true, true, false, true] [] m0
                                  [((5 : Nat), Value.int IntKind.i64 s5), ((6 : Nat), Value.int IntKind.i64 s6), ((7 : Nat), Value.pointer (some { block := s7, off := o7 })), ((9 : Nat), Value.int IntKind.i64 s9),
                                    ((36 : Nat), Value.int IntKind.i64 s36), ((37 : Nat), Value.int IntKind.i64 (IntKind.wrap IntKind.i64 (s37 + (1 : Int))))]
                                  v25)))))) := by kernel_rfl
/-! isobar/isobarlaw09.WindowLossy: 5; parameters [l] -/
theorem f5_eq (L k : Nat) (σ : St) (a0 : Option Addr) (a0n a0z : Nat) : evCall Go.Proofs.Try.prog Go.AM.env L (k + 1) 5 [.slice a0 a0n a0z] σ =
    AM.bnd (AM.evCall Proofs.Try.prog AM.env L k (8 : Nat) [] σ) fun v1 v2 =>
  AM.asB v1 fun v3 =>
    AM.br (!v3) (AM.bnd (AM.evCall Proofs.Try.prog AM.env L k (8 : Nat) [] v2) fun v4 v5 => AM.asB v4 fun v6 => some (Value.bool v6, v5))
      (AM.br (decide ((↑a0n : Int) > (400 : Int))) (AM.bnd (AM.evCall Proofs.Try.prog AM.env L k (8 : Nat) [] v2) fun v7 v8 => AM.asB v7 fun v9 => some (Value.bool v9, v8))
        (AM.lpAt Proofs.Try.prog AM.env L k (5 : Nat) [true, true, true, true, true, true, false, true] [] L
          [((0 : Nat), Value.slice a0 a0n a0z), ((3 : Nat), Value.pointer (some { block := AM.St.next v2, off := (0 : Nat) })),
            ((4 : Nat), Value.pointer (some { block := AM.St.next (AM.St.new v2 (AM.Blk.own [Value.slice none (0 : Nat) (0 : Nat), Value.int IntKind.i64 (0 : Int), Value.int IntKind.i64 (0 : Int)] (35 : Nat))), off := (0 : Nat) })),
            ((5 : Nat), Value.slice none (0 : Nat) (0 : Nat)), ((6 : Nat), Value.slice none (0 : Nat) (0 : Nat)), ((7 : Nat), Value.int IntKind.i64 (0 : Int)), ((27 : Nat), Value.int IntKind.i64 (↑a0n : Int)),
            ((28 : Nat), Value.int IntKind.i64 (0 : Int))]
          (AM.St.new (AM.St.new v2 (AM.Blk.own [Value.slice none (0 : Nat) (0 : Nat), Value.int IntKind.i64 (0 : Int), Value.int IntKind.i64 (0 : Int)] (35 : Nat))) (AM.Blk.own [Value.slice none (0 : Nat) (0 : Nat)] (27 : Nat))))) := by kernel_rfl
theorem f5_l8 (L k n : Nat) (σ : St) (s0 : Option Addr) (s0n s0z : Nat) (s3 o3 : Nat) (s4 o4 : Nat) (s5 : Option Addr) (s5n s5z : Nat) (s6 : Option Addr) (s6n s6z : Nat) (s7 : Int) (s27 : Int) (s28 : Int) : lpAt Go.Proofs.Try.prog Go.AM.env L k 5 [true, true, true, true, true, true, false, true] [] (n + 1) [(0, .slice s0 s0n s0z), (3, .pointer (some ⟨s3, o3, none⟩)), (4, .pointer (some ⟨s4, o4, none⟩)), (5, .slice s5 s5n s5z), (6, .slice s6 s6n s6z), (7, .int .i64 s7), (27, .int .i64 s27), (28, .int .i64 s28)] σ =
    AM.br (decide (s28 < s27))
  (AM.need (AM.inRange s28 (↑s0n : Int))
    (AM.adr s0 fun v1 v2 =>
      AM.St.ld σ v1 (v2 + Int.toNat s28 * (2 : Nat) + (0 : Nat)) fun v3 =>
        AM.asI IntKind.i64 v3 fun v4 =>
          AM.br (v4 == (1 : Int))
            (AM.bnd (AM.evCall Proofs.Try.prog AM.env L k (11 : Nat) [Value.pointer (some { block := s3, off := o3 }), Value.int IntKind.i64 (IntKind.wrap IntKind.i64 (IntKind.wrap IntKind.i64 (s7 + (1 : Int)) * (3 : Int)))] σ) fun v5 v6 =>
              AM.asT v5 fun v7 =>
                AM.endl v7
                  (AM.bnd (AM.evCall Proofs.Try.prog AM.env L k (10 : Nat) [Value.pointer (some { block := s4, off := o4 })] v6) fun v8 v9 =>
                    AM.asSl v8 fun v10 v11 v12 =>
                      AM.bnd (AM.evCall Proofs.Try.prog AM.env L k (13 : Nat) [Value.pointer (some { block := s3, off := o3 })] v9) fun v13 v14 =>
                        AM.asT v13 fun v15 =>
                          AM.uncons v15 fun v16 v17 =>
                            AM.asI IntKind.i64 v16 fun v18 =>
                              AM.uncons v17 fun v19 v20 =>
                                AM.asI IntKind.i64 v19 fun v21 =>
                                  AM.uncons v20 fun v22 v23 =>
                                    AM.asI IntKind.i64 v22 fun v24 =>
                                      AM.endl v23
                                        (AM.br (v18 != IntKind.wrap IntKind.i64 (s7 + (1 : Int))) (some (Value.bool false, v14))
                                          (AM.br (decide (v24 > (↑v11 : Int))) (some (Value.bool false, v14))
                                            (AM.br (decide ((↑v11 : Int) > v21)) (some (Value.bool false, v14))
                                              (AM.br (decide (v21 > v18)) (some (Value.bool false, v14))
                                                (AM.br (decide (IntKind.wrap IntKind.i64 (v21 - v24) > (4 : Int))) (some (Value.bool false, v14))
                                                  (AM.lpAt Proofs.Try.prog AM.env L k (5 : Nat) [true, true, true, true, true, true, false, true, false, true, true, false, true, true, true, true, true, true] [n] L
                                                    [((0 : Nat), Value.slice s0 s0n s0z), ((3 : Nat), Value.pointer (some { block := s3, off := o3 })), ((4 : Nat), Value.pointer (some { block := s4, off := o4 })),
                                                      ((5 : Nat), Value.slice s5 s5n s5z), ((6 : Nat), Value.slice s6 s6n s6z), ((7 : Nat), Value.int IntKind.i64 (IntKind.wrap IntKind.i64 (s7 + (1 : Int)))),
                                                      ((9 : Nat), Value.slice v10 v11 v12), ((27 : Nat), Value.int IntKind.i64 s27), ((28 : Nat), Value.int IntKind.i64 s28), ((156 : Nat), Value.int IntKind.i64 (↑v11 : Int)),
                                                      ((157 : Nat), Value.int IntKind.i64 (0 : Int))]
                                                    v14))))))))
            (AM.br (v4 == (2 : Int))
              (AM.bnd (AM.evCall Proofs.Try.prog AM.env L k (12 : Nat) [Value.pointer (some { block := s3, off := o3 })] σ) fun v25 v26 =>
                AM.asSl v25 fun v27 v28 v29 =>
                  AM.St.row v26 v27 (v28 * (2 : Nat)) fun v30 =>
                    AM.grow (30 : Nat) (2 : Nat) (16 : Nat) s5 s5n s5z v28 v30 v26 fun v31 v32 v33 v34 =>
                      AM.bnd (AM.evCall Proofs.Try.prog AM.env L k (10 : Nat) [Value.pointer (some { block := s4, off := o4 })] v34) fun v35 v36 =>
                        AM.asSl v35 fun v37 v38 v39 =>
                          AM.bnd (AM.evCall Proofs.Try.prog AM.env L k (13 : Nat) [Value.pointer (some { block := s3, off := o3 })] v36) fun v40 v41 =>
                            AM.asT v40 fun v42 =>
                              AM.uncons v42 fun v43 v44 =>
                                AM.asI IntKind.i64 v43 fun v45 =>
                                  AM.uncons v44 fun v46 v47 =>
                                    AM.asI IntKind.i64 v46 fun v48 =>
                                      AM.uncons v47 fun v49 v50 =>
                                        AM.asI IntKind.i64 v49 fun v51 =>
                                          AM.endl v50
                                            (AM.br (v45 != s7) (some (Value.bool false, v41))
                                              (AM.br (decide (v51 > (↑v38 : Int))) (some (Value.bool false, v41))
                                                (AM.br (decide ((↑v38 : Int) > v48)) (some (Value.bool false, v41))
                                                  (AM.br (decide (v48 > v45)) (some (Value.bool false, v41))
                                                    (AM.br (decide (IntKind.wrap IntKind.i64 (v48 - v51) > (4 : Int))) (some (Value.bool false, v41))
                                                      (AM.lpAt Proofs.Try.prog AM.env L k (5 : Nat) [true, true, true, true, true, true, false, true, false, true, true, false, true, true, true, true, true, true] [n] L
                                                        [((0 : Nat), Value.slice s0 s0n s0z), ((3 : Nat), Value.pointer (some { block := s3, off := o3 })), ((4 : Nat), Value.pointer (some { block := s4, off := o4 })),
                                                          ((5 : Nat), Value.slice v31 v32 v33), ((6 : Nat), Value.slice s6 s6n s6z), ((7 : Nat), Value.int IntKind.i64 s7), ((9 : Nat), Value.slice v37 v38 v39),
                                                          ((27 : Nat), Value.int IntKind.i64 s27), ((28 : Nat), Value.int IntKind.i64 s28), ((156 : Nat), Value.int IntKind.i64 (↑v38 : Int)), ((157 : Nat), Value.int IntKind.i64 (0 : Int))]
                                                        v41)))))))
              (AM.br (v4 == (3 : Int))
                (AM.br (decide ((↑s5n : Int) < (2000 : Int)))
                  (AM.bnd (AM.evCall Proofs.Try.prog AM.env L k (15 : Nat) [Value.pointer (some { block := s3, off := o3 })] σ) fun v52 v53 =>
                    AM.asSl v52 fun v54 v55 v56 =>
                      AM.St.row v53 v54 (v55 * (2 : Nat)) fun v57 =>
                        AM.grow (30 : Nat) (2 : Nat) (16 : Nat) s5 s5n s5z v55 v57 v53 fun v58 v59 v60 v61 =>
                          AM.bnd (AM.evCall Proofs.Try.prog AM.env L k (10 : Nat) [Value.pointer (some { block := s4, off := o4 })] v61) fun v62 v63 =>
                            AM.asSl v62 fun v64 v65 v66 =>
                              AM.bnd (AM.evCall Proofs.Try.prog AM.env L k (13 : Nat) [Value.pointer (some { block := s3, off := o3 })] v63) fun v67 v68 =>
                                AM.asT v67 fun v69 =>
                                  AM.uncons v69 fun v70 v71 =>
                                    AM.asI IntKind.i64 v70 fun v72 =>
                                      AM.uncons v71 fun v73 v74 =>
                                        AM.asI IntKind.i64 v73 fun v75 =>
                                          AM.uncons v74 fun v76 v77 =>
                                            AM.asI IntKind.i64 v76 fun v78 =>
                                              AM.endl v77
                                                (AM.br (v72 != s7) (some (Value.bool false, v68))
                                                  (AM.br (decide (v78 > (↑v65 : Int))) (some (Value.bool false, v68))
                                                    (AM.br (decide ((↑v65 : Int) > v75)) (some (Value.bool false, v68))
                                                      (AM.br (decide (v75 > v72)) (some (Value.bool false, v68))
                                                        (AM.br (decide (IntKind.wrap IntKind.i64 (v75 - v78) > (4 : Int))) (some (Value.bool false, v68))
                                                          (AM.lpAt Proofs.Try.prog AM.env L k (5 : Nat) [true, true, true, true, true, true, false, true, false, true, true, false, true, true, true, true, true, true] [n] L
                                                            [((0 : Nat), Value.slice s0 s0n s0z), ((3 : Nat), Value.pointer (some { block := s3, off := o3 })), ((4 : Nat), Value.pointer (some { block := s4, off := o4 })),
                                                              ((5 : Nat), Value.slice v58 v59 v60), ((6 : Nat), Value.slice s6 s6n s6z), ((7 : Nat), Value.int IntKind.i64 s7), ((9 : Nat), Value.slice v64 v65 v66),
                                                              ((27 : Nat), Value.int IntKind.i64 s27), ((28 : Nat), Value.int IntKind.i64 s28), ((156 : Nat), Value.int IntKind.i64 (↑v65 : Int)),
                                                              ((157 : Nat), Value.int IntKind.i64 (0 : Int))]
                                                            v68)))))))
                  (AM.bnd (AM.evCall Proofs.Try.prog AM.env L k (10 : Nat) [Value.pointer (some { block := s4, off := o4 })] σ) fun v79 v80 =>
                    AM.asSl v79 fun v81 v82 v83 =>
                      AM.bnd (AM.evCall Proofs.Try.prog AM.env L k (13 : Nat) [Value.pointer (some { block := s3, off := o3 })] v80) fun v84 v85 =>
                        AM.asT v84 fun v86 =>
                          AM.uncons v86 fun v87 v88 =>
                            AM.asI IntKind.i64 v87 fun v89 =>
                              AM.uncons v88 fun v90 v91 =>
                                AM.asI IntKind.i64 v90 fun v92 =>
                                  AM.uncons v91 fun v93 v94 =>
                                    AM.asI IntKind.i64 v93 fun v95 =>
                                      AM.endl v94
                                        (AM.br (v89 != s7) (some (Value.bool false, v85))
                                          (AM.br (decide (v95 > (↑v82 : Int))) (some (Value.bool false, v85))
                                            (AM.br (decide ((↑v82 : Int) > v92)) (some (Value.bool false, v85))
                                              (AM.br (decide (v92 > v89)) (some (Value.bool false, v85))
                                                (AM.br (decide (IntKind.wrap IntKind.i64 (v92 - v95) > (4 : Int))) (some (Value.bool false, v85))
                                                  (AM.lpAt Proofs.Try.prog AM.env L k (5 : Nat) [true, true, true, true, true, true, false, true, false, true, true, false, true, true, true, true, true, true] [n] L
                                                    [((0 : Nat), Value.slice s0 s0n s0z), ((3 : Nat), Value.pointer (some { block := s3, off := o3 })), ((4 : Nat), Value.pointer (some { block := s4, off := o4 })),
                                                      ((5 : Nat), Value.slice s5 s5n s5z), ((6 : Nat), Value.slice s6 s6n s6z), ((7 : Nat), Value.int IntKind.i64 s7), ((9 : Nat), Value.slice v81 v82 v83),
                                                      ((27 : Nat), Value.int IntKind.i64 s27), ((28 : Nat), Value.int IntKind.i64 s28), ((156 : Nat), Value.int IntKind.i64 (↑v82 : Int)), ((157 : Nat), Value.int IntKind.i64 (0 : Int))]
                                                    v85))))))))
                (AM.br (v4 == (4 : Int))
                  (AM.need (AM.inRange s28 (↑s0n : Int))
                    (AM.adr s0 fun v96 v97 =>
                      AM.St.ld σ v96 (v97 + Int.toNat s28 * (2 : Nat) + (1 : Nat)) fun v98 =>
                        AM.asI IntKind.i64 v98 fun v99 =>
                          AM.br (decide (v99 ≥ (0 : Int)))
                            (AM.need (AM.inRange s28 (↑s0n : Int))
                              (AM.adr s0 fun v100 v101 =>
                                AM.St.ld σ v100 (v101 + Int.toNat s28 * (2 : Nat) + (1 : Nat)) fun v102 =>
                                  AM.asI IntKind.i64 v102 fun v103 =>
                                    AM.br (decide (v103 < (↑s5n : Int)))
                                      (AM.need (AM.inRange s28 (↑s0n : Int))
                                        (AM.adr s0 fun v104 v105 =>
                                          AM.St.ld σ v104 (v105 + Int.toNat s28 * (2 : Nat) + (1 : Nat)) fun v106 =>
                                            AM.asI IntKind.i64 v106 fun v107 =>
                                              AM.need (AM.inRange v107 (↑s5n : Int))
                                                (AM.adr s5 fun v108 v109 =>
                                                  AM.St.lds σ v108 (v109 + Int.toNat v107 * (2 : Nat)) (2 : Nat) fun v110 =>
                                                    AM.uncons v110 fun v111 v112 =>
                                                      AM.asI IntKind.i64 v111 fun v113 =>
                                                        AM.uncons v112 fun v114 v115 =>
                                                          AM.asI IntKind.i64 v114 fun v116 =>
                                                            AM.endl v115
                                                              (AM.bnd (AM.evCall Proofs.Try.prog AM.env L k (9 : Nat) [Value.pointer (some { block := s4, off := o4 }), Value.agg #[Value.int IntKind.i64 v113, Value.int IntKind.i64 v116]] σ)
                                                                fun v117 v118 =>
                                                                AM.asI IntKind.i64 v117 fun v119 =>
                                                                  AM.St.row (AM.St.new v118 (AM.Blk.own [Value.int IntKind.i64 v119] (3 : Nat))) (some { block := AM.St.next v118, off := (0 : Nat) }) (1 : Nat) fun v120 =>
                                                                    AM.grow (3 : Nat) (1 : Nat) (8 : Nat) s6 s6n s6z (1 : Nat) v120 (AM.St.new v118 (AM.Blk.own [Value.int IntKind.i64 v119] (3 : Nat))) fun v121 v122 v123 v124 =>
                                                                      AM.bnd (AM.evCall Proofs.Try.prog AM.env L k (10 : Nat) [Value.pointer (some { block := s4, off := o4 })] v124) fun v125 v126 =>
                                                                        AM.asSl v125 fun v127 v128 v129 =>
                                                                          AM.bnd (AM.evCall Proofs.Try.prog AM.env L k (13 : Nat) [Value.pointer (some { block := s3, off := o3 })] v126) fun v130 v131 =>
                                                                            AM.asT v130 fun v132 =>
                                                                              AM.uncons v132 fun v133 v134 =>
                                                                                AM.asI IntKind.i64 v133 fun v135 =>
                                                                                  AM.uncons v134 fun v136 v137 =>
                                                                                    AM.asI IntKind.i64 v136 fun v138 =>
                                                                                      AM.uncons v137 fun v139 v140 =>
                                                                                        AM.asI IntKind.i64 v139 fun v141 =>
                                                                                          AM.endl v140
                                                                                            (AM.br (v135 != s7) (some (Value.bool false, v131))
                                                                                              (AM.br (decide (v141 > (↑v128 : Int))) (some (Value.bool false, v131))
                                                                                                (AM.br (decide ((↑v128 : Int) > v138)) (some (Value.bool false, v131))
                                                                                                  (AM.br (decide (v138 > v135)) (some (Value.bool false, v131))
                                                                                                    (AM.br (decide (IntKind.wrap IntKind.i64 (v138 - v141) > (4 : Int))) (some (Value.bool false, v131))
                                                                                                      (AM.lpAt Proofs.Try.prog AM.env L k (5 : Nat)
                                                                                                        [true, true, true, true, true, true, false, true, false, true, true, false, true, true, true, true, true, true] [n] L
                                                                                                        [((0 : Nat), Value.slice s0 s0n s0z), ((3 : Nat), Value.pointer (some { block := s3, off := o3 })),
                                                                                                          ((4 : Nat), Value.pointer (some { block := s4, off := o4 })), ((5 : Nat), Value.slice s5 s5n s5z),
                                                                                                          ((6 : Nat), Value.slice v121 v122 v123), ((7 : Nat), Value.int IntKind.i64 s7), ((9 : Nat), Value.slice v127 v128 v129),
                                                                                                          ((27 : Nat), Value.int IntKind.i64 s27), ((28 : Nat), Value.int IntKind.i64 s28), ((156 : Nat), Value.int IntKind.i64 (↑v128 : Int)),
                                                                                                          ((157 : Nat), Value.int IntKind.i64 (0 : Int))]
                                                                                                        v131))))))))))
                                      (AM.bnd (AM.evCall Proofs.Try.prog AM.env L k (10 : Nat) [Value.pointer (some { block := s4, off := o4 })] σ) fun v142 v143 =>
                                        AM.asSl v142 fun v144 v145 v146 =>
                                          AM.bnd (AM.evCall Proofs.Try.prog AM.env L k (13 : Nat) [Value.pointer (some { block := s3, off := o3 })] v143) fun v147 v148 =>
                                            AM.asT v147 fun v149 =>
                                              AM.uncons v149 fun v150 v151 =>
                                                AM.asI IntKind.i64 v150 fun v152 =>
                                                  AM.uncons v151 fun v153 v154 =>
                                                    AM.asI IntKind.i64 v153 fun v155 =>
                                                      AM.uncons v154 fun v156 v157 =>
                                                        AM.asI IntKind.i64 v156 fun v158 =>
                                                          AM.endl v157
                                                            (AM.br (v152 != s7) (some (Value.bool false, v148))
                                                              (AM.br (decide (v158 > (↑v145 : Int))) (some (Value.bool false, v148))
                                                                (AM.br (decide ((↑v145 : Int) > v155)) (some (Value.bool false, v148))
                                                                  (AM.br (decide (v155 > v152)) (some (Value.bool false, v148))
                                                                    (AM.br (decide (IntKind.wrap IntKind.i64 (v155 - v158) > (4 : Int))) (some (Value.bool false, v148))
                                                                      (AM.lpAt Proofs.Try.prog AM.env L k (5 : Nat) [true, true, true, true, true, true, false, true, false, true, true, false, true, true, true, true, true, true] [n] L
                                                                        [((0 : Nat), Value.slice s0 s0n s0z), ((3 : Nat), Value.pointer (some { block := s3, off := o3 })), ((4 : Nat), Value.pointer (some { block := s4, off := o4 })),
                                                                          ((5 : Nat), Value.slice s5 s5n s5z), ((6 : Nat), Value.slice s6 s6n s6z), ((7 : Nat), Value.int IntKind.i64 s7), ((9 : Nat), Value.slice v144 v145 v146),
                                                                          ((27 : Nat), Value.int IntKind.i64 s27), ((28 : Nat), Value.int IntKind.i64 s28), ((156 : Nat), Value.int IntKind.i64 (↑v145 : Int)),
                                                                          ((157 : Nat), Value.int IntKind.i64 (0 : Int))]
                                                                        v148)))))))))
                            (AM.bnd (AM.evCall Proofs.Try.prog AM.env L k (10 : Nat) [Value.pointer (some { block := s4, off := o4 })] σ) fun v159 v160 =>
                              AM.asSl v159 fun v161 v162 v163 =>
                                AM.bnd (AM.evCall Proofs.Try.prog AM.env L k (13 : Nat) [Value.pointer (some { block := s3, off := o3 })] v160) fun v164 v165 =>
                                  AM.asT v164 fun v166 =>
                                    AM.uncons v166 fun v167 v168 =>
                                      AM.asI IntKind.i64 v167 fun v169 =>
                                        AM.uncons v168 fun v170 v171 =>
                                          AM.asI IntKind.i64 v170 fun v172 =>
                                            AM.uncons v171 fun v173 v174 =>
                                              AM.asI IntKind.i64 v173 fun v175 =>
                                                AM.endl v174
                                                  (AM.br (v169 != s7) (some (Value.bool false, v165))
                                                    (AM.br (decide (v175 > (↑v162 : Int))) (some (Value.bool false, v165))
                                                      (AM.br (decide ((↑v162 : Int) > v172)) (some (Value.bool false, v165))
                                                        (AM.br (decide (v172 > v169)) (some (Value.bool false, v165))
                                                          (AM.br (decide (IntKind.wrap IntKind.i64 (v172 - v175) > (4 : Int))) (some (Value.bool false, v165))
                                                            (AM.lpAt Proofs.Try.prog AM.env L k (5 : Nat) [true, true, true, true, true, true, false, true, false, true, true, false, true, true, true, true, true, true] [n] L
                                                              [((0 : Nat), Value.slice s0 s0n s0z), ((3 : Nat), Value.pointer (some { block := s3, off := o3 })), ((4 : Nat), Value.pointer (some { block := s4, off := o4 })),
                                                                ((5 : Nat), Value.slice s5 s5n s5z), ((6 : Nat), Value.slice s6 s6n s6z), ((7 : Nat), Value.int IntKind.i64 s7), ((9 : Nat), Value.slice v161 v162 v163),
                                                                ((27 : Nat), Value.int IntKind.i64 s27), ((28 : Nat), Value.int IntKind.i64 s28), ((156 : Nat), Value.int IntKind.i64 (↑v162 : Int)),
                                                                ((157 : Nat), Value.int IntKind.i64 (0 : Int))]
                                                              v165)))))))))
                  (AM.br (v4 == (5 : Int))
                    (AM.need (AM.inRange s28 (↑s0n : Int))
                      (AM.adr s0 fun v176 v177 =>
                        AM.St.ld σ v176 (v177 + Int.toNat s28 * (2 : Nat) + (1 : Nat)) fun v178 =>
                          AM.asI IntKind.i64 v178 fun v179 =>
                            AM.br (decide (v179 ≥ (0 : Int)))
                              (AM.need (AM.inRange s28 (↑s0n : Int))
                                (AM.adr s0 fun v180 v181 =>
                                  AM.St.ld σ v180 (v181 + Int.toNat s28 * (2 : Nat) + (1 : Nat)) fun v182 =>
                                    AM.asI IntKind.i64 v182 fun v183 =>
                                      AM.br (decide (v183 < (↑s6n : Int)))
                                        (AM.need (AM.inRange s28 (↑s0n : Int))
                                          (AM.adr s0 fun v184 v185 =>
                                            AM.St.ld σ v184 (v185 + Int.toNat s28 * (2 : Nat) + (1 : Nat)) fun v186 =>
                                              AM.asI IntKind.i64 v186 fun v187 =>
                                                AM.need (AM.inRange v187 (↑s6n : Int))
                                                  (AM.adr s6 fun v188 v189 =>
                                                    AM.St.ld σ v188 (v189 + Int.toNat v187 * (1 : Nat)) fun v190 =>
                                                      AM.asI IntKind.i64 v190 fun v191 =>
                                                        AM.bnd (AM.evCall Proofs.Try.prog AM.env L k (14 : Nat) [Value.pointer (some { block := s3, off := o3 }), Value.int IntKind.i64 v191] σ) fun v192 v193 =>
                                                          AM.eqNil v192 fun v194 =>
                                                            AM.br (!v194) (some (Value.bool false, v193))
                                                              (AM.bnd (AM.evCall Proofs.Try.prog AM.env L k (10 : Nat) [Value.pointer (some { block := s4, off := o4 })] v193) fun v195 v196 =>
                                                                AM.asSl v195 fun v197 v198 v199 =>
                                                                  AM.bnd (AM.evCall Proofs.Try.prog AM.env L k (13 : Nat) [Value.pointer (some { block := s3, off := o3 })] v196) fun v200 v201 =>
                                                                    AM.asT v200 fun v202 =>
                                                                      AM.uncons v202 fun v203 v204 =>
                                                                        AM.asI IntKind.i64 v203 fun v205 =>
                                                                          AM.uncons v204 fun v206 v207 =>
                                                                            AM.asI IntKind.i64 v206 fun v208 =>
                                                                              AM.uncons v207 fun v209 v210 =>
                                                                                AM.asI IntKind.i64 v209 fun v211 =>
                                                                                  AM.endl v210
                                                                                    (AM.br (v205 != s7) (some (Value.bool false, v201))
                                                                                      (AM.br (decide (v211 > (↑v198 : Int))) (some (Value.bool false, v201))
                                                                                        (AM.br (decide ((↑v198 : Int) > v208)) (some (Value.bool false, v201))
                                                                                          (AM.br (decide (v208 > v205)) (some (Value.bool false, v201))
                                                                                            (AM.br (decide (IntKind.wrap IntKind.i64 (v208 - v211) > (4 : Int))) (some (Value.bool false, v201))
                                                                                              (AM.lpAt Proofs.Try.prog AM.env L k (5 : Nat)
                                                                                                [true, true, true, true, true, true, false, true, false, true, true, false, true, true, true, true, true, true] [n] L
                                                                                                [((0 : Nat), Value.slice s0 s0n s0z), ((3 : Nat), Value.pointer (some { block := s3, off := o3 })),
                                                                                                  ((4 : Nat), Value.pointer (some { block := s4, off := o4 })), ((5 : Nat), Value.slice s5 s5n s5z), ((6 : Nat), Value.slice s6 s6n s6z),
                                                                                                  ((7 : Nat), Value.int IntKind.i64 s7), ((9 : Nat), Value.slice v197 v198 v199), ((27 : Nat), Value.int IntKind.i64 s27),
                                                                                                  ((28 : Nat), Value.int IntKind.i64 s28), ((156 : Nat), Value.int IntKind.i64 (↑v198 : Int)), ((157 : Nat), Value.int IntKind.i64 (0 : Int))]
                                                                                                v201))))))))))
                                        (AM.bnd (AM.evCall Proofs.Try.prog AM.env L k (10 : Nat) [Value.pointer (some { block := s4, off := o4 })] σ) fun v212 v213 =>
                                          AM.asSl v212 fun v214 v215 v216 =>
                                            AM.bnd (AM.evCall Proofs.Try.prog AM.env L k (13 : Nat) [Value.pointer (some { block := s3, off := o3 })] v213) fun v217 v218 =>
                                              AM.asT v217 fun v219 =>
                                                AM.uncons v219 fun v220 v221 =>
                                                  AM.asI IntKind.i64 v220 fun v222 =>
                                                    AM.uncons v221 fun v223 v224 =>
                                                      AM.asI IntKind.i64 v223 fun v225 =>
                                                        AM.uncons v224 fun v226 v227 =>
                                                          AM.asI IntKind.i64 v226 fun v228 =>
                                                            AM.endl v227
                                                              (AM.br (v222 != s7) (some (Value.bool false, v218))
                                                                (AM.br (decide (v228 > (↑v215 : Int))) (some (Value.bool false, v218))
                                                                  (AM.br (decide ((↑v215 : Int) > v225)) (some (Value.bool false, v218))
                                                                    (AM.br (decide (v225 > v222)) (some (Value.bool false, v218))
                                                                      (AM.br (decide (IntKind.wrap IntKind.i64 (v225 - v228) > (4 : Int))) (some (Value.bool false, v218))
                                                                        (AM.lpAt Proofs.Try.prog AM.env L k (5 : Nat) [true, true, true, true, true, true, false, true, false, true, true, false, true, true, true, true, true, true] [n] L
                                                                          [((0 : Nat), Value.slice s0 s0n s0z), ((3 : Nat), Value.pointer (some { block := s3, off := o3 })), ((4 : Nat), Value.pointer (some { block := s4, off := o4 })),
                                                                            ((5 : Nat), Value.slice s5 s5n s5z), ((6 : Nat), Value.slice s6 s6n s6z), ((7 : Nat), Value.int IntKind.i64 s7), ((9 : Nat), Value.slice v214 v215 v216),
                                                                            ((27 : Nat), Value.int IntKind.i64 s27), ((28 : Nat), Value.int IntKind.i64 s28), ((156 : Nat), Value.int IntKind.i64 (↑v215 : Int)),
                                                                            ((157 : Nat), Value.int IntKind.i64 (0 : Int))]
                                                                          v218)))))))))
                              (AM.bnd (AM.evCall Proofs.Try.prog AM.env L k (10 : Nat) [Value.pointer (some { block := s4, off := o4 })] σ) fun v229 v230 =>
                                AM.asSl v229 fun v231 v232 v233 =>
                                  AM.bnd (AM.evCall Proofs.Try.prog AM.env L k (13 : Nat) [Value.pointer (some { block := s3, off := o3 })] v230) fun v234 v235 =>
                                    AM.asT v234 fun v236 =>
                                      AM.uncons v236 fun v237 v238 =>
                                        AM.asI IntKind.i64 v237 fun v239 =>
                                          AM.uncons v238 fun v240 v241 =>
                                            AM.asI IntKind.i64 v240 fun v242 =>
                                              AM.uncons v241 fun v243 v244 =>
                                                AM.asI IntKind.i64 v243 fun v245 =>
                                                  AM.endl v244
                                                    (AM.br (v239 != s7) (some (Value.bool false, v235))
                                                      (AM.br (decide (v245 > (↑v232 : Int))) (some (Value.bool false, v235))
                                                        (AM.br (decide ((↑v232 : Int) > v242)) (some (Value.bool false, v235))
                                                          (AM.br (decide (v242 > v239)) (some (Value.bool false, v235))
                                                            (AM.br (decide (IntKind.wrap IntKind.i64 (v242 - v245) > (4 : Int))) (some (Value.bool false, v235))
                                                              (AM.lpAt Proofs.Try.prog AM.env L k (5 : Nat) [true, true, true, true, true, true, false, true, false, true, true, false, true, true, true, true, true, true] [n] L
                                                                [((0 : Nat), Value.slice s0 s0n s0z), ((3 : Nat), Value.pointer (some { block := s3, off := o3 })), ((4 : Nat), Value.pointer (some { block := s4, off := o4 })),
                                                                  ((5 : Nat), Value.slice s5 s5n s5z), ((6 : Nat), Value.slice s6 s6n s6z), ((7 : Nat), Value.int IntKind.i64 s7), ((9 : Nat), Value.slice v231 v232 v233),
                                                                  ((27 : Nat), Value.int IntKind.i64 s27), ((28 : Nat), Value.int IntKind.i64 s28), ((156 : Nat), Value.int IntKind.i64 (↑v232 : Int)),
                                                                  ((157 : Nat), Value.int IntKind.i64 (0 : Int))]
                                                                v235)))))))))
                    (AM.bnd (AM.evCall Proofs.Try.prog AM.env L k (10 : Nat) [Value.pointer (some { block := s4, off := o4 })] σ) fun v246 v247 =>
                      AM.asSl v246 fun v248 v249 v250 =>
                        AM.bnd (AM.evCall Proofs.Try.prog AM.env L k (13 : Nat) [Value.pointer (some { block := s3, off := o3 })] v247) fun v251 v252 =>
                          AM.asT v251 fun v253 =>
                            AM.uncons v253 fun v254 v255 =>
                              AM.asI IntKind.i64 v254 fun v256 =>
                                AM.uncons v255 fun v257 v258 =>
                                  AM.asI IntKind.i64 v257 fun v259 =>
                                    AM.uncons v258 fun v260 v261 =>
                                      AM.asI IntKind.i64 v260 fun v262 =>
                                        AM.endl v261
                                          (AM.br (v256 != s7) (some (Value.bool false, v252))
                                            (AM.br (decide (v262 > (↑v249 : Int))) (some (Value.bool false, v252))
                                              (AM.br (decide ((↑v249 : Int) > v259)) (some (Value.bool false, v252))
                                                (AM.br (decide (v259 > v256)) (some (Value.bool false, v252))
                                                  (AM.br (decide (IntKind.wrap IntKind.i64 (v259 - v262) > (4 : Int))) (some (Value.bool false, v252))
                                                    (AM.lpAt Proofs.Try.prog AM.env L k (5 : Nat) [true, true, true, true, true, true, false, true, false, true, true, false, true, true, true, true, true, true] [n] L
                                                      [((0 : Nat), Value.slice s0 s0n s0z), ((3 : Nat), Value.pointer (some { block := s3, off := o3 })), ((4 : Nat), Value.pointer (some { block := s4, off := o4 })),
                                                        ((5 : Nat), Value.slice s5 s5n s5z), ((6 : Nat), Value.slice s6 s6n s6z), ((7 : Nat), Value.int IntKind.i64 s7), ((9 : Nat), Value.slice v248 v249 v250),
                                                        ((27 : Nat), Value.int IntKind.i64 s27), ((28 : Nat), Value.int IntKind.i64 s28), ((156 : Nat), Value.int IntKind.i64 (↑v249 : Int)), ((157 : Nat), Value.int IntKind.i64 (0 : Int))]
                                                      v252)))))))))))))
  (some (Value.bool true, σ)) := by kernel_rfl
theorem f5_l30 (L k m0 n : Nat) (σ : St) (s0 : Option Addr) (s0n s0z : Nat) (s3 o3 : Nat) (s4 o4 : Nat) (s5 : Option Addr) (s5n s5z : Nat) (s6 : Option Addr) (s6n s6z : Nat) (s7 : Int) (s9 : Option Addr) (s9n s9z : Nat) (s27 : Int) (s28 : Int) (s156 : Int) (s157 : Int) : lpAt Go.Proofs.Try.prog Go.AM.env L k 5 [true, true, true, true, true, true, false, true, false, true, true, false, true, true, true, true, true, true] [m0] (n + 1) [(0, .slice s0 s0n s0z), (3, .pointer (some ⟨s3, o3, none⟩)), (4, .pointer (some ⟨s4, o4, none⟩)), (5, .slice s5 s5n s5z), (6, .slice s6 s6n s6z), (7, .int .i64 s7), (9, .slice s9 s9n s9z), (27, .int .i64 s27), (28, .int .i64 s28), (156, .int .i64 s156), (157, .int .i64 s157)] σ =
    AM.br (decide (s157 < s156))
  (AM.need (AM.inRange s157 (↑s9n : Int))
    (AM.adr s9 fun v1 v2 =>
      AM.St.ld σ v1 (v2 + Int.toNat s157 * (1 : Nat)) fun v3 =>
        AM.asI IntKind.i64 v3 fun v4 =>
          AM.br (v4 != IntKind.wrap IntKind.i64 ((3 : Int) * IntKind.wrap IntKind.i64 (s157 + (1 : Int)))) (some (Value.bool false, σ))
            (AM.lpAt Proofs.Try.prog AM.env L k (5 : Nat) [true, true, true, true, true, true, false, true, false, true, true, false, true, true, true, true, true, true] [m0] n
              [((0 : Nat), Value.slice s0 s0n s0z), ((3 : Nat), Value.pointer (some { block := s3, off := o3 })), ((4 : Nat), Value.pointer (some { block := s4, off := o4 })), ((5 : Nat), Value.slice s5 s5n s5z),
                ((6 : Nat), Value.slice s6 s6n s6z), ((7 : Nat), Value.int IntKind.i64 s7), ((9 : Nat), Value.slice s9 s9n s9z), ((27 : Nat), Value.int IntKind.i64 s27), ((28 : Nat), Value.int IntKind.i64 s28),
                ((156 : Nat), Value.int IntKind.i64 s156), ((157 : Nat), Value.int IntKind.i64 (IntKind.wrap IntKind.i64 (s157 + (1 : Int))))]
              σ)))
  (AM.lpAt Proofs.Try.prog AM.env L k (5 : Nat) [true, true, true, true, true, true, false, true] [] m0
    [((0 : Nat), Value.slice s0 s0n s0z), ((3 : Nat), Value.pointer (some { block := s3, off := o3 })), ((4 : Nat), Value.pointer (some { block := s4, off := o4 })), ((5 : Nat), Value.slice s5 s5n s5z), ((6 : Nat), Value.slice s6 s6n s6z),
      ((7 : Nat), Value.int IntKind.i64 s7), ((27 : Nat), Value.int IntKind.i64 s27), ((28 : Nat), Value.int IntKind.i64 (IntKind.wrap IntKind.i64 (s28 + (1 : Int))))]
    σ) := by kernel_rfl
/-! isobar/isobarlaw09.WindowHeals: 6; parameters [l, more] -/
theorem f6_eq (L k : Nat) (σ : St) (a0 : Option Addr) (a0n a0z : Nat) (a1 : Int) : evCall Go.Proofs.Try.prog Go.AM.env L (k + 1) 6 [.slice a0 a0n a0z, .int .u8 a1] σ =
    AM.bnd (AM.evCall Proofs.Try.prog AM.env L k (8 : Nat) [] σ) fun v1 v2 =>
  AM.asB v1 fun v3 =>
    AM.br (!v3) (AM.bnd (AM.evCall Proofs.Try.prog AM.env L k (8 : Nat) [] v2) fun v4 v5 => AM.asB v4 fun v6 => some (Value.bool v6, v5))
      (AM.br (decide ((↑a0n : Int) > (300 : Int))) (AM.bnd (AM.evCall Proofs.Try.prog AM.env L k (8 : Nat) [] v2) fun v7 v8 => AM.asB v7 fun v9 => some (Value.bool v9, v8))
        (AM.lpAt Proofs.Try.prog AM.env L k (6 : Nat) [true, true, true, true, false, true] [] L
          [((0 : Nat), Value.slice a0 a0n a0z), ((1 : Nat), Value.int IntKind.u8 a1), ((5 : Nat), Value.pointer (some { block := AM.St.next v2, off := (0 : Nat) })),
            ((6 : Nat), Value.pointer (some { block := AM.St.next (AM.St.new v2 (AM.Blk.own [Value.slice none (0 : Nat) (0 : Nat), Value.int IntKind.i64 (0 : Int), Value.int IntKind.i64 (0 : Int)] (35 : Nat))), off := (0 : Nat) })),
            ((7 : Nat), Value.slice none (0 : Nat) (0 : Nat)), ((32 : Nat), Value.int IntKind.i64 (↑a0n : Int)), ((33 : Nat), Value.int IntKind.i64 (0 : Int))]
          (AM.St.new (AM.St.new v2 (AM.Blk.own [Value.slice none (0 : Nat) (0 : Nat), Value.int IntKind.i64 (0 : Int), Value.int IntKind.i64 (0 : Int)] (35 : Nat))) (AM.Blk.own [Value.slice none (0 : Nat) (0 : Nat)] (27 : Nat))))) := by kernel_rfl
theorem f6_l6 (L k n : Nat) (σ : St) (s0 : Option Addr) (s0n s0z : Nat) (s1 : Int) (s5 o5 : Nat) (s6 o6 : Nat) (s7 : Option Addr) (s7n s7z : Nat) (s32 : Int) (s33 : Int) : lpAt Go.Proofs.Try.prog Go.AM.env L k 6 [true, true, true, true, false, true] [] (n + 1) [(0, .slice s0 s0n s0z), (1, .int .u8 s1), (5, .pointer (some ⟨s5, o5, none⟩)), (6, .pointer (some ⟨s6, o6, none⟩)), (7, .slice s7 s7n s7z), (32, .int .i64 s32), (33, .int .i64 s33)] σ =
    AM.br (decide (s33 < s32))
  (AM.need (AM.inRange s33 (↑s0n : Int))
    (AM.adr s0 fun v1 v2 =>
      AM.St.ld σ v1 (v2 + Int.toNat s33 * (2 : Nat) + (0 : Nat)) fun v3 =>
        AM.asI IntKind.i64 v3 fun v4 =>
          AM.br (v4 == (1 : Int))
            (AM.bnd (AM.evCall Proofs.Try.prog AM.env L k (11 : Nat) [Value.pointer (some { block := s5, off := o5 }), Value.int IntKind.i64 s33] σ) fun v5 v6 =>
              AM.asT v5 fun v7 =>
                AM.endl v7
                  (AM.lpAt Proofs.Try.prog AM.env L k (6 : Nat) [true, true, true, true, false, true] [] n
                    [((0 : Nat), Value.slice s0 s0n s0z), ((1 : Nat), Value.int IntKind.u8 s1), ((5 : Nat), Value.pointer (some { block := s5, off := o5 })), ((6 : Nat), Value.pointer (some { block := s6, off := o6 })),
                      ((7 : Nat), Value.slice s7 s7n s7z), ((32 : Nat), Value.int IntKind.i64 s32), ((33 : Nat), Value.int IntKind.i64 (IntKind.wrap IntKind.i64 (s33 + (1 : Int))))]
                    v6))
            (AM.br (v4 == (2 : Int))
              (AM.bnd (AM.evCall Proofs.Try.prog AM.env L k (12 : Nat) [Value.pointer (some { block := s5, off := o5 })] σ) fun v8 v9 =>
                AM.asSl v8 fun v10 v11 v12 =>
                  AM.St.row v9 v10 (v11 * (2 : Nat)) fun v13 =>
                    AM.grow (30 : Nat) (2 : Nat) (16 : Nat) s7 s7n s7z v11 v13 v9 fun v14 v15 v16 v17 =>
                      AM.lpAt Proofs.Try.prog AM.env L k (6 : Nat) [true, true, true, true, false, true] [] n
                        [((0 : Nat), Value.slice s0 s0n s0z), ((1 : Nat), Value.int IntKind.u8 s1), ((5 : Nat), Value.pointer (some { block := s5, off := o5 })), ((6 : Nat), Value.pointer (some { block := s6, off := o6 })),
                          ((7 : Nat), Value.slice v14 v15 v16), ((32 : Nat), Value.int IntKind.i64 s32), ((33 : Nat), Value.int IntKind.i64 (IntKind.wrap IntKind.i64 (s33 + (1 : Int))))]
                        v17)
              (AM.br (v4 == (4 : Int))
                (AM.need (AM.inRange s33 (↑s0n : Int))
                  (AM.adr s0 fun v18 v19 =>
                    AM.St.ld σ v18 (v19 + Int.toNat s33 * (2 : Nat) + (1 : Nat)) fun v20 =>
                      AM.asI IntKind.i64 v20 fun v21 =>
                        AM.br (decide (v21 ≥ (0 : Int)))
                          (AM.need (AM.inRange s33 (↑s0n : Int))
                            (AM.adr s0 fun v22 v23 =>
                              AM.St.ld σ v22 (v23 + Int.toNat s33 * (2 : Nat) + (1 : Nat)) fun v24 =>
                                AM.asI IntKind.i64 v24 fun v25 =>
                                  AM.br (decide (v25 < (↑s7n : Int)))
                                    (AM.need (AM.inRange s33 (↑s0n : Int))
                                      (AM.adr s0 fun v26 v27 =>
                                        AM.St.ld σ v26 (v27 + Int.toNat s33 * (2 : Nat) + (1 : Nat)) fun v28 =>
                                          AM.asI IntKind.i64 v28 fun v29 =>
                                            AM.need (AM.inRange v29 (↑s7n : Int))
                                              (AM.adr s7 fun v30 v31 =>
                                                AM.St.lds σ v30 (v31 + Int.toNat v29 * (2 : Nat)) (2 : Nat) fun v32 =>
                                                  AM.uncons v32 fun v33 v34 =>
                                                    AM.asI IntKind.i64 v33 fun v35 =>
                                                      AM.uncons v34 fun v36 v37 =>
                                                        AM.asI IntKind.i64 v36 fun v38 =>
                                                          AM.endl v37
                                                            (AM.bnd (AM.evCall Proofs.Try.prog AM.env L k (9 : Nat) [Value.pointer (some { block := s6, off := o6 }), Value.agg #[Value.int IntKind.i64 v35, Value.int IntKind.i64 v38]] σ)
                                                              fun v39 v40 =>
                                                              AM.asI IntKind.i64 v39 fun v41 =>
                                                                AM.lpAt Proofs.Try.prog AM.env L k (6 : Nat) [true, true, true, true, false, true] [] n
                                                                  [((0 : Nat), Value.slice s0 s0n s0z), ((1 : Nat), Value.int IntKind.u8 s1), ((5 : Nat), Value.pointer (some { block := s5, off := o5 })),
                                                                    ((6 : Nat), Value.pointer (some { block := s6, off := o6 })), ((7 : Nat), Value.slice s7 s7n s7z), ((32 : Nat), Value.int IntKind.i64 s32),
                                                                    ((33 : Nat), Value.int IntKind.i64 (IntKind.wrap IntKind.i64 (s33 + (1 : Int))))]
                                                                  v40))))
                                    (AM.lpAt Proofs.Try.prog AM.env L k (6 : Nat) [true, true, true, true, false, true] [] n
                                      [((0 : Nat), Value.slice s0 s0n s0z), ((1 : Nat), Value.int IntKind.u8 s1), ((5 : Nat), Value.pointer (some { block := s5, off := o5 })), ((6 : Nat), Value.pointer (some { block := s6, off := o6 })),
                                        ((7 : Nat), Value.slice s7 s7n s7z), ((32 : Nat), Value.int IntKind.i64 s32), ((33 : Nat), Value.int IntKind.i64 (IntKind.wrap IntKind.i64 (s33 + (1 : Int))))]
                                      σ)))
                          (AM.lpAt Proofs.Try.prog AM.env L k (6 : Nat) [true, true, true, true, false, true] [] n
                            [((0 : Nat), Value.slice s0 s0n s0z), ((1 : Nat), Value.int IntKind.u8 s1), ((5 : Nat), Value.pointer (some { block := s5, off := o5 })), ((6 : Nat), Value.pointer (some { block := s6, off := o6 })),
                              ((7 : Nat), Value.slice s7 s7n s7z), ((32 : Nat), Value.int IntKind.i64 s32), ((33 : Nat), Value.int IntKind.i64 (IntKind.wrap IntKind.i64 (s33 + (1 : Int))))]
                            σ)))
                (AM.br (v4 == (5 : Int))
                  (AM.bnd (AM.evCall Proofs.Try.prog AM.env L k (10 : Nat) [Value.pointer (some { block := s6, off := o6 })] σ) fun v42 v43 =>
                    AM.asSl v42 fun v44 v45 v46 =>
                      AM.bnd (AM.evCall Proofs.Try.prog AM.env L k (14 : Nat) [Value.pointer (some { block := s5, off := o5 }), Value.int IntKind.i64 (↑v45 : Int)] v43) fun v47 v48 =>
                        AM.lpAt Proofs.Try.prog AM.env L k (6 : Nat) [true, true, true, true, false, true] [] n
                          [((0 : Nat), Value.slice s0 s0n s0z), ((1 : Nat), Value.int IntKind.u8 s1), ((5 : Nat), Value.pointer (some { block := s5, off := o5 })), ((6 : Nat), Value.pointer (some { block := s6, off := o6 })),
                            ((7 : Nat), Value.slice s7 s7n s7z), ((32 : Nat), Value.int IntKind.i64 s32), ((33 : Nat), Value.int IntKind.i64 (IntKind.wrap IntKind.i64 (s33 + (1 : Int))))]
                          v48)
                  (AM.lpAt Proofs.Try.prog AM.env L k (6 : Nat) [true, true, true, true, false, true] [] n
                    [((0 : Nat), Value.slice s0 s0n s0z), ((1 : Nat), Value.int IntKind.u8 s1), ((5 : Nat), Value.pointer (some { block := s5, off := o5 })), ((6 : Nat), Value.pointer (some { block := s6, off := o6 })),
                      ((7 : Nat), Value.slice s7 s7n s7z), ((32 : Nat), Value.int IntKind.i64 s32), ((33 : Nat), Value.int IntKind.i64 (IntKind.wrap IntKind.i64 (s33 + (1 : Int))))]
                    σ))))))
  (AM.lpAt Proofs.Try.prog AM.env L k (6 : Nat) [true, true, true, true, true, false, true] [] L
    [((5 : Nat), Value.pointer (some { block := s5, off := o5 })), ((6 : Nat), Value.pointer (some { block := s6, off := o6 })), ((90 : Nat), Value.int IntKind.i64 (Int.tmod (IntKind.wrap IntKind.i64 s1) (20 : Int))),
      ((91 : Nat), Value.int IntKind.i64 (0 : Int))]
    σ) := by kernel_rfl
theorem f6_l20 (L k n : Nat) (σ : St) (s5 o5 : Nat) (s6 o6 : Nat) (s90 : Int) (s91 : Int) : lpAt Go.Proofs.Try.prog Go.AM.env L k 6 [true, true, true, true, true, false, true] [] (n + 1) [(5, .pointer (some ⟨s5, o5, none⟩)), (6, .pointer (some ⟨s6, o6, none⟩)), (90, .int .i64 s90), (91, .int .i64 s91)] σ =
    AM.br (decide (s91 < s90))
  (AM.bnd (AM.evCall Proofs.Try.prog AM.env L k (11 : Nat) [Value.pointer (some { block := s5, off := o5 }), Value.int IntKind.i64 (IntKind.wrap IntKind.i64 ((0 : Int) - s91))] σ) fun v1 v2 =>
    AM.asT v1 fun v3 =>
      AM.endl v3
        (AM.lpAt Proofs.Try.prog AM.env L k (6 : Nat) [true, true, true, true, true, false, true] [] n
          [((5 : Nat), Value.pointer (some { block := s5, off := o5 })), ((6 : Nat), Value.pointer (some { block := s6, off := o6 })), ((90 : Nat), Value.int IntKind.i64 s90),
            ((91 : Nat), Value.int IntKind.i64 (IntKind.wrap IntKind.i64 (s91 + (1 : Int))))]
          v2))
  (AM.bnd (AM.evCall Proofs.Try.prog AM.env L k (13 : Nat) [Value.pointer (some { block := s5, off := o5 })] σ) fun v4 v5 =>
    AM.asT v4 fun v6 =>
      AM.uncons v6 fun v7 v8 =>
        AM.asI IntKind.i64 v7 fun v9 =>
          AM.uncons v8 fun v10 v11 =>
            AM.asI IntKind.i64 v10 fun v12 =>
              AM.uncons v11 fun v13 v14 =>
                AM.asI IntKind.i64 v13 fun v15 =>
                  AM.endl v14
                    (AM.lpAt Proofs.Try.prog AM.env L k (6 : Nat) [true, true, true, true, true, true, true, false, true] [] L
                      [((5 : Nat), Value.pointer (some { block := s5, off := o5 })), ((6 : Nat), Value.pointer (some { block := s6, off := o6 })), ((10 : Nat), Value.int IntKind.i64 v9), ((105 : Nat), Value.int IntKind.i64 v9),
                        ((106 : Nat), Value.int IntKind.i64 (0 : Int))]
                      v5)) := by kernel_rfl
theorem f6_l26 (L k n : Nat) (σ : St) (s5 o5 : Nat) (s6 o6 : Nat) (s10 : Int) (s105 : Int) (s106 : Int) : lpAt Go.Proofs.Try.prog Go.AM.env L k 6 [true, true, true, true, true, true, true, false, true] [] (n + 1) [(5, .pointer (some ⟨s5, o5, none⟩)), (6, .pointer (some ⟨s6, o6, none⟩)), (10, .int .i64 s10), (105, .int .i64 s105), (106, .int .i64 s106)] σ =
    AM.br (decide (s106 < s105))
  (AM.bnd (AM.evCall Proofs.Try.prog AM.env L k (15 : Nat) [Value.pointer (some { block := s5, off := o5 })] σ) fun v1 v2 =>
    AM.asSl v1 fun v3 v4 v5 =>
      AM.bnd (AM.evCall Proofs.Try.prog AM.env L k (12 : Nat) [Value.pointer (some { block := s5, off := o5 })] v2) fun v6 v7 =>
        AM.asSl v6 fun v8 v9 v10 =>
          AM.St.row v7 v8 (v9 * (2 : Nat)) fun v11 =>
            AM.grow (30 : Nat) (2 : Nat) (16 : Nat) v3 v4 v5 v9 v11 v7 fun v12 v13 v14 v15 =>
              AM.bnd (AM.evCall Proofs.Try.prog AM.env L k (10 : Nat) [Value.pointer (some { block := s6, off := o6 })] v15) fun v16 v17 =>
                AM.asSl v16 fun v18 v19 v20 =>
                  AM.lpAt Proofs.Try.prog AM.env L k (6 : Nat) [true, true, true, true, true, true, true, false, true, false, true, true, false, true, true, false, true] [n] L
                    [((5 : Nat), Value.pointer (some { block := s5, off := o5 })), ((6 : Nat), Value.pointer (some { block := s6, off := o6 })), ((10 : Nat), Value.int IntKind.i64 s10), ((13 : Nat), Value.slice v12 v13 v14),
                      ((14 : Nat), Value.int IntKind.i64 (↑v19 : Int)), ((105 : Nat), Value.int IntKind.i64 s105), ((106 : Nat), Value.int IntKind.i64 s106), ((117 : Nat), Value.int IntKind.i64 (↑v13 : Int)),
                      ((118 : Nat), Value.int IntKind.i64 (0 : Int))]
                    v17)
  (AM.bnd (AM.evCall Proofs.Try.prog AM.env L k (13 : Nat) [Value.pointer (some { block := s5, off := o5 })] σ) fun v21 v22 =>
    AM.asT v21 fun v23 =>
      AM.uncons v23 fun v24 v25 =>
        AM.asI IntKind.i64 v24 fun v26 =>
          AM.uncons v25 fun v27 v28 =>
            AM.asI IntKind.i64 v27 fun v29 =>
              AM.uncons v28 fun v30 v31 =>
                AM.asI IntKind.i64 v30 fun v32 =>
                  AM.endl v31
                    (AM.bnd (AM.evCall Proofs.Try.prog AM.env L k (10 : Nat) [Value.pointer (some { block := s6, off := o6 })] v22) fun v33 v34 =>
                      AM.asSl v33 fun v35 v36 v37 =>
                        AM.br ((↑v36 : Int) == s10)
                          (AM.br (v29 == s10)
                            (AM.br (v32 == s10)
                              (AM.bnd (AM.evCall Proofs.Try.prog AM.env L k (12 : Nat) [Value.pointer (some { block := s5, off := o5 })] v34) fun v38 v39 =>
                                AM.asSl v38 fun v40 v41 v42 =>
                                  AM.br ((↑v41 : Int) == (0 : Int))
                                    (AM.bnd (AM.evCall Proofs.Try.prog AM.env L k (15 : Nat) [Value.pointer (some { block := s5, off := o5 })] v39) fun v43 v44 =>
                                      AM.asSl v43 fun v45 v46 v47 => some (Value.bool ((↑v46 : Int) == (0 : Int)), v44))
                                    (some (Value.bool false, v39)))
                              (some (Value.bool false, v34)))
                            (some (Value.bool false, v34)))
                          (some (Value.bool false, v34)))) := by kernel_rfl
theorem f6_l30 (L k m0 n : Nat) (σ : St) (s5 o5 : Nat) (s6 o6 : Nat) (s10 : Int) (s13 : Option Addr) (s13n s13z : Nat) (s14 : Int) (s105 : Int) (s106 : Int) (s117 : Int) (s118 : Int) : lpAt Go.Proofs.Try.prog Go.AM.env L k 6 [true, true, true, true, true, true, true, false, true, false, true, true, false, true, true, false, true] [m0] (n + 1) [(5, .pointer (some ⟨s5, o5, none⟩)), (6, .pointer (some ⟨s6, o6, none⟩)), (10, .int .i64 s10), (13, .slice s13 s13n s13z), (14, .int .i64 s14), (105, .int .i64 s105), (106, .int .i64 s106), (117, .int .i64 s117), (118, .int .i64 s118)] σ =
    AM.br (decide (s118 < s117))
  (AM.need (AM.inRange s118 (↑s13n : Int))
    (AM.adr s13 fun v1 v2 =>
      AM.St.lds σ v1 (v2 + Int.toNat s118 * (2 : Nat)) (2 : Nat) fun v3 =>
        AM.uncons v3 fun v4 v5 =>
          AM.asI IntKind.i64 v4 fun v6 =>
            AM.uncons v5 fun v7 v8 =>
              AM.asI IntKind.i64 v7 fun v9 =>
                AM.endl v8
                  (AM.bnd (AM.evCall Proofs.Try.prog AM.env L k (9 : Nat) [Value.pointer (some { block := s6, off := o6 }), Value.agg #[Value.int IntKind.i64 v6, Value.int IntKind.i64 v9]] σ) fun v10 v11 =>
                    AM.asI IntKind.i64 v10 fun v12 =>
                      AM.lpAt Proofs.Try.prog AM.env L k (6 : Nat) [true, true, true, true, true, true, true, false, true, false, true, true, false, true, true, false, true] [m0] n
                        [((5 : Nat), Value.pointer (some { block := s5, off := o5 })), ((6 : Nat), Value.pointer (some { block := s6, off := o6 })), ((10 : Nat), Value.int IntKind.i64 s10), ((13 : Nat), Value.slice s13 s13n s13z),
                          ((14 : Nat), Value.int IntKind.i64 v12), ((105 : Nat), Value.int IntKind.i64 s105), ((106 : Nat), Value.int IntKind.i64 s106), ((117 : Nat), Value.int IntKind.i64 s117),
                          ((118 : Nat), Value.int IntKind.i64 (IntKind.wrap IntKind.i64 (s118 + (1 : Int))))]
                        v11)))
  (AM.bnd (AM.evCall Proofs.Try.prog AM.env L k (14 : Nat) [Value.pointer (some { block := s5, off := o5 }), Value.int IntKind.i64 s14] σ) fun v13 v14 =>
    AM.eqNil v13 fun v15 =>
      AM.br (!v15) (some (Value.bool false, v14))
        (AM.lpAt Proofs.Try.prog AM.env L k (6 : Nat) [true, true, true, true, true, true, true, false, true] [] m0
          [((5 : Nat), Value.pointer (some { block := s5, off := o5 })), ((6 : Nat), Value.pointer (some { block := s6, off := o6 })), ((10 : Nat), Value.int IntKind.i64 s10), ((105 : Nat), Value.int IntKind.i64 s105),
            ((106 : Nat), Value.int IntKind.i64 (IntKind.wrap IntKind.i64 (s106 + (1 : Int))))]
          v14)) := by kernel_rfl
/-! isobar/isobartop.TopWindow: 7; parameters [l, many] -/
theorem f7_eq (L k : Nat) (σ : St) (a0 : Option Addr) (a0n a0z : Nat) (a1 : Int) : evCall Go.Proofs.Try.prog Go.AM.env L (k + 1) 7 [.slice a0 a0n a0z, .int .u8 a1] σ =
    AM.bnd
  (AM.evCall Proofs.Try.prog AM.env L k (16 : Nat) [Value.int IntKind.i64 (500 : Int)]
    (AM.St.new (AM.St.new σ (AM.Blk.own [Value.slice none (0 : Nat) (0 : Nat), Value.int IntKind.i64 (0 : Int), Value.int IntKind.i64 (0 : Int)] (35 : Nat))) (AM.Blk.own [Value.slice none (0 : Nat) (0 : Nat)] (27 : Nat))))
  fun v1 v2 =>
  AM.asP v1 fun v3 =>
    AM.br (Option.isNone v3) (some (Value.bool false, v2))
      (AM.br (decide ((↑a0n : Int) > (200 : Int))) (some (Value.bool true, v2))
        (AM.lpAt Proofs.Try.prog AM.env L k (7 : Nat) [true, true, true, true, true, true, false, true] [] L
          [((0 : Nat), Value.slice a0 a0n a0z), ((5 : Nat), Value.pointer (some { block := AM.St.next σ, off := (0 : Nat) })),
            ((6 : Nat), Value.pointer (some { block := AM.St.next (AM.St.new σ (AM.Blk.own [Value.slice none (0 : Nat) (0 : Nat), Value.int IntKind.i64 (0 : Int), Value.int IntKind.i64 (0 : Int)] (35 : Nat))), off := (0 : Nat) })),
            ((7 : Nat), Value.pointer v3), ((8 : Nat), Value.int IntKind.i64 (IntKind.wrap IntKind.i64 ((1 : Int) + Int.tmod (IntKind.wrap IntKind.i64 a1) (30 : Int)))),
            ((36 : Nat), Value.int IntKind.i64 (IntKind.wrap IntKind.i64 ((1 : Int) + Int.tmod (IntKind.wrap IntKind.i64 a1) (30 : Int)))), ((37 : Nat), Value.int IntKind.i64 (0 : Int))]
          v2)) := by kernel_rfl
theorem f7_l9 (L k n : Nat) (σ : St) (s0 : Option Addr) (s0n s0z : Nat) (s5 o5 : Nat) (s6 o6 : Nat) (s7 o7 : Nat) (s8 : Int) (s36 : Int) (s37 : Int) : lpAt Go.Proofs.Try.prog Go.AM.env L k 7 [true, true, true, true, true, true, false, true] [] (n + 1) [(0, .slice s0 s0n s0z), (5, .pointer (some ⟨s5, o5, none⟩)), (6, .pointer (some ⟨s6, o6, none⟩)), (7, .pointer (some ⟨s7, o7, none⟩)), (8, .int .i64 s8), (36, .int .i64 s36), (37, .int .i64 s37)] σ =
    AM.br (decide (s37 < s36))
  (AM.bnd (AM.evCall Proofs.Try.prog AM.env L k (11 : Nat) [Value.pointer (some { block := s5, off := o5 }), Value.int IntKind.i64 (IntKind.wrap IntKind.i64 (s37 * s37))] σ) fun v1 v2 =>
    AM.asT v1 fun v3 =>
      AM.endl v3
        (AM.lpAt Proofs.Try.prog AM.env L k (7 : Nat) [true, true, true, true, true, true, false, true] [] n
          [((0 : Nat), Value.slice s0 s0n s0z), ((5 : Nat), Value.pointer (some { block := s5, off := o5 })), ((6 : Nat), Value.pointer (some { block := s6, off := o6 })), ((7 : Nat), Value.pointer (some { block := s7, off := o7 })),
            ((8 : Nat), Value.int IntKind.i64 s8), ((36 : Nat), Value.int IntKind.i64 s36), ((37 : Nat), Value.int IntKind.i64 (IntKind.wrap IntKind.i64 (s37 + (1 : Int))))]
          v2))
  (AM.lpAt Proofs.Try.prog AM.env L k (7 : Nat) [true, true, true, true, true, true, true, false, true] [] L
    [((0 : Nat), Value.slice s0 s0n s0z), ((5 : Nat), Value.pointer (some { block := s5, off := o5 })), ((6 : Nat), Value.pointer (some { block := s6, off := o6 })), ((7 : Nat), Value.pointer (some { block := s7, off := o7 })),
      ((8 : Nat), Value.int IntKind.i64 s8), ((47 : Nat), Value.int IntKind.i64 (↑s0n : Int)), ((48 : Nat), Value.int IntKind.i64 (0 : Int))]
    σ) := by kernel_rfl
theorem f7_l14 (L k n : Nat) (σ : St) (s0 : Option Addr) (s0n s0z : Nat) (s5 o5 : Nat) (s6 o6 : Nat) (s7 o7 : Nat) (s8 : Int) (s47 : Int) (s48 : Int) : lpAt Go.Proofs.Try.prog Go.AM.env L k 7 [true, true, true, true, true, true, true, false, true] [] (n + 1) [(0, .slice s0 s0n s0z), (5, .pointer (some ⟨s5, o5, none⟩)), (6, .pointer (some ⟨s6, o6, none⟩)), (7, .pointer (some ⟨s7, o7, none⟩)), (8, .int .i64 s8), (47, .int .i64 s47), (48, .int .i64 s48)] σ =
    AM.br (decide (s48 < s47))
  (AM.need (AM.inRange s48 (↑s0n : Int))
    (AM.adr s0 fun v1 v2 =>
      AM.St.ld σ v1 (v2 + Int.toNat s48 * (5 : Nat) + (0 : Nat)) fun v3 =>
        AM.asI IntKind.i64 v3 fun v4 =>
          AM.br (v4 == (1 : Int))
            (AM.bnd (AM.evCall Proofs.Try.prog AM.env L k (15 : Nat) [Value.pointer (some { block := s5, off := o5 })] σ) fun v5 v6 =>
              AM.asSl v5 fun v7 v8 v9 =>
                AM.bnd (AM.evCall Proofs.Try.prog AM.env L k (12 : Nat) [Value.pointer (some { block := s5, off := o5 })] v6) fun v10 v11 =>
                  AM.asSl v10 fun v12 v13 v14 =>
                    AM.St.row v11 v12 (v13 * (2 : Nat)) fun v15 =>
                      AM.grow (30 : Nat) (2 : Nat) (16 : Nat) v7 v8 v9 v13 v15 v11 fun v16 v17 v18 v19 =>
                        AM.lpAt Proofs.Try.prog AM.env L k (7 : Nat) [true, true, true, true, true, true, true, false, true, false, true, true, false, true, true, true, false, true] [n] L
                          [((0 : Nat), Value.slice s0 s0n s0z), ((5 : Nat), Value.pointer (some { block := s5, off := o5 })), ((6 : Nat), Value.pointer (some { block := s6, off := o6 })),
                            ((7 : Nat), Value.pointer (some { block := s7, off := o7 })), ((8 : Nat), Value.int IntKind.i64 s8), ((47 : Nat), Value.int IntKind.i64 s47), ((48 : Nat), Value.int IntKind.i64 s48),
                            ((62 : Nat), Value.slice v16 v17 v18), ((63 : Nat), Value.int IntKind.i64 (↑v17 : Int)), ((64 : Nat), Value.int IntKind.i64 (0 : Int))]
                          v19)
            (AM.br (v4 == (2 : Int))
              (AM.need (AM.inRange s48 (↑s0n : Int))
                (AM.adr s0 fun v20 v21 =>
                  AM.St.ld σ v20 (v21 + Int.toNat s48 * (5 : Nat) + (1 : Nat)) fun v22 =>
                    AM.asI IntKind.i64 v22 fun v23 =>
                      AM.bnd (AM.evCall Proofs.Try.prog AM.env L k (18 : Nat) [Value.pointer (some { block := s7, off := o7 }), Value.int IntKind.i64 v23] σ) fun v24 v25 =>
                        AM.asT v24 fun v26 =>
                          AM.uncons v26 fun v27 v28 =>
                            AM.asAgL v27 fun v29 =>
                              AM.uncons v29 fun v30 v31 =>
                                AM.asI IntKind.i64 v30 fun v32 =>
                                  AM.uncons v31 fun v33 v34 =>
                                    AM.asI IntKind.i64 v33 fun v35 =>
                                      AM.endl v34
                                        (AM.uncons v28 fun v36 v37 =>
                                          AM.endl v37
                                            (AM.St.put (AM.St.new v25 (AM.Blk.own [Value.int IntKind.i64 (0 : Int), Value.int IntKind.i64 (0 : Int)] (30 : Nat))) (AM.St.next v25) (0 : Nat)
                                              [Value.int IntKind.i64 v32, Value.int IntKind.i64 v35] fun v38 =>
                                              AM.eqNil v36 fun v39 =>
                                                AM.br v39
                                                  (AM.St.lds v38 (AM.St.next v25) (0 : Nat) (2 : Nat) fun v40 =>
                                                    AM.uncons v40 fun v41 v42 =>
                                                      AM.asI IntKind.i64 v41 fun v43 =>
                                                        AM.uncons v42 fun v44 v45 =>
                                                          AM.asI IntKind.i64 v44 fun v46 =>
                                                            AM.endl v45
                                                              (AM.bnd (AM.evCall Proofs.Try.prog AM.env L k (9 : Nat) [Value.pointer (some { block := s6, off := o6 }), Value.agg #[Value.int IntKind.i64 v43, Value.int IntKind.i64 v46]] v38)
                                                                fun v47 v48 =>
                                                                AM.asI IntKind.i64 v47 fun v49 =>
                                                                  AM.bnd (AM.evCall Proofs.Try.prog AM.env L k (14 : Nat) [Value.pointer (some { block := s5, off := o5 }), Value.int IntKind.i64 v49] v48) fun v50 v51 =>
                                                                    AM.lpAt Proofs.Try.prog AM.env L k (7 : Nat) [true, true, true, true, true, true, true, false, true] [] n
                                                                      [((0 : Nat), Value.slice s0 s0n s0z), ((5 : Nat), Value.pointer (some { block := s5, off := o5 })), ((6 : Nat), Value.pointer (some { block := s6, off := o6 })),
                                                                        ((7 : Nat), Value.pointer (some { block := s7, off := o7 })), ((8 : Nat), Value.int IntKind.i64 s8), ((47 : Nat), Value.int IntKind.i64 s47),
                                                                        ((48 : Nat), Value.int IntKind.i64 (IntKind.wrap IntKind.i64 (s48 + (1 : Int))))]
                                                                      v51))
                                                  (AM.lpAt Proofs.Try.prog AM.env L k (7 : Nat) [true, true, true, true, true, true, true, false, true] [] n
                                                    [((0 : Nat), Value.slice s0 s0n s0z), ((5 : Nat), Value.pointer (some { block := s5, off := o5 })), ((6 : Nat), Value.pointer (some { block := s6, off := o6 })),
                                                      ((7 : Nat), Value.pointer (some { block := s7, off := o7 })), ((8 : Nat), Value.int IntKind.i64 s8), ((47 : Nat), Value.int IntKind.i64 s47),
                                                      ((48 : Nat), Value.int IntKind.i64 (IntKind.wrap IntKind.i64 (s48 + (1 : Int))))]
                                                    v38)))))
              (AM.br (v4 == (3 : Int))
                (AM.need (AM.inRange s48 (↑s0n : Int))
                  (AM.adr s0 fun v52 v53 =>
                    AM.St.ld σ v52 (v53 + Int.toNat s48 * (5 : Nat) + (1 : Nat)) fun v54 =>
                      AM.asI IntKind.i64 v54 fun v55 =>
                        AM.bnd (AM.evCall Proofs.Try.prog AM.env L k (19 : Nat) [Value.pointer (some { block := s7, off := o7 }), Value.int IntKind.i64 v55] σ) fun v56 v57 =>
                          AM.lpAt Proofs.Try.prog AM.env L k (7 : Nat) [true, true, true, true, true, true, true, false, true] [] n
                            [((0 : Nat), Value.slice s0 s0n s0z), ((5 : Nat), Value.pointer (some { block := s5, off := o5 })), ((6 : Nat), Value.pointer (some { block := s6, off := o6 })),
                              ((7 : Nat), Value.pointer (some { block := s7, off := o7 })), ((8 : Nat), Value.int IntKind.i64 s8), ((47 : Nat), Value.int IntKind.i64 s47),
                              ((48 : Nat), Value.int IntKind.i64 (IntKind.wrap IntKind.i64 (s48 + (1 : Int))))]
                            v57))
                (AM.br (v4 == (4 : Int))
                  (AM.need (AM.inRange s48 (↑s0n : Int))
                    (AM.adr s0 fun v58 v59 =>
                      AM.St.ld σ v58 (v59 + Int.toNat s48 * (5 : Nat) + (1 : Nat)) fun v60 =>
                        AM.asI IntKind.i64 v60 fun v61 =>
                          AM.bnd (AM.evCall Proofs.Try.prog AM.env L k (20 : Nat) [Value.pointer (some { block := s7, off := o7 }), Value.int IntKind.i64 v61] σ) fun v62 v63 =>
                            AM.lpAt Proofs.Try.prog AM.env L k (7 : Nat) [true, true, true, true, true, true, true, false, true] [] n
                              [((0 : Nat), Value.slice s0 s0n s0z), ((5 : Nat), Value.pointer (some { block := s5, off := o5 })), ((6 : Nat), Value.pointer (some { block := s6, off := o6 })),
                                ((7 : Nat), Value.pointer (some { block := s7, off := o7 })), ((8 : Nat), Value.int IntKind.i64 s8), ((47 : Nat), Value.int IntKind.i64 s47),
                                ((48 : Nat), Value.int IntKind.i64 (IntKind.wrap IntKind.i64 (s48 + (1 : Int))))]
                              v63))
                  (AM.lpAt Proofs.Try.prog AM.env L k (7 : Nat) [true, true, true, true, true, true, true, false, true] [] n
                    [((0 : Nat), Value.slice s0 s0n s0z), ((5 : Nat), Value.pointer (some { block := s5, off := o5 })), ((6 : Nat), Value.pointer (some { block := s6, off := o6 })),
                      ((7 : Nat), Value.pointer (some { block := s7, off := o7 })), ((8 : Nat), Value.int IntKind.i64 s8), ((47 : Nat), Value.int IntKind.i64 s47),
                      ((48 : Nat), Value.int IntKind.i64 (IntKind.wrap IntKind.i64 (s48 + (1 : Int))))]
                    σ))))))
  (AM.lpAt Proofs.Try.prog AM.env L k (7 : Nat) [true, true, true, true, true, true, true, true, false, true] [] L
    [((5 : Nat), Value.pointer (some { block := s5, off := o5 })), ((6 : Nat), Value.pointer (some { block := s6, off := o6 })), ((8 : Nat), Value.int IntKind.i64 s8), ((110 : Nat), Value.int IntKind.i64 s8),
      ((111 : Nat), Value.int IntKind.i64 (0 : Int))]
    σ) := by kernel_rfl
theorem f7_l19 (L k m0 n : Nat) (σ : St) (s0 : Option Addr) (s0n s0z : Nat) (s5 o5 : Nat) (s6 o6 : Nat) (s7 o7 : Nat) (s8 : Int) (s47 : Int) (s48 : Int) (s62 : Option Addr) (s62n s62z : Nat) (s63 : Int) (s64 : Int) : lpAt Go.Proofs.Try.prog Go.AM.env L k 7 [true, true, true, true, true, true, true, false, true, false, true, true, false, true, true, true, false, true] [m0] (n + 1) [(0, .slice s0 s0n s0z), (5, .pointer (some ⟨s5, o5, none⟩)), (6, .pointer (some ⟨s6, o6, none⟩)), (7, .pointer (some ⟨s7, o7, none⟩)), (8, .int .i64 s8), (47, .int .i64 s47), (48, .int .i64 s48), (62, .slice s62 s62n s62z), (63, .int .i64 s63), (64, .int .i64 s64)] σ =
    AM.br (decide (s64 < s63))
  (AM.need (AM.inRange s64 (↑s62n : Int))
    (AM.adr s62 fun v1 v2 =>
      AM.St.lds σ v1 (v2 + Int.toNat s64 * (2 : Nat)) (2 : Nat) fun v3 =>
        AM.uncons v3 fun v4 v5 =>
          AM.asI IntKind.i64 v4 fun v6 =>
            AM.uncons v5 fun v7 v8 =>
              AM.asI IntKind.i64 v7 fun v9 =>
                AM.endl v8
                  (AM.St.put (AM.St.new σ (AM.Blk.own [Value.int IntKind.i64 (0 : Int), Value.int IntKind.i64 (0 : Int)] (30 : Nat))) (AM.St.next σ) (0 : Nat) [Value.int IntKind.i64 v6, Value.int IntKind.i64 v9] fun v10 =>
                    AM.St.lds v10 (AM.St.next σ) (0 : Nat) (2 : Nat) fun v11 =>
                      AM.uncons v11 fun v12 v13 =>
                        AM.asI IntKind.i64 v12 fun v14 =>
                          AM.uncons v13 fun v15 v16 =>
                            AM.asI IntKind.i64 v15 fun v17 =>
                              AM.endl v16
                                (AM.bnd (AM.evCall Proofs.Try.prog AM.env L k (17 : Nat) [Value.pointer (some { block := s7, off := o7 }), Value.agg #[Value.int IntKind.i64 v14, Value.int IntKind.i64 v17]] v10) fun v18 v19 =>
                                  AM.lpAt Proofs.Try.prog AM.env L k (7 : Nat) [true, true, true, true, true, true, true, false, true, false, true, true, false, true, true, true, false, true] [m0] n
                                    [((0 : Nat), Value.slice s0 s0n s0z), ((5 : Nat), Value.pointer (some { block := s5, off := o5 })), ((6 : Nat), Value.pointer (some { block := s6, off := o6 })),
                                      ((7 : Nat), Value.pointer (some { block := s7, off := o7 })), ((8 : Nat), Value.int IntKind.i64 s8), ((47 : Nat), Value.int IntKind.i64 s47), ((48 : Nat), Value.int IntKind.i64 s48),
                                      ((62 : Nat), Value.slice s62 s62n s62z), ((63 : Nat), Value.int IntKind.i64 s63), ((64 : Nat), Value.int IntKind.i64 (IntKind.wrap IntKind.i64 (s64 + (1 : Int))))]
                                    v19))))
  (AM.lpAt Proofs.Try.prog AM.env L k (7 : Nat) [true, true, true, true, true, true, true, false, true] [] m0
    [((0 : Nat), Value.slice s0 s0n s0z), ((5 : Nat), Value.pointer (some { block := s5, off := o5 })), ((6 : Nat), Value.pointer (some { block := s6, off := o6 })), ((7 : Nat), Value.pointer (some { block := s7, off := o7 })),
      ((8 : Nat), Value.int IntKind.i64 s8), ((47 : Nat), Value.int IntKind.i64 s47), ((48 : Nat), Value.int IntKind.i64 (IntKind.wrap IntKind.i64 (s48 + (1 : Int))))]
    σ) := by kernel_rfl
theorem f7_l33 (L k n : Nat) (σ : St) (s5 o5 : Nat) (s6 o6 : Nat) (s8 : Int) (s110 : Int) (s111 : Int) : lpAt Go.Proofs.Try.prog Go.AM.env L k 7 [true, true, true, true, true, true, true, true, false, true] [] (n + 1) [(5, .pointer (some ⟨s5, o5, none⟩)), (6, .pointer (some ⟨s6, o6, none⟩)), (8, .int .i64 s8), (110, .int .i64 s110), (111, .int .i64 s111)] σ =
    AM.br (decide (s111 < s110))
  (AM.bnd (AM.evCall Proofs.Try.prog AM.env L k (15 : Nat) [Value.pointer (some { block := s5, off := o5 })] σ) fun v1 v2 =>
    AM.asSl v1 fun v3 v4 v5 =>
      AM.bnd (AM.evCall Proofs.Try.prog AM.env L k (12 : Nat) [Value.pointer (some { block := s5, off := o5 })] v2) fun v6 v7 =>
        AM.asSl v6 fun v8 v9 v10 =>
          AM.St.row v7 v8 (v9 * (2 : Nat)) fun v11 =>
            AM.grow (30 : Nat) (2 : Nat) (16 : Nat) v3 v4 v5 v9 v11 v7 fun v12 v13 v14 v15 =>
              AM.lpAt Proofs.Try.prog AM.env L k (7 : Nat) [true, true, true, true, true, true, true, true, false, true, false, true, true, false, true] [n] L
                [((5 : Nat), Value.pointer (some { block := s5, off := o5 })), ((6 : Nat), Value.pointer (some { block := s6, off := o6 })), ((8 : Nat), Value.int IntKind.i64 s8), ((110 : Nat), Value.int IntKind.i64 s110),
                  ((111 : Nat), Value.int IntKind.i64 s111), ((117 : Nat), Value.slice v12 v13 v14), ((118 : Nat), Value.int IntKind.i64 (↑v13 : Int)), ((119 : Nat), Value.int IntKind.i64 (0 : Int))]
                v15)
  (AM.bnd (AM.evCall Proofs.Try.prog AM.env L k (10 : Nat) [Value.pointer (some { block := s6, off := o6 })] σ) fun v16 v17 =>
    AM.asSl v16 fun v18 v19 v20 =>
      AM.lpAt Proofs.Try.prog AM.env L k (7 : Nat) [true, true, true, true, true, true, true, true, true, true, false, true] [] L
        [((5 : Nat), Value.pointer (some { block := s5, off := o5 })), ((8 : Nat), Value.int IntKind.i64 s8), ((17 : Nat), Value.slice v18 v19 v20), ((133 : Nat), Value.int IntKind.i64 (↑v19 : Int)),
          ((134 : Nat), Value.int IntKind.i64 (0 : Int))]
        v17) := by kernel_rfl
theorem f7_l35 (L k m0 n : Nat) (σ : St) (s5 o5 : Nat) (s6 o6 : Nat) (s8 : Int) (s110 : Int) (s111 : Int) (s117 : Option Addr) (s117n s117z : Nat) (s118 : Int) (s119 : Int) : lpAt Go.Proofs.Try.prog Go.AM.env L k 7 [true, true, true, true, true, true, true, true, false, true, false, true, true, false, true] [m0] (n + 1) [(5, .pointer (some ⟨s5, o5, none⟩)), (6, .pointer (some ⟨s6, o6, none⟩)), (8, .int .i64 s8), (110, .int .i64 s110), (111, .int .i64 s111), (117, .slice s117 s117n s117z), (118, .int .i64 s118), (119, .int .i64 s119)] σ =
    AM.br (decide (s119 < s118))
  (AM.need (AM.inRange s119 (↑s117n : Int))
    (AM.adr s117 fun v1 v2 =>
      AM.St.lds σ v1 (v2 + Int.toNat s119 * (2 : Nat)) (2 : Nat) fun v3 =>
        AM.uncons v3 fun v4 v5 =>
          AM.asI IntKind.i64 v4 fun v6 =>
            AM.uncons v5 fun v7 v8 =>
              AM.asI IntKind.i64 v7 fun v9 =>
                AM.endl v8
                  (AM.St.put (AM.St.new σ (AM.Blk.own [Value.int IntKind.i64 (0 : Int), Value.int IntKind.i64 (0 : Int)] (30 : Nat))) (AM.St.next σ) (0 : Nat) [Value.int IntKind.i64 v6, Value.int IntKind.i64 v9] fun v10 =>
                    AM.St.lds v10 (AM.St.next σ) (0 : Nat) (2 : Nat) fun v11 =>
                      AM.uncons v11 fun v12 v13 =>
                        AM.asI IntKind.i64 v12 fun v14 =>
                          AM.uncons v13 fun v15 v16 =>
                            AM.asI IntKind.i64 v15 fun v17 =>
                              AM.endl v16
                                (AM.bnd (AM.evCall Proofs.Try.prog AM.env L k (9 : Nat) [Value.pointer (some { block := s6, off := o6 }), Value.agg #[Value.int IntKind.i64 v14, Value.int IntKind.i64 v17]] v10) fun v18 v19 =>
                                  AM.asI IntKind.i64 v18 fun v20 =>
                                    AM.bnd (AM.evCall Proofs.Try.prog AM.env L k (14 : Nat) [Value.pointer (some { block := s5, off := o5 }), Value.int IntKind.i64 v20] v19) fun v21 v22 =>
                                      AM.lpAt Proofs.Try.prog AM.env L k (7 : Nat) [true, true, true, true, true, true, true, true, false, true, false, true, true, false, true] [m0] n
                                        [((5 : Nat), Value.pointer (some { block := s5, off := o5 })), ((6 : Nat), Value.pointer (some { block := s6, off := o6 })), ((8 : Nat), Value.int IntKind.i64 s8),
                                          ((110 : Nat), Value.int IntKind.i64 s110), ((111 : Nat), Value.int IntKind.i64 s111), ((117 : Nat), Value.slice s117 s117n s117z), ((118 : Nat), Value.int IntKind.i64 s118),
                                          ((119 : Nat), Value.int IntKind.i64 (IntKind.wrap IntKind.i64 (s119 + (1 : Int))))]
                                        v22))))
  (AM.lpAt Proofs.Try.prog AM.env L k (7 : Nat) [true, true, true, true, true, true, true, true, false, true] [] m0
    [((5 : Nat), Value.pointer (some { block := s5, off := o5 })), ((6 : Nat), Value.pointer (some { block := s6, off := o6 })), ((8 : Nat), Value.int IntKind.i64 s8), ((110 : Nat), Value.int IntKind.i64 s110),
      ((111 : Nat), Value.int IntKind.i64 (IntKind.wrap IntKind.i64 (s111 + (1 : Int))))]
    σ) := by kernel_rfl
theorem f7_l42 (L k n : Nat) (σ : St) (s5 o5 : Nat) (s8 : Int) (s17 : Option Addr) (s17n s17z : Nat) (s133 : Int) (s134 : Int) : lpAt Go.Proofs.Try.prog Go.AM.env L k 7 [true, true, true, true, true, true, true, true, true, true, false, true] [] (n + 1) [(5, .pointer (some ⟨s5, o5, none⟩)), (8, .int .i64 s8), (17, .slice s17 s17n s17z), (133, .int .i64 s133), (134, .int .i64 s134)] σ =
    AM.br (decide (s134 < s133))
  (AM.need (AM.inRange s134 (↑s17n : Int))
    (AM.adr s17 fun v1 v2 =>
      AM.St.ld σ v1 (v2 + Int.toNat s134 * (1 : Nat)) fun v3 =>
        AM.asI IntKind.i64 v3 fun v4 =>
          AM.br (v4 != IntKind.wrap IntKind.i64 (s134 * s134)) (some (Value.bool false, σ))
            (AM.lpAt Proofs.Try.prog AM.env L k (7 : Nat) [true, true, true, true, true, true, true, true, true, true, false, true] [] n
              [((5 : Nat), Value.pointer (some { block := s5, off := o5 })), ((8 : Nat), Value.int IntKind.i64 s8), ((17 : Nat), Value.slice s17 s17n s17z), ((133 : Nat), Value.int IntKind.i64 s133),
                ((134 : Nat), Value.int IntKind.i64 (IntKind.wrap IntKind.i64 (s134 + (1 : Int))))]
              σ)))
  (AM.bnd (AM.evCall Proofs.Try.prog AM.env L k (13 : Nat) [Value.pointer (some { block := s5, off := o5 })] σ) fun v5 v6 =>
    AM.asT v5 fun v7 =>
      AM.uncons v7 fun v8 v9 =>
        AM.asI IntKind.i64 v8 fun v10 =>
          AM.uncons v9 fun v11 v12 =>
            AM.asI IntKind.i64 v11 fun v13 => AM.uncons v12 fun v14 v15 => AM.asI IntKind.i64 v14 fun v16 => AM.endl v15 (AM.br ((↑s17n : Int) == s8) (some (Value.bool (v16 == s8), v6)) (some (Value.bool false, v6)))) := by kernel_rfl
/-! isobar/isobarlaw09.awake: 8; parameters [] -/
theorem f8_eq (L k : Nat) (σ : St)  : evCall Go.Proofs.Try.prog Go.AM.env L (k + 1) 8 [] σ =
    AM.bnd
  (AM.evCall Proofs.Try.prog AM.env L k (11 : Nat) [Value.pointer (some { block := AM.St.next σ, off := (0 : Nat) }), Value.int IntKind.i64 (7 : Int)]
    (AM.St.new σ (AM.Blk.own [Value.slice none (0 : Nat) (0 : Nat), Value.int IntKind.i64 (0 : Int), Value.int IntKind.i64 (0 : Int)] (35 : Nat))))
  fun v1 v2 =>
  AM.asT v1 fun v3 =>
    AM.endl v3
      (AM.bnd (AM.evCall Proofs.Try.prog AM.env L k (12 : Nat) [Value.pointer (some { block := AM.St.next σ, off := (0 : Nat) })] v2) fun v4 v5 =>
        AM.asSl v4 fun v6 v7 v8 =>
          AM.br ((↑v7 : Int) == (1 : Int))
            (AM.need (AM.inRange (0 : Int) (↑v7 : Int))
              (AM.adr v6 fun v9 v10 =>
                AM.St.ld (AM.St.new v5 (AM.Blk.own [Value.slice none (0 : Nat) (0 : Nat)] (27 : Nat))) v9 (v10 + (0 : Nat) + (0 : Nat)) fun v11 =>
                  AM.asI IntKind.i64 v11 fun v12 =>
                    AM.br (v12 == (1 : Int))
                      (AM.need (AM.inRange (0 : Int) (↑v7 : Int))
                        (AM.adr v6 fun v13 v14 =>
                          AM.St.ld (AM.St.new v5 (AM.Blk.own [Value.slice none (0 : Nat) (0 : Nat)] (27 : Nat))) v13 (v14 + (0 : Nat) + (1 : Nat)) fun v15 =>
                            AM.asI IntKind.i64 v15 fun v16 =>
                              AM.br (v16 == (7 : Int))
                                (AM.need (AM.inRange (0 : Int) (↑v7 : Int))
                                  (AM.adr v6 fun v17 v18 =>
                                    AM.St.lds (AM.St.new v5 (AM.Blk.own [Value.slice none (0 : Nat) (0 : Nat)] (27 : Nat))) v17 (v18 + (0 : Nat)) (2 : Nat) fun v19 =>
                                      AM.uncons v19 fun v20 v21 =>
                                        AM.asI IntKind.i64 v20 fun v22 =>
                                          AM.uncons v21 fun v23 v24 =>
                                            AM.asI IntKind.i64 v23 fun v25 =>
                                              AM.endl v24
                                                (AM.bnd
                                                  (AM.evCall Proofs.Try.prog AM.env L k (9 : Nat) [Value.pointer (some { block := AM.St.next v5, off := (0 : Nat) }), Value.agg #[Value.int IntKind.i64 v22, Value.int IntKind.i64 v25]]
                                                    (AM.St.new v5 (AM.Blk.own [Value.slice none (0 : Nat) (0 : Nat)] (27 : Nat))))
                                                  fun v26 v27 => AM.asI IntKind.i64 v26 fun v28 => some (Value.bool (v28 == (1 : Int)), v27))))
                                (some (Value.bool false, AM.St.new v5 (AM.Blk.own [Value.slice none (0 : Nat) (0 : Nat)] (27 : Nat))))))
                      (some (Value.bool false, AM.St.new v5 (AM.Blk.own [Value.slice none (0 : Nat) (0 : Nat)] (27 : Nat))))))
            (some (Value.bool false, AM.St.new v5 (AM.Blk.own [Value.slice none (0 : Nat) (0 : Nat)] (27 : Nat))))) := by kernel_rfl
/-! (*isobar/window.Receiver[int]).Take: 9; parameters [r, p] -/
theorem f9_eq (L k : Nat) (σ : St) (a0 : Nat) (a1_0 : Int) (a1_1 : Int) : evCall Go.Proofs.Try.prog Go.AM.env L (k + 1) 9 [.pointer (some ⟨a0, 0, none⟩), .agg [.int .i64 a1_0, .int .i64 a1_1].toArray] σ =
    AM.St.ld (AM.St.new σ (AM.Blk.own [Value.int IntKind.i64 a1_0, Value.int IntKind.i64 a1_1] (30 : Nat))) (AM.St.next σ) (0 : Nat) fun v1 =>
  AM.asI IntKind.i64 v1 fun v2 =>
    AM.St.ld (AM.St.new σ (AM.Blk.own [Value.int IntKind.i64 a1_0, Value.int IntKind.i64 a1_1] (30 : Nat))) a0 (0 : Nat) fun v3 =>
      AM.asSl v3 fun v4 v5 v6 =>
        AM.br (v2 == IntKind.wrap IntKind.i64 ((↑v5 : Int) + (1 : Int)))
          (AM.St.ld (AM.St.new σ (AM.Blk.own [Value.int IntKind.i64 a1_0, Value.int IntKind.i64 a1_1] (30 : Nat))) a0 (0 : Nat) fun v7 =>
            AM.asSl v7 fun v8 v9 v10 =>
              AM.St.ld (AM.St.new σ (AM.Blk.own [Value.int IntKind.i64 a1_0, Value.int IntKind.i64 a1_1] (30 : Nat))) (AM.St.next σ) (1 : Nat) fun v11 =>
                AM.asI IntKind.i64 v11 fun v12 =>
                  AM.St.ld (AM.St.new (AM.St.new σ (AM.Blk.own [Value.int IntKind.i64 a1_0, Value.int IntKind.i64 a1_1] (30 : Nat))) (AM.Blk.own [Value.int IntKind.i64 v12] (3 : Nat))) a0 (0 : Nat) fun v13 =>
                    AM.asSl v13 fun v14 v15 v16 =>
                      AM.chk (Value.slice v14 v15 v16) (Value.slice v8 v9 v10)
                        (AM.St.row (AM.St.new (AM.St.new σ (AM.Blk.own [Value.int IntKind.i64 a1_0, Value.int IntKind.i64 a1_1] (30 : Nat))) (AM.Blk.own [Value.int IntKind.i64 v12] (3 : Nat)))
                          (some { block := AM.St.next (AM.St.new σ (AM.Blk.own [Value.int IntKind.i64 a1_0, Value.int IntKind.i64 a1_1] (30 : Nat))), off := (0 : Nat) }) (1 : Nat) fun v17 =>
                          AM.grow (3 : Nat) (1 : Nat) (8 : Nat) v8 v9 v10 (1 : Nat) v17
                            (AM.St.new (AM.St.new σ (AM.Blk.own [Value.int IntKind.i64 a1_0, Value.int IntKind.i64 a1_1] (30 : Nat))) (AM.Blk.own [Value.int IntKind.i64 v12] (3 : Nat))) fun v18 v19 v20 v21 =>
                            AM.St.put v21 a0 (0 : Nat) [Value.slice v18 v19 v20] fun v22 => AM.St.ld v22 a0 (0 : Nat) fun v23 => AM.asSl v23 fun v24 v25 v26 => some (Value.int IntKind.i64 (↑v25 : Int), v22)))
          (AM.St.ld (AM.St.new σ (AM.Blk.own [Value.int IntKind.i64 a1_0, Value.int IntKind.i64 a1_1] (30 : Nat))) a0 (0 : Nat) fun v27 =>
            AM.asSl v27 fun v28 v29 v30 => some (Value.int IntKind.i64 (↑v29 : Int), AM.St.new σ (AM.Blk.own [Value.int IntKind.i64 a1_0, Value.int IntKind.i64 a1_1] (30 : Nat)))) := by kernel_rfl
/-! (*isobar/window.Receiver[int]).List: 10; parameters [r] -/
theorem f10_eq (L k : Nat) (σ : St) (a0 : Nat) : evCall Go.Proofs.Try.prog Go.AM.env L (k + 1) 10 [.pointer (some ⟨a0, 0, none⟩)] σ =
    AM.St.ld σ a0 (0 : Nat) fun v1 => AM.asSl v1 fun v2 v3 v4 => AM.bnd (AM.evCall Proofs.Try.prog AM.env L k (21 : Nat) [Value.slice v2 v3 v4] σ) fun v5 v6 => AM.asSl v5 fun v7 v8 v9 => some (Value.slice v7 v8 v9, v6) := by kernel_rfl
/-! (*isobar/window.Sender[int]).Push: 11; parameters [s, x] -/
theorem f11_eq (L k : Nat) (σ : St) (a0 : Nat) (a1 : Int) : evCall Go.Proofs.Try.prog Go.AM.env L (k + 1) 11 [.pointer (some ⟨a0, 0, none⟩), .int .i64 a1] σ =
    AM.St.ld σ a0 (0 : Nat) fun v1 =>
  AM.asSl v1 fun v2 v3 v4 =>
    AM.St.row (AM.St.new σ (AM.Blk.own [Value.int IntKind.i64 a1] (3 : Nat))) (some { block := AM.St.next σ, off := (0 : Nat) }) (1 : Nat) fun v5 =>
      AM.grow (3 : Nat) (1 : Nat) (8 : Nat) v2 v3 v4 (1 : Nat) v5 (AM.St.new σ (AM.Blk.own [Value.int IntKind.i64 a1] (3 : Nat))) fun v6 v7 v8 v9 => AM.St.put v9 a0 (0 : Nat) [Value.slice v6 v7 v8] fun v10 => some (Value.tuple #[], v10) := by kernel_rfl
/-! (*isobar/window.Sender[int]).Send: 12; parameters [s] -/
theorem f12_eq (L k : Nat) (σ : St) (a0 : Nat) : evCall Go.Proofs.Try.prog Go.AM.env L (k + 1) 12 [.pointer (some ⟨a0, 0, none⟩)] σ =
    AM.St.ld σ a0 (1 : Nat) fun v1 =>
  AM.asI IntKind.i64 v1 fun v2 =>
    AM.St.ld σ a0 (1 : Nat) fun v3 =>
      AM.asI IntKind.i64 v3 fun v4 =>
        AM.St.ld σ a0 (0 : Nat) fun v5 =>
          AM.asSl v5 fun v6 v7 v8 =>
            AM.St.ld σ a0 (2 : Nat) fun v9 =>
              AM.asI IntKind.i64 v9 fun v10 =>
                AM.St.put σ a0 (1 : Nat) [Value.int IntKind.i64 (AM.mx v4 (AM.mn (↑v7 : Int) (IntKind.wrap IntKind.i64 (v10 + (4 : Int)))))] fun v11 =>
                  AM.St.ld v11 a0 (1 : Nat) fun v12 =>
                    AM.asI IntKind.i64 v12 fun v13 =>
                      AM.bnd (AM.evCall Proofs.Try.prog AM.env L k (22 : Nat) [Value.pointer (some { block := a0, off := (0 : Nat) }), Value.int IntKind.i64 v2, Value.int IntKind.i64 v13] v11) fun v14 v15 =>
                        AM.asSl v14 fun v16 v17 v18 => some (Value.slice v16 v17 v18, v15) := by kernel_rfl
/-! (*isobar/window.Sender[int]).Counts: 13; parameters [s] -/
theorem f13_eq (L k : Nat) (σ : St) (a0 : Nat) : evCall Go.Proofs.Try.prog Go.AM.env L (k + 1) 13 [.pointer (some ⟨a0, 0, none⟩)] σ =
    AM.St.ld σ a0 (0 : Nat) fun v1 =>
  AM.asSl v1 fun v2 v3 v4 =>
    AM.St.ld σ a0 (1 : Nat) fun v5 =>
      AM.asI IntKind.i64 v5 fun v6 => AM.St.ld σ a0 (2 : Nat) fun v7 => AM.asI IntKind.i64 v7 fun v8 => some (Value.tuple #[Value.int IntKind.i64 (↑v3 : Int), Value.int IntKind.i64 v6, Value.int IntKind.i64 v8], σ) := by kernel_rfl
/-! (*isobar/window.Sender[int]).Ack: 14; parameters [s, n] -/
theorem f14_eq (L k : Nat) (σ : St) (a0 : Nat) (a1 : Int) : evCall Go.Proofs.Try.prog Go.AM.env L (k + 1) 14 [.pointer (some ⟨a0, 0, none⟩), .int .i64 a1] σ =
    AM.br (decide (a1 < (0 : Int)))
  (AM.bnd
    (AM.evCall Proofs.Try.prog AM.env L k (23 : Nat)
      [Value.string { data := #[(119 : UInt8), (105 : UInt8), (110 : UInt8), (100 : UInt8), (111 : UInt8), (119 : UInt8)] }, Value.int IntKind.i64 a1, Value.iface (63 : Nat) (Value.int IntKind.i64 (5 : Int))] σ)
    fun v1 v2 => some (AM.pack [v1], v2))
  (AM.St.ld σ a0 (1 : Nat) fun v3 =>
    AM.asI IntKind.i64 v3 fun v4 =>
      AM.br (decide (a1 > v4))
        (AM.bnd
          (AM.evCall Proofs.Try.prog AM.env L k (23 : Nat)
            [Value.string { data := #[(119 : UInt8), (105 : UInt8), (110 : UInt8), (100 : UInt8), (111 : UInt8), (119 : UInt8)] }, Value.int IntKind.i64 a1, Value.iface (63 : Nat) (Value.int IntKind.i64 (5 : Int))] σ)
          fun v5 v6 => some (AM.pack [v5], v6))
        (AM.St.ld σ a0 (2 : Nat) fun v7 => AM.asI IntKind.i64 v7 fun v8 => AM.St.put σ a0 (2 : Nat) [Value.int IntKind.i64 (AM.mx v8 a1)] fun v9 => some (Value.nilIface, v9))) := by kernel_rfl
/-! (*isobar/window.Sender[int]).Resend: 15; parameters [s] -/
theorem f15_eq (L k : Nat) (σ : St) (a0 : Nat) : evCall Go.Proofs.Try.prog Go.AM.env L (k + 1) 15 [.pointer (some ⟨a0, 0, none⟩)] σ =
    AM.St.ld σ a0 (2 : Nat) fun v1 =>
  AM.asI IntKind.i64 v1 fun v2 =>
    AM.St.ld σ a0 (1 : Nat) fun v3 =>
      AM.asI IntKind.i64 v3 fun v4 =>
        AM.bnd (AM.evCall Proofs.Try.prog AM.env L k (22 : Nat) [Value.pointer (some { block := a0, off := (0 : Nat) }), Value.int IntKind.i64 v2, Value.int IntKind.i64 v4] σ) fun v5 v6 =>
          AM.asSl v5 fun v7 v8 v9 => some (Value.slice v7 v8 v9, v6) := by kernel_rfl
/-! isobar/link.New[isobar/window.Packet[int]]: 16; parameters [room] -/
theorem f16_eq (L k : Nat) (σ : St) (a0 : Int) : evCall Go.Proofs.Try.prog Go.AM.env L (k + 1) 16 [.int .i64 a0] σ =
    some (Value.pointer (some { block := AM.St.next σ, off := (0 : Nat) }), AM.St.new σ (AM.Blk.own [Value.slice none (0 : Nat) (0 : Nat), Value.int IntKind.i64 (AM.mx (0 : Int) (AM.mn a0 (4096 : Int))), Value.bool false] (65 : Nat))) := by kernel_rfl
/-! (*isobar/link.Link[isobar/window.Packet[int]]).Send: 17; parameters [l, x] -/
theorem f17_eq (L k : Nat) (σ : St) (a0 : Nat) (a1_0 : Int) (a1_1 : Int) : evCall Go.Proofs.Try.prog Go.AM.env L (k + 1) 17 [.pointer (some ⟨a0, 0, none⟩), .agg [.int .i64 a1_0, .int .i64 a1_1].toArray] σ =
    AM.St.lds (AM.St.new σ (AM.Blk.own [Value.int IntKind.i64 a1_0, Value.int IntKind.i64 a1_1] (30 : Nat))) (AM.St.next σ) (0 : Nat) (2 : Nat) fun v1 =>
  AM.uncons v1 fun v2 v3 =>
    AM.asI IntKind.i64 v2 fun v4 =>
      AM.uncons v3 fun v5 v6 =>
        AM.asI IntKind.i64 v5 fun v7 =>
          AM.endl v6
            (AM.St.ld (AM.St.new σ (AM.Blk.own [Value.int IntKind.i64 a1_0, Value.int IntKind.i64 a1_1] (30 : Nat))) a0 (0 : Nat) fun v8 =>
              AM.asSl v8 fun v9 v10 v11 =>
                AM.bnd
                  (AM.evCall Proofs.Try.prog AM.env L k (25 : Nat) [Value.pointer (some { block := a0, off := (0 : Nat) }), Value.agg #[Value.int IntKind.i64 v4, Value.int IntKind.i64 v7], Value.int IntKind.i64 (↑v10 : Int)]
                    (AM.St.new σ (AM.Blk.own [Value.int IntKind.i64 a1_0, Value.int IntKind.i64 a1_1] (30 : Nat))))
                  fun v12 v13 => some (AM.pack [v12], v13)) := by kernel_rfl
/-! (*isobar/link.Link[isobar/window.Packet[int]]).Deliver: 18; parameters [l, i] -/
theorem f18_eq (L k : Nat) (σ : St) (a0 : Nat) (a1 : Int) : evCall Go.Proofs.Try.prog Go.AM.env L (k + 1) 18 [.pointer (some ⟨a0, 0, none⟩), .int .i64 a1] σ =
    AM.St.ld (AM.St.new (AM.St.new σ (AM.Blk.own [Value.int IntKind.i64 (0 : Int), Value.int IntKind.i64 (0 : Int)] (30 : Nat))) (AM.Blk.own [Value.int IntKind.i64 (0 : Int), Value.int IntKind.i64 (0 : Int)] (30 : Nat))) a0 (2 : Nat) fun v1 =>
  AM.asB v1 fun v2 =>
    AM.br v2
      (AM.St.lds (AM.St.new (AM.St.new σ (AM.Blk.own [Value.int IntKind.i64 (0 : Int), Value.int IntKind.i64 (0 : Int)] (30 : Nat))) (AM.Blk.own [Value.int IntKind.i64 (0 : Int), Value.int IntKind.i64 (0 : Int)] (30 : Nat)))
        (AM.St.next (AM.St.new σ (AM.Blk.own [Value.int IntKind.i64 (0 : Int), Value.int IntKind.i64 (0 : Int)] (30 : Nat)))) (0 : Nat) (2 : Nat) fun v3 =>
        AM.uncons v3 fun v4 v5 =>
          AM.asI IntKind.i64 v4 fun v6 =>
            AM.uncons v5 fun v7 v8 =>
              AM.asI IntKind.i64 v7 fun v9 =>
                AM.endl v8
                  (AM.bnd
                    (AM.evCall Proofs.Try.prog AM.env L k (24 : Nat) [Value.int IntKind.i64 a1, Value.int IntKind.i64 (11 : Int)]
                      (AM.St.new (AM.St.new σ (AM.Blk.own [Value.int IntKind.i64 (0 : Int), Value.int IntKind.i64 (0 : Int)] (30 : Nat))) (AM.Blk.own [Value.int IntKind.i64 (0 : Int), Value.int IntKind.i64 (0 : Int)] (30 : Nat))))
                    fun v10 v11 =>
                    AM.St.lds v11 (AM.St.next (AM.St.new σ (AM.Blk.own [Value.int IntKind.i64 (0 : Int), Value.int IntKind.i64 (0 : Int)] (30 : Nat)))) (0 : Nat) (2 : Nat) fun v12 =>
                      AM.uncons v12 fun v13 v14 =>
                        AM.asI IntKind.i64 v13 fun v15 =>
                          AM.uncons v14 fun v16 v17 =>
                            AM.asI IntKind.i64 v16 fun v18 =>
                              AM.endl v17
                                (AM.chk (Value.agg #[Value.int IntKind.i64 v15, Value.int IntKind.i64 v18]) (Value.agg #[Value.int IntKind.i64 v6, Value.int IntKind.i64 v9])
                                  (AM.St.put v11 (AM.St.next σ) (0 : Nat) [Value.int IntKind.i64 v6, Value.int IntKind.i64 v9] fun v19 =>
                                    AM.St.lds v19 (AM.St.next σ) (0 : Nat) (2 : Nat) fun v20 =>
                                      AM.uncons v20 fun v21 v22 =>
                                        AM.asI IntKind.i64 v21 fun v23 =>
                                          AM.uncons v22 fun v24 v25 => AM.asI IntKind.i64 v24 fun v26 => AM.endl v25 (some (Value.tuple #[Value.agg #[Value.int IntKind.i64 v23, Value.int IntKind.i64 v26], v10], v19))))))
      (AM.bnd
        (AM.evCall Proofs.Try.prog AM.env L k (26 : Nat) [Value.pointer (some { block := a0, off := (0 : Nat) }), Value.int IntKind.i64 a1]
          (AM.St.new (AM.St.new σ (AM.Blk.own [Value.int IntKind.i64 (0 : Int), Value.int IntKind.i64 (0 : Int)] (30 : Nat))) (AM.Blk.own [Value.int IntKind.i64 (0 : Int), Value.int IntKind.i64 (0 : Int)] (30 : Nat))))
        fun v27 v28 =>
        AM.eqNil v27 fun v29 =>
          AM.br (!v29)
            (AM.St.lds v28 (AM.St.next (AM.St.new σ (AM.Blk.own [Value.int IntKind.i64 (0 : Int), Value.int IntKind.i64 (0 : Int)] (30 : Nat)))) (0 : Nat) (2 : Nat) fun v30 =>
              AM.uncons v30 fun v31 v32 =>
                AM.asI IntKind.i64 v31 fun v33 =>
                  AM.uncons v32 fun v34 v35 =>
                    AM.asI IntKind.i64 v34 fun v36 =>
                      AM.endl v35
                        (AM.St.put v28 (AM.St.next σ) (0 : Nat) [Value.int IntKind.i64 v33, Value.int IntKind.i64 v36] fun v37 =>
                          AM.St.lds v37 (AM.St.next σ) (0 : Nat) (2 : Nat) fun v38 =>
                            AM.uncons v38 fun v39 v40 =>
                              AM.asI IntKind.i64 v39 fun v41 => AM.uncons v40 fun v42 v43 => AM.asI IntKind.i64 v42 fun v44 => AM.endl v43 (some (Value.tuple #[Value.agg #[Value.int IntKind.i64 v41, Value.int IntKind.i64 v44], v27], v37))))
            (AM.St.ld v28 a0 (0 : Nat) fun v45 =>
              AM.asSl v45 fun v46 v47 v48 =>
                AM.need (AM.inRange a1 (↑v47 : Int))
                  (AM.adr v46 fun v49 v50 =>
                    AM.St.lds v28 v49 (v50 + Int.toNat a1 * (2 : Nat)) (2 : Nat) fun v51 =>
                      AM.uncons v51 fun v52 v53 =>
                        AM.asI IntKind.i64 v52 fun v54 =>
                          AM.uncons v53 fun v55 v56 =>
                            AM.asI IntKind.i64 v55 fun v57 =>
                              AM.endl v56
                                (AM.St.put (AM.St.new v28 (AM.Blk.own [Value.int IntKind.i64 (0 : Int), Value.int IntKind.i64 (0 : Int)] (30 : Nat))) (AM.St.next v28) (0 : Nat) [Value.int IntKind.i64 v54, Value.int IntKind.i64 v57]
                                  fun v58 =>
                                  AM.St.lds v58 (AM.St.next v28) (0 : Nat) (2 : Nat) fun v59 =>
                                    AM.uncons v59 fun v60 v61 =>
                                      AM.asI IntKind.i64 v60 fun v62 =>
                                        AM.uncons v61 fun v63 v64 =>
                                          AM.asI IntKind.i64 v63 fun v65 =>
                                            AM.endl v64
                                              (AM.bnd (AM.evCall Proofs.Try.prog AM.env L k (19 : Nat) [Value.pointer (some { block := a0, off := (0 : Nat) }), Value.int IntKind.i64 a1] v58) fun v66 v67 =>
                                                AM.St.lds v67 (AM.St.next v28) (0 : Nat) (2 : Nat) fun v68 =>
                                                  AM.uncons v68 fun v69 v70 =>
                                                    AM.asI IntKind.i64 v69 fun v71 =>
                                                      AM.uncons v70 fun v72 v73 =>
                                                        AM.asI IntKind.i64 v72 fun v74 =>
                                                          AM.endl v73
                                                            (AM.chk (Value.agg #[Value.int IntKind.i64 v71, Value.int IntKind.i64 v74]) (Value.agg #[Value.int IntKind.i64 v62, Value.int IntKind.i64 v65])
                                                              (AM.St.put v67 (AM.St.next σ) (0 : Nat) [Value.int IntKind.i64 v62, Value.int IntKind.i64 v65] fun v75 =>
                                                                AM.St.lds v75 (AM.St.next σ) (0 : Nat) (2 : Nat) fun v76 =>
                                                                  AM.uncons v76 fun v77 v78 =>
                                                                    AM.asI IntKind.i64 v77 fun v79 =>
                                                                      AM.uncons v78 fun v80 v81 =>
                                                                        AM.asI IntKind.i64 v80 fun v82 => AM.endl v81 (some (Value.tuple #[Value.agg #[Value.int IntKind.i64 v79, Value.int IntKind.i64 v82], v66], v75))))))))) := by kernel_rfl
/-! (*isobar/link.Link[isobar/window.Packet[int]]).Drop: 19; parameters [l, i] -/
theorem f19_eq (L k : Nat) (σ : St) (a0 : Nat) (a1 : Int) : evCall Go.Proofs.Try.prog Go.AM.env L (k + 1) 19 [.pointer (some ⟨a0, 0, none⟩), .int .i64 a1] σ =
    AM.bnd (AM.evCall Proofs.Try.prog AM.env L k (26 : Nat) [Value.pointer (some { block := a0, off := (0 : Nat) }), Value.int IntKind.i64 a1] σ) fun v1 v2 =>
  AM.eqNil v1 fun v3 =>
    AM.br (!v3) (some (AM.pack [v1], v2))
      (AM.St.ld v2 a0 (0 : Nat) fun v4 =>
        AM.asSl v4 fun v5 v6 v7 =>
          AM.need (Nat.beq v7 (0 : Nat) || Nat.beq v7 (2 : Nat))
            (AM.need (AM.inRange a1 ((↑v6 : Int) + (1 : Int)))
              (AM.St.ld v2 a0 (0 : Nat) fun v8 =>
                AM.asSl v8 fun v9 v10 v11 =>
                  AM.need (Nat.beq v11 (0 : Nat) || Nat.beq v11 (2 : Nat))
                    (AM.need (AM.inRange (IntKind.wrap IntKind.i64 (a1 + (1 : Int))) ((↑v10 : Int) + (1 : Int)))
                      (AM.cpy (2 : Nat) (AM.subA v5 (Int.toNat a1 * (2 : Nat))) (AM.subA v9 (Int.toNat (IntKind.wrap IntKind.i64 (a1 + (1 : Int))) * (2 : Nat)))
                        (min (v10 - Int.toNat (IntKind.wrap IntKind.i64 (a1 + (1 : Int)))) (v6 - Int.toNat a1)) v2 fun v12 =>
                        AM.St.ld v12 a0 (0 : Nat) fun v13 =>
                          AM.asSl v13 fun v14 v15 v16 =>
                            AM.need (Nat.beq v16 (0 : Nat) || Nat.beq v16 (2 : Nat))
                              (AM.need (AM.inRange (IntKind.wrap IntKind.i64 (a1 + (↑(min (v10 - Int.toNat (IntKind.wrap IntKind.i64 (a1 + (1 : Int)))) (v6 - Int.toNat a1)) : Int))) ((↑v15 : Int) + (1 : Int)))
                                (AM.St.put v12 a0 (0 : Nat)
                                  [Value.slice (AM.subA v14 (0 : Nat)) (Int.toNat (IntKind.wrap IntKind.i64 (a1 + (↑(min (v10 - Int.toNat (IntKind.wrap IntKind.i64 (a1 + (1 : Int)))) (v6 - Int.toNat a1)) : Int))) - (0 : Nat)) v16]
                                  fun v17 => some (Value.nilIface, v17)))))))) := by kernel_rfl
/-! (*isobar/link.Link[isobar/window.Packet[int]]).Double: 20; parameters [l, i] -/
theorem f20_eq (L k : Nat) (σ : St) (a0 : Nat) (a1 : Int) : evCall Go.Proofs.Try.prog Go.AM.env L (k + 1) 20 [.pointer (some ⟨a0, 0, none⟩), .int .i64 a1] σ =
    AM.bnd (AM.evCall Proofs.Try.prog AM.env L k (26 : Nat) [Value.pointer (some { block := a0, off := (0 : Nat) }), Value.int IntKind.i64 a1] σ) fun v1 v2 =>
  AM.eqNil v1 fun v3 =>
    AM.br (!v3) (some (AM.pack [v1], v2))
      (AM.St.ld v2 a0 (0 : Nat) fun v4 =>
        AM.asSl v4 fun v5 v6 v7 =>
          AM.need (AM.inRange a1 (↑v6 : Int))
            (AM.adr v5 fun v8 v9 =>
              AM.St.lds v2 v8 (v9 + Int.toNat a1 * (2 : Nat)) (2 : Nat) fun v10 =>
                AM.uncons v10 fun v11 v12 =>
                  AM.asI IntKind.i64 v11 fun v13 =>
                    AM.uncons v12 fun v14 v15 =>
                      AM.asI IntKind.i64 v14 fun v16 =>
                        AM.endl v15
                          (AM.bnd (AM.evCall Proofs.Try.prog AM.env L k (25 : Nat) [Value.pointer (some { block := a0, off := (0 : Nat) }), Value.agg #[Value.int IntKind.i64 v13, Value.int IntKind.i64 v16], Value.int IntKind.i64 a1] v2)
                            fun v17 v18 => some (AM.pack [v17], v18)))) := by kernel_rfl
/-! slices.Clone[[]int,int]: 21; parameters [s] -/
theorem f21_eq (L k : Nat) (σ : St) (a0 : Option Addr) (a0n a0z : Nat) : evCall Go.Proofs.Try.prog Go.AM.env L (k + 1) 21 [.slice a0 a0n a0z] σ =
    AM.br (Option.isNone a0) (some (Value.slice none (0 : Nat) (0 : Nat), σ))
  (AM.St.row (AM.St.new σ (AM.Blk.own [] (3 : Nat))) a0 (a0n * (1 : Nat)) fun v1 =>
    AM.grow (3 : Nat) (1 : Nat) (8 : Nat) (some { block := AM.St.next σ, off := (0 : Nat) }) (0 : Nat) (1 : Nat) a0n v1 (AM.St.new σ (AM.Blk.own [] (3 : Nat))) fun v2 v3 v4 v5 => some (Value.slice v2 v3 v4, v5)) := by kernel_rfl
/-! (*isobar/window.Sender[int]).packets: 22; parameters [s, from, to] -/
theorem f22_eq (L k : Nat) (σ : St) (a0 : Nat) (a1 : Int) (a2 : Int) : evCall Go.Proofs.Try.prog Go.AM.env L (k + 1) 22 [.pointer (some ⟨a0, 0, none⟩), .int .i64 a1, .int .i64 a2] σ =
    AM.lpAt Proofs.Try.prog AM.env L k (22 : Nat) [true, true, false, true] [] L
  [((0 : Nat), Value.pointer (some { block := a0, off := (0 : Nat) })), ((2 : Nat), Value.int IntKind.i64 a2), ((7 : Nat), Value.slice none (0 : Nat) (0 : Nat)), ((8 : Nat), Value.int IntKind.i64 a1)] σ := by kernel_rfl
theorem f22_l3 (L k n : Nat) (σ : St) (s0 o0 : Nat) (s2 : Int) (s7 : Option Addr) (s7n s7z : Nat) (s8 : Int) : lpAt Go.Proofs.Try.prog Go.AM.env L k 22 [true, true, false, true] [] (n + 1) [(0, .pointer (some ⟨s0, o0, none⟩)), (2, .int .i64 s2), (7, .slice s7 s7n s7z), (8, .int .i64 s8)] σ =
    AM.br (decide (s8 < s2))
  (AM.St.ld σ s0 (o0 + (0 : Nat)) fun v1 =>
    AM.asSl v1 fun v2 v3 v4 =>
      AM.need (AM.inRange s8 (↑v3 : Int))
        (AM.adr v2 fun v5 v6 =>
          AM.St.ld σ v5 (v6 + Int.toNat s8 * (1 : Nat)) fun v7 =>
            AM.asI IntKind.i64 v7 fun v8 =>
              AM.need true
                (AM.need true
                  (AM.need true
                    (AM.St.row (AM.St.new σ (AM.Blk.own [Value.int IntKind.i64 (IntKind.wrap IntKind.i64 (s8 + (1 : Int))), Value.int IntKind.i64 v8] (30 : Nat))) (some { block := AM.St.next σ, off := (0 : Nat) }) (2 : Nat) fun v9 =>
                      AM.grow (30 : Nat) (2 : Nat) (16 : Nat) s7 s7n s7z (1 : Nat) v9 (AM.St.new σ (AM.Blk.own [Value.int IntKind.i64 (IntKind.wrap IntKind.i64 (s8 + (1 : Int))), Value.int IntKind.i64 v8] (30 : Nat))) fun v10 v11 v12 v13 =>
                        AM.lpAt Proofs.Try.prog AM.env L k (22 : Nat) [true, true, false, true] [] n
                          [((0 : Nat), Value.pointer (some { block := s0, off := o0 })), ((2 : Nat), Value.int IntKind.i64 s2), ((7 : Nat), Value.slice v10 v11 v12),
                            ((8 : Nat), Value.int IntKind.i64 (IntKind.wrap IntKind.i64 (s8 + (1 : Int))))]
                          v13)))))
  (some (Value.slice s7 s7n s7z, σ)) := by kernel_rfl
/-! isobar/fault.Wrap: 23; parameters [op, at, err] -/
theorem f23_eq (L k : Nat) (σ : St) (a0 : ByteArray) (a1 : Int) (a2 : Value) : evCall Go.Proofs.Try.prog Go.AM.env L (k + 1) 23 [.string a0, .int .i64 a1, a2] σ =
    AM.eqNil a2 fun v1 =>
  AM.br v1 (some (Value.nilIface, σ))
    (AM.eqErr a2 (63 : Nat) IntKind.i64 (0 : Int) fun v2 =>
      AM.br v2 (some (Value.nilIface, σ))
        (AM.need true
          (AM.need (AM.oneCell a2) (AM.need true (some (Value.iface (68 : Nat) (Value.pointer (some { block := AM.St.next σ, off := (0 : Nat) })), AM.St.new σ (AM.Blk.own [Value.string a0, Value.int IntKind.i64 a1, a2] (70 : Nat)))))))) := by kernel_rfl
/-! isobar/link.wrong: 24; parameters [at, e] -/
theorem f24_eq (L k : Nat) (σ : St) (a0 : Int) (a1 : Int) : evCall Go.Proofs.Try.prog Go.AM.env L (k + 1) 24 [.int .i64 a0, .int .i64 a1] σ =
    AM.bnd (AM.evCall Proofs.Try.prog AM.env L k (23 : Nat) [Value.string { data := #[(108 : UInt8), (105 : UInt8), (110 : UInt8), (107 : UInt8)] }, Value.int IntKind.i64 a0, Value.iface (63 : Nat) (Value.int IntKind.i64 a1)] σ) fun v1 v2 =>
  some (AM.pack [v1], v2) := by kernel_rfl
/-! (*isobar/link.Link[isobar/window.Packet[int]]).put: 25; parameters [l, x, at] -/
theorem f25_eq (L k : Nat) (σ : St) (a0 : Nat) (a1_0 : Int) (a1_1 : Int) (a2 : Int) : evCall Go.Proofs.Try.prog Go.AM.env L (k + 1) 25 [.pointer (some ⟨a0, 0, none⟩), .agg [.int .i64 a1_0, .int .i64 a1_1].toArray, .int .i64 a2] σ =
    AM.St.ld (AM.St.new σ (AM.Blk.own [Value.int IntKind.i64 a1_0, Value.int IntKind.i64 a1_1] (30 : Nat))) a0 (0 : Nat) fun v1 =>
  AM.asSl v1 fun v2 v3 v4 =>
    AM.St.ld (AM.St.new σ (AM.Blk.own [Value.int IntKind.i64 a1_0, Value.int IntKind.i64 a1_1] (30 : Nat))) a0 (1 : Nat) fun v5 =>
      AM.asI IntKind.i64 v5 fun v6 =>
        AM.br (decide ((↑v3 : Int) ≥ v6))
          (AM.bnd (AM.evCall Proofs.Try.prog AM.env L k (24 : Nat) [Value.int IntKind.i64 a2, Value.int IntKind.i64 (6 : Int)] (AM.St.new σ (AM.Blk.own [Value.int IntKind.i64 a1_0, Value.int IntKind.i64 a1_1] (30 : Nat)))) fun v7 v8 =>
            some (AM.pack [v7], v8))
          (AM.St.ld (AM.St.new σ (AM.Blk.own [Value.int IntKind.i64 a1_0, Value.int IntKind.i64 a1_1] (30 : Nat))) a0 (0 : Nat) fun v9 =>
            AM.asSl v9 fun v10 v11 v12 =>
              AM.St.lds (AM.St.new σ (AM.Blk.own [Value.int IntKind.i64 a1_0, Value.int IntKind.i64 a1_1] (30 : Nat))) (AM.St.next σ) (0 : Nat) (2 : Nat) fun v13 =>
                AM.uncons v13 fun v14 v15 =>
                  AM.asI IntKind.i64 v14 fun v16 =>
                    AM.uncons v15 fun v17 v18 =>
                      AM.asI IntKind.i64 v17 fun v19 =>
                        AM.endl v18
                          (AM.St.ld (AM.St.new (AM.St.new σ (AM.Blk.own [Value.int IntKind.i64 a1_0, Value.int IntKind.i64 a1_1] (30 : Nat))) (AM.Blk.own [Value.int IntKind.i64 v16, Value.int IntKind.i64 v19] (30 : Nat))) a0 (0 : Nat)
                            fun v20 =>
                            AM.asSl v20 fun v21 v22 v23 =>
                              AM.chk (Value.slice v21 v22 v23) (Value.slice v10 v11 v12)
                                (AM.St.row (AM.St.new (AM.St.new σ (AM.Blk.own [Value.int IntKind.i64 a1_0, Value.int IntKind.i64 a1_1] (30 : Nat))) (AM.Blk.own [Value.int IntKind.i64 v16, Value.int IntKind.i64 v19] (30 : Nat)))
                                  (some { block := AM.St.next (AM.St.new σ (AM.Blk.own [Value.int IntKind.i64 a1_0, Value.int IntKind.i64 a1_1] (30 : Nat))), off := (0 : Nat) }) (2 : Nat) fun v24 =>
                                  AM.grow (30 : Nat) (2 : Nat) (16 : Nat) v10 v11 v12 (1 : Nat) v24
                                    (AM.St.new (AM.St.new σ (AM.Blk.own [Value.int IntKind.i64 a1_0, Value.int IntKind.i64 a1_1] (30 : Nat))) (AM.Blk.own [Value.int IntKind.i64 v16, Value.int IntKind.i64 v19] (30 : Nat)))
                                    fun v25 v26 v27 v28 => AM.St.put v28 a0 (0 : Nat) [Value.slice v25 v26 v27] fun v29 => some (Value.nilIface, v29)))) := by kernel_rfl
/-! (*isobar/link.Link[isobar/window.Packet[int]]).there: 26; parameters [l, i] -/
theorem f26_eq (L k : Nat) (σ : St) (a0 : Nat) (a1 : Int) : evCall Go.Proofs.Try.prog Go.AM.env L (k + 1) 26 [.pointer (some ⟨a0, 0, none⟩), .int .i64 a1] σ =
    AM.br (decide (a1 < (0 : Int))) (AM.bnd (AM.evCall Proofs.Try.prog AM.env L k (24 : Nat) [Value.int IntKind.i64 a1, Value.int IntKind.i64 (5 : Int)] σ) fun v1 v2 => some (AM.pack [v1], v2))
  (AM.St.ld σ a0 (0 : Nat) fun v3 =>
    AM.asSl v3 fun v4 v5 v6 =>
      AM.br (decide (a1 ≥ (↑v5 : Int))) (AM.bnd (AM.evCall Proofs.Try.prog AM.env L k (24 : Nat) [Value.int IntKind.i64 a1, Value.int IntKind.i64 (5 : Int)] σ) fun v7 v8 => some (AM.pack [v7], v8)) (some (Value.nilIface, σ))) := by kernel_rfl
end Go.AM
