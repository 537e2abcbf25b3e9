import Derived.Test.YtmmjibadpdbkaaaAm0
import Derived.Test.YtmmjibadpdbkaaaEnvW
set_option linter.unusedVariables false
set_option linter.unusedSimpArgs false
namespace Go.AM
open Go.Proofs
/-! isobar/isobarlaw09.WindowDups: 3; parameters [come] -/
theorem f3_eq (L k : Nat) (σ : St) (a0 : Option Addr) (a0n a0z : Nat) : evCall Go.Proofs.Try.prog Go.AM.env L (k + 1) 3 [.slice a0 a0n a0z] σ =
    AM.bnd (AM.evCall Proofs.Try.prog AM.env L k (8 : Nat) [] σ) fun v1 v2 =>
  AM.asB v1 fun v3 =>
    AM.br (!v3) (AM.bnd (AM.evCall Proofs.Try.prog AM.env L k (8 : Nat) [] v2) fun v4 v5 => AM.asB v4 fun v6 => some (Value.bool v6, v5))
      (AM.br (decide ((↑a0n : Int) > (300 : Int))) (AM.bnd (AM.evCall Proofs.Try.prog AM.env L k (8 : Nat) [] v2) fun v7 v8 => AM.asB v7 fun v9 => some (Value.bool v9, v8))
        (AM.lpAt Proofs.Try.prog AM.env L k (3 : Nat) [true, true, true, true, false, true] [] L
          [((0 : Nat), Value.slice a0 a0n a0z), ((3 : Nat), Value.pointer (some { block := AM.St.next v2, off := (0 : Nat) })), ((4 : Nat), Value.int IntKind.i64 (1 : Int)), ((20 : Nat), Value.int IntKind.i64 (↑a0n : Int)),
            ((21 : Nat), Value.int IntKind.i64 (0 : Int))]
          (AM.St.new v2 (AM.Blk.own [Value.slice none (0 : Nat) (0 : Nat)] (27 : Nat))))) := by kernel_rfl
theorem f3_l6 (L k n : Nat) (σ : St) (s0 : Option Addr) (s0n s0z : Nat) (s3 o3 : Nat) (s4 : Int) (s20 : Int) (s21 : Int) : lpAt Go.Proofs.Try.prog Go.AM.env L k 3 [true, true, true, true, false, true] [] (n + 1) [(0, .slice s0 s0n s0z), (3, .pointer (some ⟨s3, o3, none⟩)), (4, .int .i64 s4), (20, .int .i64 s20), (21, .int .i64 s21)] σ =
    AM.br (decide (s21 < s20))
  (AM.need (AM.inRange s21 (↑s0n : Int))
    (AM.adr s0 fun v1 v2 =>
      AM.St.ld σ v1 (v2 + Int.toNat s21 * (1 : Nat)) fun v3 =>
        AM.asI IntKind.u8 v3 fun v4 =>
          AM.br (IntKind.wrap IntKind.i64 ((1 : Int) + Int.tmod (IntKind.wrap IntKind.i64 v4) (20 : Int)) == s4)
            (AM.bnd
              (AM.evCall Proofs.Try.prog AM.env L k (9 : Nat)
                [Value.pointer (some { block := s3, off := o3 }),
                  Value.agg
                    (List.toArray
                      (AM.over (AM.over [Value.int IntKind.i64 (0 : Int), Value.int IntKind.i64 (0 : Int)] (0 : Nat) [Value.int IntKind.i64 (IntKind.wrap IntKind.i64 ((1 : Int) + Int.tmod (IntKind.wrap IntKind.i64 v4) (20 : Int)))])
                        (1 : Nat)
                        [Value.int IntKind.i64
                            (IntKind.wrap IntKind.i64 (IntKind.wrap IntKind.i64 ((1 : Int) + Int.tmod (IntKind.wrap IntKind.i64 v4) (20 : Int)) * IntKind.wrap IntKind.i64 ((1 : Int) + Int.tmod (IntKind.wrap IntKind.i64 v4) (20 : Int))))]))]
                σ)
              fun v5 v6 =>
              AM.asI IntKind.i64 v5 fun v7 =>
                AM.br (v7 != IntKind.wrap IntKind.i64 (IntKind.wrap IntKind.i64 (s4 + (1 : Int)) - (1 : Int))) (some (Value.bool false, v6))
                  (AM.lpAt Proofs.Try.prog AM.env L k (3 : Nat) [true, true, true, true, false, true] [] n
                    [((0 : Nat), Value.slice s0 s0n s0z), ((3 : Nat), Value.pointer (some { block := s3, off := o3 })), ((4 : Nat), Value.int IntKind.i64 (IntKind.wrap IntKind.i64 (s4 + (1 : Int)))), ((20 : Nat), Value.int IntKind.i64 s20),
                      ((21 : Nat), Value.int IntKind.i64 (IntKind.wrap IntKind.i64 (s21 + (1 : Int))))]
                    v6))
            (AM.bnd
              (AM.evCall Proofs.Try.prog AM.env L k (9 : Nat)
                [Value.pointer (some { block := s3, off := o3 }),
                  Value.agg
                    (List.toArray
                      (AM.over (AM.over [Value.int IntKind.i64 (0 : Int), Value.int IntKind.i64 (0 : Int)] (0 : Nat) [Value.int IntKind.i64 (IntKind.wrap IntKind.i64 ((1 : Int) + Int.tmod (IntKind.wrap IntKind.i64 v4) (20 : Int)))])
                        (1 : Nat)
                        [Value.int IntKind.i64
                            (IntKind.wrap IntKind.i64 (IntKind.wrap IntKind.i64 ((1 : Int) + Int.tmod (IntKind.wrap IntKind.i64 v4) (20 : Int)) * IntKind.wrap IntKind.i64 ((1 : Int) + Int.tmod (IntKind.wrap IntKind.i64 v4) (20 : Int))))]))]
                σ)
              fun v8 v9 =>
              AM.asI IntKind.i64 v8 fun v10 =>
                AM.br (v10 != IntKind.wrap IntKind.i64 (s4 - (1 : Int))) (some (Value.bool false, v9))
                  (AM.lpAt Proofs.Try.prog AM.env L k (3 : Nat) [true, true, true, true, false, true] [] n
                    [((0 : Nat), Value.slice s0 s0n s0z), ((3 : Nat), Value.pointer (some { block := s3, off := o3 })), ((4 : Nat), Value.int IntKind.i64 s4), ((20 : Nat), Value.int IntKind.i64 s20),
                      ((21 : Nat), Value.int IntKind.i64 (IntKind.wrap IntKind.i64 (s21 + (1 : Int))))]
                    v9))))
  (AM.bnd (AM.evCall Proofs.Try.prog AM.env L k (10 : Nat) [Value.pointer (some { block := s3, off := o3 })] σ) fun v11 v12 =>
    AM.asSl v11 fun v13 v14 v15 =>
      AM.lpAt Proofs.Try.prog AM.env L k (3 : Nat) [true, true, true, true, true, true, false, true] [] L
        [((4 : Nat), Value.int IntKind.i64 s4), ((7 : Nat), Value.slice v13 v14 v15), ((50 : Nat), Value.int IntKind.i64 (↑v14 : Int)), ((51 : Nat), Value.int IntKind.i64 (0 : Int))] v12) := by kernel_rfl
theorem f3_l16 (L k n : Nat) (σ : St) (s4 : Int) (s7 : Option Addr) (s7n s7z : Nat) (s50 : Int) (s51 : Int) : lpAt Go.Proofs.Try.prog Go.AM.env L k 3 [true, true, true, true, true, true, false, true] [] (n + 1) [(4, .int .i64 s4), (7, .slice s7 s7n s7z), (50, .int .i64 s50), (51, .int .i64 s51)] σ =
    AM.br (decide (s51 < s50))
  (AM.need (AM.inRange s51 (↑s7n : Int))
    (AM.adr s7 fun v1 v2 =>
      AM.St.ld σ v1 (v2 + Int.toNat s51 * (1 : Nat)) fun v3 =>
        AM.asI IntKind.i64 v3 fun v4 =>
          AM.br (v4 != IntKind.wrap IntKind.i64 (IntKind.wrap IntKind.i64 (s51 + (1 : Int)) * IntKind.wrap IntKind.i64 (s51 + (1 : Int)))) (some (Value.bool false, σ))
            (AM.lpAt Proofs.Try.prog AM.env L k (3 : Nat) [true, true, true, true, true, true, false, true] [] n
              [((4 : Nat), Value.int IntKind.i64 s4), ((7 : Nat), Value.slice s7 s7n s7z), ((50 : Nat), Value.int IntKind.i64 s50), ((51 : Nat), Value.int IntKind.i64 (IntKind.wrap IntKind.i64 (s51 + (1 : Int))))] σ)))
  (some (Value.bool ((↑s7n : Int) == IntKind.wrap IntKind.i64 (s4 - (1 : Int))), σ)) := by kernel_rfl
/-! isobar/isobarlaw09.WindowSends: 4; parameters [many, step] -/
theorem f4_eq (L k : Nat) (σ : St) (a0 : Int) (a1 : Int) : evCall Go.Proofs.Try.prog Go.AM.env L (k + 1) 4 [.int .u8 a0, .int .u8 a1] σ =
    AM.bnd (AM.evCall Proofs.Try.prog AM.env L k (8 : Nat) [] σ) fun v1 v2 =>
  AM.asB v1 fun v3 =>
    AM.br (!v3) (some (Value.bool false, v2))
      (AM.lpAt Proofs.Try.prog AM.env L k (4 : Nat) [true, true, true, true, false, true] [] L
        [((5 : Nat), Value.int IntKind.i64 (Int.tmod (IntKind.wrap IntKind.i64 a0) (60 : Int))), ((6 : Nat), Value.int IntKind.i64 (IntKind.wrap IntKind.i64 ((1 : Int) + Int.tmod (IntKind.wrap IntKind.i64 a1) (4 : Int)))),
          ((7 : Nat), Value.pointer (some { block := AM.St.next v2, off := (0 : Nat) })), ((26 : Nat), Value.int IntKind.i64 (Int.tmod (IntKind.wrap IntKind.i64 a0) (60 : Int))), ((27 : Nat), Value.int IntKind.i64 (0 : Int))]
        (AM.St.new v2 (AM.Blk.own [Value.slice none (0 : Nat) (0 : Nat), Value.int IntKind.i64 (0 : Int), Value.int IntKind.i64 (0 : Int)] (35 : Nat)))) := by kernel_rfl
theorem f4_l6 (L k n : Nat) (σ : St) (s5 : Int) (s6 : Int) (s7 o7 : Nat) (s26 : Int) (s27 : Int) : lpAt Go.Proofs.Try.prog Go.AM.env L k 4 [true, true, true, true, false, true] [] (n + 1) [(5, .int .i64 s5), (6, .int .i64 s6), (7, .pointer (some ⟨s7, o7, none⟩)), (26, .int .i64 s26), (27, .int .i64 s27)] σ =
    AM.br (decide (s27 < s26))
  (AM.bnd (AM.evCall Proofs.Try.prog AM.env L k (11 : Nat) [Value.pointer (some { block := s7, off := o7 }), Value.int IntKind.i64 (IntKind.wrap IntKind.i64 (s27 * (7 : Int)))] σ) fun v1 v2 =>
    AM.asT (0 : Nat) v1 fun v3 =>
      AM.dstrs [] v3 fun v4 =>
        AM.lpAt Proofs.Try.prog AM.env L k (4 : Nat) [true, true, true, true, false, true] [] n
          [((5 : Nat), Value.int IntKind.i64 s5), ((6 : Nat), Value.int IntKind.i64 s6), ((7 : Nat), Value.pointer (some { block := s7, off := o7 })), ((26 : Nat), Value.int IntKind.i64 s26),
            ((27 : Nat), Value.int IntKind.i64 (IntKind.wrap IntKind.i64 (s27 + (1 : Int))))]
          v2)
  (AM.lpAt Proofs.Try.prog AM.env L k (4 : Nat) [true, true, true, true, true, true, false, true] [] L
    [((5 : Nat), Value.int IntKind.i64 s5), ((6 : Nat), Value.int IntKind.i64 s6), ((7 : Nat), Value.pointer (some { block := s7, off := o7 })), ((9 : Nat), Value.int IntKind.i64 (0 : Int)),
      ((36 : Nat), Value.int IntKind.i64 (IntKind.wrap IntKind.i64 (s5 + (1 : Int)))), ((37 : Nat), Value.int IntKind.i64 (0 : Int))]
    σ) := by kernel_rfl
theorem f4_l12 (L k n : Nat) (σ : St) (s5 : Int) (s6 : Int) (s7 o7 : Nat) (s9 : Int) (s36 : Int) (s37 : Int) : lpAt Go.Proofs.Try.prog Go.AM.env L k 4 [true, true, true, true, true, true, false, true] [] (n + 1) [(5, .int .i64 s5), (6, .int .i64 s6), (7, .pointer (some ⟨s7, o7, none⟩)), (9, .int .i64 s9), (36, .int .i64 s36), (37, .int .i64 s37)] σ =
    AM.br (decide (s37 < s36))
  (AM.bnd (AM.evCall Proofs.Try.prog AM.env L k (12 : Nat) [Value.pointer (some { block := s7, off := o7 })] σ) fun v1 v2 =>
    AM.asSl v1 fun v3 v4 v5 =>
      AM.lpAt Proofs.Try.prog AM.env L k (4 : Nat) [true, true, true, true, true, true, false, true, false, true, true, false, true, false, true] [n] L
        [((5 : Nat), Value.int IntKind.i64 s5), ((6 : Nat), Value.int IntKind.i64 s6), ((7 : Nat), Value.pointer (some { block := s7, off := o7 })), ((9 : Nat), Value.int IntKind.i64 s9), ((10 : Nat), Value.slice v3 v4 v5),
          ((36 : Nat), Value.int IntKind.i64 s36), ((37 : Nat), Value.int IntKind.i64 s37), ((42 : Nat), Value.int IntKind.i64 (↑v4 : Int)), ((43 : Nat), Value.int IntKind.i64 (0 : Int))]
        v2)
  (some (Value.bool (s9 == s5), σ)) := by kernel_rfl
/-! isobar/isobarlaw09.awake: 8; parameters [] -/
theorem f8_eq (L k : Nat) (σ : St)  : evCall Go.Proofs.Try.prog Go.AM.env L (k + 1) 8 [] σ =
    AM.bnd
  (AM.evCall Proofs.Try.prog AM.env L k (11 : Nat) [Value.pointer (some { block := AM.St.next σ, off := (0 : Nat) }), Value.int IntKind.i64 (7 : Int)]
    (AM.St.new σ (AM.Blk.own [Value.slice none (0 : Nat) (0 : Nat), Value.int IntKind.i64 (0 : Int), Value.int IntKind.i64 (0 : Int)] (35 : Nat))))
  fun v1 v2 =>
  AM.asT (0 : Nat) v1 fun v3 =>
    AM.dstrs [] v3 fun v4 =>
      AM.bnd (AM.evCall Proofs.Try.prog AM.env L k (12 : Nat) [Value.pointer (some { block := AM.St.next σ, off := (0 : Nat) })] v2) fun v5 v6 =>
        AM.asSl v5 fun v7 v8 v9 =>
          AM.br ((↑v8 : Int) == (1 : Int))
            (AM.need (AM.inRange (0 : Int) (↑v8 : Int))
              (AM.adr v7 fun v10 v11 =>
                AM.St.ld (AM.St.new v6 (AM.Blk.own [Value.slice none (0 : Nat) (0 : Nat)] (27 : Nat))) v10 (v11 + (0 : Nat) + (0 : Nat)) fun v12 =>
                  AM.asI IntKind.i64 v12 fun v13 =>
                    AM.br (v13 == (1 : Int))
                      (AM.need (AM.inRange (0 : Int) (↑v8 : Int))
                        (AM.adr v7 fun v14 v15 =>
                          AM.St.ld (AM.St.new v6 (AM.Blk.own [Value.slice none (0 : Nat) (0 : Nat)] (27 : Nat))) v14 (v15 + (0 : Nat) + (1 : Nat)) fun v16 =>
                            AM.asI IntKind.i64 v16 fun v17 =>
                              AM.br (v17 == (7 : Int))
                                (AM.need (AM.inRange (0 : Int) (↑v8 : Int))
                                  (AM.adr v7 fun v18 v19 =>
                                    AM.St.lds (AM.St.new v6 (AM.Blk.own [Value.slice none (0 : Nat) (0 : Nat)] (27 : Nat))) v18 (v19 + (0 : Nat)) (2 : Nat) fun v20 =>
                                      AM.bnd
                                        (AM.evCall Proofs.Try.prog AM.env L k (9 : Nat) [Value.pointer (some { block := AM.St.next v6, off := (0 : Nat) }), Value.agg (List.toArray v20)]
                                          (AM.St.new v6 (AM.Blk.own [Value.slice none (0 : Nat) (0 : Nat)] (27 : Nat))))
                                        fun v21 v22 => AM.asI IntKind.i64 v21 fun v23 => some (Value.bool (v23 == (1 : Int)), v22)))
                                (some (Value.bool false, AM.St.new v6 (AM.Blk.own [Value.slice none (0 : Nat) (0 : Nat)] (27 : Nat))))))
                      (some (Value.bool false, AM.St.new v6 (AM.Blk.own [Value.slice none (0 : Nat) (0 : Nat)] (27 : Nat))))))
            (some (Value.bool false, AM.St.new v6 (AM.Blk.own [Value.slice none (0 : Nat) (0 : Nat)] (27 : Nat)))) := by kernel_rfl
/-! (*isobar/window.Receiver[int]).Take: 9; parameters [r, p] -/
theorem f9_eq (L k : Nat) (σ : St) (a0 : Nat) (a1 : List Value) : evCall Go.Proofs.Try.prog Go.AM.env L (k + 1) 9 [.pointer (some ⟨a0, 0, none⟩), .agg a1.toArray] σ =
    AM.St.ld (AM.St.new σ (AM.Blk.own a1 (30 : Nat))) (AM.St.next σ) (0 : Nat) fun v1 =>
  AM.asI IntKind.i64 v1 fun v2 =>
    AM.St.ld (AM.St.new σ (AM.Blk.own a1 (30 : Nat))) a0 (0 : Nat) fun v3 =>
      AM.asSl v3 fun v4 v5 v6 =>
        AM.br (v2 == IntKind.wrap IntKind.i64 ((↑v5 : Int) + (1 : Int)))
          (AM.St.ld (AM.St.new σ (AM.Blk.own a1 (30 : Nat))) a0 (0 : Nat) fun v7 =>
            AM.asSl v7 fun v8 v9 v10 =>
              AM.St.ld (AM.St.new σ (AM.Blk.own a1 (30 : Nat))) (AM.St.next σ) (1 : Nat) fun v11 =>
                AM.asI IntKind.i64 v11 fun v12 =>
                  AM.St.ld (AM.St.new (AM.St.new σ (AM.Blk.own a1 (30 : Nat))) (AM.Blk.own (AM.over (AM.zerosN [Value.int IntKind.i64 (0 : Int)] (1 : Nat)) (0 : Nat) [Value.int IntKind.i64 v12]) (3 : Nat))) a0 (0 : Nat) fun v13 =>
                    AM.asSl v13 fun v14 v15 v16 =>
                      AM.chk (Value.slice v14 v15 v16) (Value.slice v8 v9 v10)
                        (AM.St.row (AM.St.new (AM.St.new σ (AM.Blk.own a1 (30 : Nat))) (AM.Blk.own (AM.over (AM.zerosN [Value.int IntKind.i64 (0 : Int)] (1 : Nat)) (0 : Nat) [Value.int IntKind.i64 v12]) (3 : Nat)))
                          (some { block := AM.St.next (AM.St.new σ (AM.Blk.own a1 (30 : Nat))), off := (0 : Nat) }) (1 : Nat) fun v17 =>
                          AM.grow (3 : Nat) (1 : Nat) (8 : Nat) v8 v9 v10 (1 : Nat) v17
                            (AM.St.new (AM.St.new σ (AM.Blk.own a1 (30 : Nat))) (AM.Blk.own (AM.over (AM.zerosN [Value.int IntKind.i64 (0 : Int)] (1 : Nat)) (0 : Nat) [Value.int IntKind.i64 v12]) (3 : Nat))) fun v18 v19 v20 v21 =>
                            AM.St.put v21 a0 (0 : Nat) [Value.slice v18 v19 v20] fun v22 => AM.St.ld v22 a0 (0 : Nat) fun v23 => AM.asSl v23 fun v24 v25 v26 => some (Value.int IntKind.i64 (↑v25 : Int), v22)))
          (AM.St.ld (AM.St.new σ (AM.Blk.own a1 (30 : Nat))) a0 (0 : Nat) fun v27 => AM.asSl v27 fun v28 v29 v30 => some (Value.int IntKind.i64 (↑v29 : Int), AM.St.new σ (AM.Blk.own a1 (30 : Nat)))) := by kernel_rfl
/-! (*isobar/window.Receiver[int]).List: 10; parameters [r] -/
theorem f10_eq (L k : Nat) (σ : St) (a0 : Nat) : evCall Go.Proofs.Try.prog Go.AM.env L (k + 1) 10 [.pointer (some ⟨a0, 0, none⟩)] σ =
    AM.St.ld σ a0 (0 : Nat) fun v1 => AM.asSl v1 fun v2 v3 v4 => AM.bnd (AM.evCall Proofs.Try.prog AM.env L k (21 : Nat) [Value.slice v2 v3 v4] σ) fun v5 v6 => AM.asSl v5 fun v7 v8 v9 => some (Value.slice v7 v8 v9, v6) := by kernel_rfl
/-! (*isobar/window.Sender[int]).Push: 11; parameters [s, x] -/
theorem f11_eq (L k : Nat) (σ : St) (a0 : Nat) (a1 : Int) : evCall Go.Proofs.Try.prog Go.AM.env L (k + 1) 11 [.pointer (some ⟨a0, 0, none⟩), .int .i64 a1] σ =
    AM.St.ld σ a0 (0 : Nat) fun v1 =>
  AM.asSl v1 fun v2 v3 v4 =>
    AM.St.row (AM.St.new σ (AM.Blk.own (AM.over (AM.zerosN [Value.int IntKind.i64 (0 : Int)] (1 : Nat)) (0 : Nat) [Value.int IntKind.i64 a1]) (3 : Nat))) (some { block := AM.St.next σ, off := (0 : Nat) }) (1 : Nat) fun v5 =>
      AM.grow (3 : Nat) (1 : Nat) (8 : Nat) v2 v3 v4 (1 : Nat) v5 (AM.St.new σ (AM.Blk.own (AM.over (AM.zerosN [Value.int IntKind.i64 (0 : Int)] (1 : Nat)) (0 : Nat) [Value.int IntKind.i64 a1]) (3 : Nat))) fun v6 v7 v8 v9 =>
        AM.St.put v9 a0 (0 : Nat) [Value.slice v6 v7 v8] fun v10 => some (Value.tuple #[], v10) := by kernel_rfl
/-! (*isobar/window.Sender[int]).Send: 12; parameters [s] -/
theorem f12_eq (L k : Nat) (σ : St) (a0 : Nat) : evCall Go.Proofs.Try.prog Go.AM.env L (k + 1) 12 [.pointer (some ⟨a0, 0, none⟩)] σ =
    AM.St.ld σ a0 (1 : Nat) fun v1 =>
  AM.asI IntKind.i64 v1 fun v2 =>
    AM.St.ld σ a0 (1 : Nat) fun v3 =>
      AM.asI IntKind.i64 v3 fun v4 =>
        AM.St.ld σ a0 (0 : Nat) fun v5 =>
          AM.asSl v5 fun v6 v7 v8 =>
            AM.St.ld σ a0 (2 : Nat) fun v9 =>
              AM.asI IntKind.i64 v9 fun v10 =>
                AM.St.put σ a0 (1 : Nat) [Value.int IntKind.i64 (AM.mx v4 (AM.mn (↑v7 : Int) (IntKind.wrap IntKind.i64 (v10 + (4 : Int)))))] fun v11 =>
                  AM.St.ld v11 a0 (1 : Nat) fun v12 =>
                    AM.asI IntKind.i64 v12 fun v13 =>
                      AM.bnd (AM.evCall Proofs.Try.prog AM.env L k (22 : Nat) [Value.pointer (some { block := a0, off := (0 : Nat) }), Value.int IntKind.i64 v2, Value.int IntKind.i64 v13] v11) fun v14 v15 =>
                        AM.asSl v14 fun v16 v17 v18 => some (Value.slice v16 v17 v18, v15) := by kernel_rfl
/-! (*isobar/window.Sender[int]).Counts: 13; parameters [s] -/
theorem f13_eq (L k : Nat) (σ : St) (a0 : Nat) : evCall Go.Proofs.Try.prog Go.AM.env L (k + 1) 13 [.pointer (some ⟨a0, 0, none⟩)] σ =
    AM.St.ld σ a0 (0 : Nat) fun v1 =>
  AM.asSl v1 fun v2 v3 v4 =>
    AM.St.ld σ a0 (1 : Nat) fun v5 =>
      AM.asI IntKind.i64 v5 fun v6 => AM.St.ld σ a0 (2 : Nat) fun v7 => AM.asI IntKind.i64 v7 fun v8 => some (Value.tuple #[Value.int IntKind.i64 (↑v3 : Int), Value.int IntKind.i64 v6, Value.int IntKind.i64 v8], σ) := by kernel_rfl
/-! (*isobar/window.Sender[int]).Ack: 14; parameters [s, n] -/
theorem f14_eq (L k : Nat) (σ : St) (a0 : Nat) (a1 : Int) : evCall Go.Proofs.Try.prog Go.AM.env L (k + 1) 14 [.pointer (some ⟨a0, 0, none⟩), .int .i64 a1] σ =
    AM.br (decide (a1 < (0 : Int)))
  (AM.bnd
    (AM.evCall Proofs.Try.prog AM.env L k (23 : Nat)
      [Value.string { data := #[(119 : UInt8), (105 : UInt8), (110 : UInt8), (100 : UInt8), (111 : UInt8), (119 : UInt8)] }, Value.int IntKind.i64 a1, Value.iface (63 : Nat) (Value.int IntKind.i64 (5 : Int))] σ)
    fun v1 v2 => some (AM.pack [v1], v2))
  (AM.St.ld σ a0 (1 : Nat) fun v3 =>
    AM.asI IntKind.i64 v3 fun v4 =>
      AM.br (decide (a1 > v4))
        (AM.bnd
          (AM.evCall Proofs.Try.prog AM.env L k (23 : Nat)
            [Value.string { data := #[(119 : UInt8), (105 : UInt8), (110 : UInt8), (100 : UInt8), (111 : UInt8), (119 : UInt8)] }, Value.int IntKind.i64 a1, Value.iface (63 : Nat) (Value.int IntKind.i64 (5 : Int))] σ)
          fun v5 v6 => some (AM.pack [v5], v6))
        (AM.St.ld σ a0 (2 : Nat) fun v7 => AM.asI IntKind.i64 v7 fun v8 => AM.St.put σ a0 (2 : Nat) [Value.int IntKind.i64 (AM.mx v8 a1)] fun v9 => some (Value.nilIface, v9))) := by kernel_rfl
/-! (*isobar/window.Sender[int]).Resend: 15; parameters [s] -/
theorem f15_eq (L k : Nat) (σ : St) (a0 : Nat) : evCall Go.Proofs.Try.prog Go.AM.env L (k + 1) 15 [.pointer (some ⟨a0, 0, none⟩)] σ =
    AM.St.ld σ a0 (2 : Nat) fun v1 =>
  AM.asI IntKind.i64 v1 fun v2 =>
    AM.St.ld σ a0 (1 : Nat) fun v3 =>
      AM.asI IntKind.i64 v3 fun v4 =>
        AM.bnd (AM.evCall Proofs.Try.prog AM.env L k (22 : Nat) [Value.pointer (some { block := a0, off := (0 : Nat) }), Value.int IntKind.i64 v2, Value.int IntKind.i64 v4] σ) fun v5 v6 =>
          AM.asSl v5 fun v7 v8 v9 => some (Value.slice v7 v8 v9, v6) := by kernel_rfl
/-! slices.Clone[[]int,int]: 21; parameters [s] -/
theorem f21_eq (L k : Nat) (σ : St) (a0 : Option Addr) (a0n a0z : Nat) : evCall Go.Proofs.Try.prog Go.AM.env L (k + 1) 21 [.slice a0 a0n a0z] σ =
    AM.br (Option.isNone a0) (some (Value.slice none (0 : Nat) (0 : Nat), σ))
  (AM.St.row (AM.St.new σ (AM.Blk.own (AM.zerosN [Value.int IntKind.i64 (0 : Int)] (0 : Nat)) (3 : Nat))) a0 (a0n * (1 : Nat)) fun v1 =>
    AM.grow (3 : Nat) (1 : Nat) (8 : Nat) (some { block := AM.St.next σ, off := (0 : Nat) }) (0 : Nat) (1 : Nat) a0n v1 (AM.St.new σ (AM.Blk.own (AM.zerosN [Value.int IntKind.i64 (0 : Int)] (0 : Nat)) (3 : Nat))) fun v2 v3 v4 v5 =>
      some (Value.slice v2 v3 v4, v5)) := by kernel_rfl
/-! (*isobar/window.Sender[int]).packets: 22; parameters [s, from, to] -/
theorem f22_eq (L k : Nat) (σ : St) (a0 : Nat) (a1 : Int) (a2 : Int) : evCall Go.Proofs.Try.prog Go.AM.env L (k + 1) 22 [.pointer (some ⟨a0, 0, none⟩), .int .i64 a1, .int .i64 a2] σ =
    AM.lpAt Proofs.Try.prog AM.env L k (22 : Nat) [true, true, false, true] [] L
  [((0 : Nat), Value.pointer (some { block := a0, off := (0 : Nat) })), ((2 : Nat), Value.int IntKind.i64 a2), ((7 : Nat), Value.slice none (0 : Nat) (0 : Nat)), ((8 : Nat), Value.int IntKind.i64 a1)] σ := by kernel_rfl
theorem f22_l3 (L k n : Nat) (σ : St) (s0 o0 : Nat) (s2 : Int) (s7 : Option Addr) (s7n s7z : Nat) (s8 : Int) : lpAt Go.Proofs.Try.prog Go.AM.env L k 22 [true, true, false, true] [] (n + 1) [(0, .pointer (some ⟨s0, o0, none⟩)), (2, .int .i64 s2), (7, .slice s7 s7n s7z), (8, .int .i64 s8)] σ =
    AM.br (decide (s8 < s2))
  (AM.St.ld σ s0 (o0 + (0 : Nat)) fun v1 =>
    AM.asSl v1 fun v2 v3 v4 =>
      AM.need (AM.inRange s8 (↑v3 : Int))
        (AM.adr v2 fun v5 v6 =>
          AM.St.ld σ v5 (v6 + Int.toNat s8 * (1 : Nat)) fun v7 =>
            AM.asI IntKind.i64 v7 fun v8 =>
              AM.St.row
                (AM.St.new σ
                  (AM.Blk.own
                    (AM.over (AM.zerosN [Value.int IntKind.i64 (0 : Int), Value.int IntKind.i64 (0 : Int)] (1 : Nat)) (0 : Nat)
                      (AM.over (AM.over [Value.int IntKind.i64 (0 : Int), Value.int IntKind.i64 (0 : Int)] (0 : Nat) [Value.int IntKind.i64 (IntKind.wrap IntKind.i64 (s8 + (1 : Int)))]) (1 : Nat) [Value.int IntKind.i64 v8]))
                    (30 : Nat)))
                (some { block := AM.St.next σ, off := (0 : Nat) }) (2 : Nat) fun v9 =>
                AM.grow (30 : Nat) (2 : Nat) (16 : Nat) s7 s7n s7z (1 : Nat) v9
                  (AM.St.new σ
                    (AM.Blk.own
                      (AM.over (AM.zerosN [Value.int IntKind.i64 (0 : Int), Value.int IntKind.i64 (0 : Int)] (1 : Nat)) (0 : Nat)
                        (AM.over (AM.over [Value.int IntKind.i64 (0 : Int), Value.int IntKind.i64 (0 : Int)] (0 : Nat) [Value.int IntKind.i64 (IntKind.wrap IntKind.i64 (s8 + (1 : Int)))]) (1 : Nat) [Value.int IntKind.i64 v8]))
                      (30 : Nat)))
                  fun v10 v11 v12 v13 =>
                  AM.lpAt Proofs.Try.prog AM.env L k (22 : Nat) [true, true, false, true] [] n
                    [((0 : Nat), Value.pointer (some { block := s0, off := o0 })), ((2 : Nat), Value.int IntKind.i64 s2), ((7 : Nat), Value.slice v10 v11 v12), ((8 : Nat), Value.int IntKind.i64 (IntKind.wrap IntKind.i64 (s8 + (1 : Int))))]
                    v13))
  (some (Value.slice s7 s7n s7z, σ)) := by kernel_rfl
end Go.AM
