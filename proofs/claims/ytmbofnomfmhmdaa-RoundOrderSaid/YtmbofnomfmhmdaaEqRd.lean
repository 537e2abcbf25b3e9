/-
  WHAT EACH FUNCTION DOES, word by word (printed).
-/
import Derived.Test.YtmbofnomfmhmdaaAm0
import Derived.Test.YtmbofnomfmhmdaaEnvRd
set_option linter.unusedVariables false
set_option linter.unusedSimpArgs false
namespace Go.AM.Rd
open Go.Proofs
/-! isobar/isobarlaw17.RoundTimes: 3; parameters [number, volumes, ticks] -/
theorem f3_eq (L k : Nat) (σ : St) (a0 : Int) (a1 : Option Addr) (a1n a1z : Nat) (a2 : Int) : evCall Go.Proofs.Try.prog Go.AM.Rd.env L (k + 1) 3 [.int .u16 a0, .slice a1 a1n a1z, .int .u8 a2] σ =
    AM.bnd (AM.evCall Proofs.Try.prog AM.Rd.env L k (7 : Nat) [] σ) fun v1 v2 =>
  AM.asB v1 fun v3 =>
    AM.br (!v3) (AM.bnd (AM.evCall Proofs.Try.prog AM.Rd.env L k (7 : Nat) [] v2) fun v4 v5 => AM.asB v4 fun v6 => some (Value.bool v6, v5))
      (AM.br (decide ((↑a1n : Int) > (20 : Int))) (AM.bnd (AM.evCall Proofs.Try.prog AM.Rd.env L k (7 : Nat) [] v2) fun v7 v8 => AM.asB v7 fun v9 => some (Value.bool v9, v8))
        (AM.bnd
          (AM.evCall Proofs.Try.prog AM.Rd.env L k (8 : Nat)
            [Value.pointer (some { block := AM.St.next v2, off := (0 : Nat) }), Value.int IntKind.i64 (IntKind.wrap IntKind.i64 ((1 : Int) + IntKind.wrap IntKind.i64 a0)), Value.slice a1 a1n a1z]
            (AM.St.new v2
              (AM.Blk.own
                [Value.int IntKind.i64 (0 : Int), Value.int IntKind.i64 (0 : Int), Value.slice none (0 : Nat) (0 : Nat), Value.int IntKind.i64 (0 : Int), Value.map none, Value.int IntKind.i64 (0 : Int), Value.bool false,
                  Value.int IntKind.i64 (0 : Int), Value.bool false]
                (28 : Nat))))
          fun v10 v11 =>
          AM.asT v10 fun v12 =>
            AM.uncons v12 fun v13 v14 =>
              AM.asSl v13 fun v15 v16 v17 =>
                AM.uncons v14 fun v18 v19 =>
                  AM.endl v19
                    (AM.eqNil v18 fun v20 =>
                      AM.br (!v20)
                        (AM.br ((↑v16 : Int) == (0 : Int))
                          (AM.bnd (AM.evCall Proofs.Try.prog AM.Rd.env L k (9 : Nat) [Value.pointer (some { block := AM.St.next v2, off := (0 : Nat) })] v11) fun v21 v22 =>
                            AM.asI IntKind.i64 v21 fun v23 => some (Value.bool (v23 == (0 : Int)), v22))
                          (some (Value.bool false, v11)))
                        (AM.lpAt Proofs.Try.prog AM.Rd.env L k (3 : Nat) [true, true, true, true, true, false, true] [] L
                          [((0 : Nat), Value.int IntKind.u16 a0), ((1 : Nat), Value.slice a1 a1n a1z), ((7 : Nat), Value.pointer (some { block := AM.St.next v2, off := (0 : Nat) })),
                            ((45 : Nat), Value.int IntKind.i64 (Int.tmod (IntKind.wrap IntKind.i64 a2) (40 : Int))), ((46 : Nat), Value.int IntKind.i64 (0 : Int))]
                          v11)))) := by kernel_rfl
theorem f3_l8 (L k n : Nat) (σ : St) (s0 : Int) (s1 : Option Addr) (s1n s1z : Nat) (s7 o7 : Nat) (s45 : Int) (s46 : Int) : lpAt Go.Proofs.Try.prog Go.AM.Rd.env L k 3 [true, true, true, true, true, false, true] [] (n + 1) [(0, .int .u16 s0), (1, .slice s1 s1n s1z), (7, .pointer (some ⟨s7, o7, none⟩)), (45, .int .i64 s45), (46, .int .i64 s46)] σ =
    AM.br (decide (s46 < s45))
  (AM.bnd (AM.evCall Proofs.Try.prog AM.Rd.env L k (10 : Nat) [Value.pointer (some { block := s7, off := o7 })] σ) fun v1 v2 =>
    AM.asSl v1 fun v3 v4 v5 =>
      AM.br (!decide ((↑v4 : Int) > (0 : Int)) == (Int.tmod (IntKind.wrap IntKind.i64 (s46 + (1 : Int))) (6 : Int) == (0 : Int))) (some (Value.bool false, v2))
        (AM.br (decide ((↑v4 : Int) > (0 : Int)))
          (AM.br ((↑v4 : Int) != (↑s1n : Int)) (some (Value.bool false, v2))
            (AM.need (AM.inRange (0 : Int) (↑v4 : Int))
              (AM.adr v3 fun v6 v7 =>
                AM.St.ld v2 v6 (v7 + (0 : Nat) + (0 : Nat)) fun v8 =>
                  AM.asI IntKind.i64 v8 fun v9 =>
                    AM.br (v9 != (3 : Int)) (some (Value.bool false, v2))
                      (AM.bnd (AM.evCall Proofs.Try.prog AM.Rd.env L k (9 : Nat) [Value.pointer (some { block := s7, off := o7 })] v2) fun v10 v11 =>
                        AM.asI IntKind.i64 v10 fun v12 =>
                          AM.br (v12 != IntKind.wrap IntKind.i64 ((1 : Int) + IntKind.wrap IntKind.i64 s0)) (some (Value.bool false, v11))
                            (AM.lpAt Proofs.Try.prog AM.Rd.env L k (3 : Nat) [true, true, true, true, true, false, true] [] n
                              [((0 : Nat), Value.int IntKind.u16 s0), ((1 : Nat), Value.slice s1 s1n s1z), ((7 : Nat), Value.pointer (some { block := s7, off := o7 })), ((45 : Nat), Value.int IntKind.i64 s45),
                                ((46 : Nat), Value.int IntKind.i64 (IntKind.wrap IntKind.i64 (s46 + (1 : Int))))]
                              v11)))))
          (AM.bnd (AM.evCall Proofs.Try.prog AM.Rd.env L k (9 : Nat) [Value.pointer (some { block := s7, off := o7 })] v2) fun v13 v14 =>
            AM.asI IntKind.i64 v13 fun v15 =>
              AM.br (v15 != IntKind.wrap IntKind.i64 ((1 : Int) + IntKind.wrap IntKind.i64 s0)) (some (Value.bool false, v14))
                (AM.lpAt Proofs.Try.prog AM.Rd.env L k (3 : Nat) [true, true, true, true, true, false, true] [] n
                  [((0 : Nat), Value.int IntKind.u16 s0), ((1 : Nat), Value.slice s1 s1n s1z), ((7 : Nat), Value.pointer (some { block := s7, off := o7 })), ((45 : Nat), Value.int IntKind.i64 s45),
                    ((46 : Nat), Value.int IntKind.i64 (IntKind.wrap IntKind.i64 (s46 + (1 : Int))))]
                  v14))))
  (AM.bnd (AM.evCall Proofs.Try.prog AM.Rd.env L k (11 : Nat) [Value.pointer (some { block := s7, off := o7 })] σ) fun v16 v17 =>
    AM.asT v16 fun v18 =>
      AM.uncons v18 fun v19 v20 =>
        AM.asI IntKind.i64 v19 fun v21 =>
          AM.uncons v20 fun v22 v23 =>
            AM.asB v22 fun v24 =>
              AM.endl v23
                (AM.br (v21 == (0 : Int))
                  (AM.br (!v24)
                    (AM.bnd (AM.evCall Proofs.Try.prog AM.Rd.env L k (12 : Nat) [Value.pointer (some { block := s7, off := o7 })] v17) fun v25 v26 => AM.asSl v25 fun v27 v28 v29 => some (Value.bool ((↑v28 : Int) == (↑s1n : Int)), v26))
                    (some (Value.bool false, v17)))
                  (some (Value.bool false, v17)))) := by kernel_rfl
/-! isobar/isobarlaw17.RoundOrder: 4; parameters [number, volumes, order] -/
theorem f4_eq (L k : Nat) (σ : St) (a0 : Int) (a1 : Option Addr) (a1n a1z : Nat) (a2 : Option Addr) (a2n a2z : Nat) : evCall Go.Proofs.Try.prog Go.AM.Rd.env L (k + 1) 4 [.int .u16 a0, .slice a1 a1n a1z, .slice a2 a2n a2z] σ =
    AM.bnd (AM.evCall Proofs.Try.prog AM.Rd.env L k (7 : Nat) [] σ) fun v1 v2 =>
  AM.asB v1 fun v3 =>
    AM.br (!v3) (AM.bnd (AM.evCall Proofs.Try.prog AM.Rd.env L k (7 : Nat) [] v2) fun v4 v5 => AM.asB v4 fun v6 => some (Value.bool v6, v5))
      (AM.br (decide ((↑a1n : Int) > (20 : Int))) (AM.bnd (AM.evCall Proofs.Try.prog AM.Rd.env L k (7 : Nat) [] v2) fun v7 v8 => AM.asB v7 fun v9 => some (Value.bool v9, v8))
        (AM.br (decide ((↑a2n : Int) > (50 : Int))) (AM.bnd (AM.evCall Proofs.Try.prog AM.Rd.env L k (7 : Nat) [] v2) fun v10 v11 => AM.asB v10 fun v12 => some (Value.bool v12, v11))
          (AM.bnd
            (AM.evCall Proofs.Try.prog AM.Rd.env L k (8 : Nat)
              [Value.pointer (some { block := AM.St.next v2, off := (0 : Nat) }), Value.int IntKind.i64 (IntKind.wrap IntKind.i64 ((1 : Int) + IntKind.wrap IntKind.i64 a0)), Value.slice a1 a1n a1z]
              (AM.St.new v2
                (AM.Blk.own
                  [Value.int IntKind.i64 (0 : Int), Value.int IntKind.i64 (0 : Int), Value.slice none (0 : Nat) (0 : Nat), Value.int IntKind.i64 (0 : Int), Value.map none, Value.int IntKind.i64 (0 : Int), Value.bool false,
                    Value.int IntKind.i64 (0 : Int), Value.bool false]
                  (28 : Nat))))
            fun v13 v14 =>
            AM.asT v13 fun v15 =>
              AM.uncons v15 fun v16 v17 =>
                AM.asSl v16 fun v18 v19 v20 =>
                  AM.uncons v17 fun v21 v22 =>
                    AM.endl v22
                      (AM.eqNil v21 fun v23 =>
                        AM.br (!v23) (some (Value.bool ((↑v19 : Int) == (0 : Int)), v14))
                          (AM.lpAt Proofs.Try.prog AM.Rd.env L k (4 : Nat) [true, true, true, true, true, false, true] [] L
                            [((0 : Nat), Value.int IntKind.u16 a0), ((1 : Nat), Value.slice a1 a1n a1z), ((2 : Nat), Value.slice a2 a2n a2z), ((7 : Nat), Value.pointer (some { block := AM.St.next v2, off := (0 : Nat) })),
                              ((8 : Nat), Value.slice v18 v19 v20), ((10 : Nat), Value.int IntKind.i64 (1 : Int))]
                            v14))))) := by kernel_rfl
theorem f4_l8 (L k n : Nat) (σ : St) (s0 : Int) (s1 : Option Addr) (s1n s1z : Nat) (s2 : Option Addr) (s2n s2z : Nat) (s7 o7 : Nat) (s8 : Option Addr) (s8n s8z : Nat) (s10 : Int) : lpAt Go.Proofs.Try.prog Go.AM.Rd.env L k 4 [true, true, true, true, true, false, true] [] (n + 1) [(0, .int .u16 s0), (1, .slice s1 s1n s1z), (2, .slice s2 s2n s2z), (7, .pointer (some ⟨s7, o7, none⟩)), (8, .slice s8 s8n s8z), (10, .int .i64 s10)] σ =
    AM.br (decide (s10 ≤ (3 : Int)))
  (AM.br ((↑s8n : Int) != (↑s1n : Int)) (some (Value.bool false, σ))
    (AM.lpAt Proofs.Try.prog AM.Rd.env L k (4 : Nat) [true, true, true, true, true, false, true, false, true, false, true, false, true] [n] L
      [((0 : Nat), Value.int IntKind.u16 s0), ((1 : Nat), Value.slice s1 s1n s1z), ((2 : Nat), Value.slice s2 s2n s2z), ((7 : Nat), Value.pointer (some { block := s7, off := o7 })), ((8 : Nat), Value.slice s8 s8n s8z),
        ((10 : Nat), Value.int IntKind.i64 s10), ((59 : Nat), Value.int IntKind.i64 (↑s8n : Int)), ((60 : Nat), Value.int IntKind.i64 (0 : Int))]
      σ))
  (AM.bnd (AM.evCall Proofs.Try.prog AM.Rd.env L k (11 : Nat) [Value.pointer (some { block := s7, off := o7 })] σ) fun v1 v2 =>
    AM.asT v1 fun v3 =>
      AM.uncons v3 fun v4 v5 =>
        AM.asI IntKind.i64 v4 fun v6 =>
          AM.uncons v5 fun v7 v8 =>
            AM.asB v7 fun v9 =>
              AM.endl v8 (AM.br ((↑s8n : Int) == (0 : Int)) (AM.br (v6 == IntKind.wrap IntKind.i64 ((1 : Int) + IntKind.wrap IntKind.i64 s0)) (some (Value.bool v9, v2)) (some (Value.bool false, v2))) (some (Value.bool false, v2)))) := by kernel_rfl
theorem f4_l13 (L k m0 n : Nat) (σ : St) (s0 : Int) (s1 : Option Addr) (s1n s1z : Nat) (s2 : Option Addr) (s2n s2z : Nat) (s7 o7 : Nat) (s8 : Option Addr) (s8n s8z : Nat) (s10 : Int) (s59 : Int) (s60 : Int) : lpAt Go.Proofs.Try.prog Go.AM.Rd.env L k 4 [true, true, true, true, true, false, true, false, true, false, true, false, true] [m0] (n + 1) [(0, .int .u16 s0), (1, .slice s1 s1n s1z), (2, .slice s2 s2n s2z), (7, .pointer (some ⟨s7, o7, none⟩)), (8, .slice s8 s8n s8z), (10, .int .i64 s10), (59, .int .i64 s59), (60, .int .i64 s60)] σ =
    AM.br (decide (s60 < s59))
  (AM.need (AM.inRange s60 (↑s8n : Int))
    (AM.adr s8 fun v1 v2 =>
      AM.St.lds σ v1 (v2 + Int.toNat s60 * (3 : Nat)) (3 : Nat) fun v3 =>
        AM.uncons v3 fun v4 v5 =>
          AM.asI IntKind.i64 v4 fun v6 =>
            AM.uncons v5 fun v7 v8 =>
              AM.asI IntKind.i64 v7 fun v9 =>
                AM.uncons v8 fun v10 v11 =>
                  AM.asI IntKind.i64 v10 fun v12 =>
                    AM.endl v11
                      (AM.need (AM.inRange s60 (↑s1n : Int))
                        (AM.adr s1 fun v13 v14 =>
                          AM.St.ld σ v13 (v14 + Int.toNat s60 * (1 : Nat)) fun v15 =>
                            AM.asI IntKind.i64 v15 fun v16 =>
                              AM.need true
                                (AM.need true
                                  (AM.br (!(v6 == s10 && (v9 == v16 && (v12 == IntKind.wrap IntKind.i64 ((1 : Int) + IntKind.wrap IntKind.i64 s0) && true)))) (some (Value.bool false, σ))
                                    (AM.lpAt Proofs.Try.prog AM.Rd.env L k (4 : Nat) [true, true, true, true, true, false, true, false, true, false, true, false, true] [m0] n
                                      [((0 : Nat), Value.int IntKind.u16 s0), ((1 : Nat), Value.slice s1 s1n s1z), ((2 : Nat), Value.slice s2 s2n s2z), ((7 : Nat), Value.pointer (some { block := s7, off := o7 })),
                                        ((8 : Nat), Value.slice s8 s8n s8z), ((10 : Nat), Value.int IntKind.i64 s10), ((59 : Nat), Value.int IntKind.i64 s59), ((60 : Nat), Value.int IntKind.i64 (IntKind.wrap IntKind.i64 (s60 + (1 : Int))))]
                                      σ)))))))
  (AM.lpAt Proofs.Try.prog AM.Rd.env L k (4 : Nat) [true, true, true, true, true, false, true, false, true, false, true, true, false, true] [m0] L
    [((0 : Nat), Value.int IntKind.u16 s0), ((1 : Nat), Value.slice s1 s1n s1z), ((2 : Nat), Value.slice s2 s2n s2z), ((7 : Nat), Value.pointer (some { block := s7, off := o7 })), ((8 : Nat), Value.slice s8 s8n s8z),
      ((10 : Nat), Value.int IntKind.i64 s10), ((79 : Nat), Value.int IntKind.i64 (↑s2n : Int)), ((80 : Nat), Value.int IntKind.i64 (0 : Int))]
    σ) := by kernel_rfl
theorem f4_l19 (L k m0 n : Nat) (σ : St) (s0 : Int) (s1 : Option Addr) (s1n s1z : Nat) (s2 : Option Addr) (s2n s2z : Nat) (s7 o7 : Nat) (s8 : Option Addr) (s8n s8z : Nat) (s10 : Int) (s79 : Int) (s80 : Int) : lpAt Go.Proofs.Try.prog Go.AM.Rd.env L k 4 [true, true, true, true, true, false, true, false, true, false, true, true, false, true] [m0] (n + 1) [(0, .int .u16 s0), (1, .slice s1 s1n s1z), (2, .slice s2 s2n s2z), (7, .pointer (some ⟨s7, o7, none⟩)), (8, .slice s8 s8n s8z), (10, .int .i64 s10), (79, .int .i64 s79), (80, .int .i64 s80)] σ =
    AM.br (decide (s80 < s79))
  (AM.need (AM.inRange s80 (↑s2n : Int))
    (AM.adr s2 fun v1 v2 =>
      AM.St.ld σ v1 (v2 + Int.toNat s80 * (1 : Nat)) fun v3 =>
        AM.asI IntKind.u64 v3 fun v4 =>
          AM.need (IntKind.wrap IntKind.u64 (↑s8n : Int) != (0 : Int))
            (AM.need (AM.inRange (IntKind.wrap IntKind.i64 (Int.tmod v4 (IntKind.wrap IntKind.u64 (↑s8n : Int)))) (↑s8n : Int))
              (AM.adr s8 fun v5 v6 =>
                AM.St.lds σ v5 (v6 + Int.toNat (IntKind.wrap IntKind.i64 (Int.tmod v4 (IntKind.wrap IntKind.u64 (↑s8n : Int)))) * (3 : Nat)) (3 : Nat) fun v7 =>
                  AM.uncons v7 fun v8 v9 =>
                    AM.asI IntKind.i64 v8 fun v10 =>
                      AM.uncons v9 fun v11 v12 =>
                        AM.asI IntKind.i64 v11 fun v13 =>
                          AM.uncons v12 fun v14 v15 =>
                            AM.asI IntKind.i64 v14 fun v16 =>
                              AM.endl v15
                                (AM.need (AM.inRange (0 : Int) (↑s8n : Int))
                                  (AM.adr s8 fun v17 v18 =>
                                    AM.St.lds σ v17 (v18 + (0 : Nat)) (3 : Nat) fun v19 =>
                                      AM.uncons v19 fun v20 v21 =>
                                        AM.asI IntKind.i64 v20 fun v22 =>
                                          AM.uncons v21 fun v23 v24 =>
                                            AM.asI IntKind.i64 v23 fun v25 =>
                                              AM.uncons v24 fun v26 v27 =>
                                                AM.asI IntKind.i64 v26 fun v28 =>
                                                  AM.endl v27
                                                    (AM.need (AM.inRange (0 : Int) (↑s8n : Int))
                                                      (AM.adr s8 fun v29 v30 =>
                                                        AM.St.put σ v29 (v30 + (0 : Nat)) [Value.int IntKind.i64 v10, Value.int IntKind.i64 v13, Value.int IntKind.i64 v16] fun v31 =>
                                                          AM.need (AM.inRange (IntKind.wrap IntKind.i64 (Int.tmod v4 (IntKind.wrap IntKind.u64 (↑s8n : Int)))) (↑s8n : Int))
                                                            (AM.adr s8 fun v32 v33 =>
                                                              AM.St.put v31 v32 (v33 + Int.toNat (IntKind.wrap IntKind.i64 (Int.tmod v4 (IntKind.wrap IntKind.u64 (↑s8n : Int)))) * (3 : Nat))
                                                                [Value.int IntKind.i64 v22, Value.int IntKind.i64 v25, Value.int IntKind.i64 v28] fun v34 =>
                                                                AM.lpAt Proofs.Try.prog AM.Rd.env L k (4 : Nat) [true, true, true, true, true, false, true, false, true, false, true, true, false, true] [m0] n
                                                                  [((0 : Nat), Value.int IntKind.u16 s0), ((1 : Nat), Value.slice s1 s1n s1z), ((2 : Nat), Value.slice s2 s2n s2z),
                                                                    ((7 : Nat), Value.pointer (some { block := s7, off := o7 })), ((8 : Nat), Value.slice s8 s8n s8z), ((10 : Nat), Value.int IntKind.i64 s10),
                                                                    ((79 : Nat), Value.int IntKind.i64 s79), ((80 : Nat), Value.int IntKind.i64 (IntKind.wrap IntKind.i64 (s80 + (1 : Int))))]
                                                                  v34)))))))))
  (AM.lpAt Proofs.Try.prog AM.Rd.env L k (4 : Nat) [true, true, true, true, true, false, true, false, true, false, true, true, true, true, false, true] [m0] L
    [((0 : Nat), Value.int IntKind.u16 s0), ((1 : Nat), Value.slice s1 s1n s1z), ((2 : Nat), Value.slice s2 s2n s2z), ((7 : Nat), Value.pointer (some { block := s7, off := o7 })), ((8 : Nat), Value.slice s8 s8n s8z),
      ((10 : Nat), Value.int IntKind.i64 s10), ((14 : Nat), Value.slice none (0 : Nat) (0 : Nat)), ((106 : Nat), Value.int IntKind.i64 (↑s8n : Int)), ((107 : Nat), Value.int IntKind.i64 (0 : Int))]
    σ) := by kernel_rfl
theorem f4_l26 (L k m0 n : Nat) (σ : St) (s0 : Int) (s1 : Option Addr) (s1n s1z : Nat) (s2 : Option Addr) (s2n s2z : Nat) (s7 o7 : Nat) (s8 : Option Addr) (s8n s8z : Nat) (s10 : Int) (s14 : Option Addr) (s14n s14z : Nat) (s106 : Int) (s107 : Int) : lpAt Go.Proofs.Try.prog Go.AM.Rd.env L k 4 [true, true, true, true, true, false, true, false, true, false, true, true, true, true, false, true] [m0] (n + 1) [(0, .int .u16 s0), (1, .slice s1 s1n s1z), (2, .slice s2 s2n s2z), (7, .pointer (some ⟨s7, o7, none⟩)), (8, .slice s8 s8n s8z), (10, .int .i64 s10), (14, .slice s14 s14n s14z), (106, .int .i64 s106), (107, .int .i64 s107)] σ =
    AM.br (decide (s107 < s106))
  (AM.need (AM.inRange s107 (↑s8n : Int))
    (AM.adr s8 fun v1 v2 =>
      AM.St.lds σ v1 (v2 + Int.toNat s107 * (3 : Nat)) (3 : Nat) fun v3 =>
        AM.uncons v3 fun v4 v5 =>
          AM.asI IntKind.i64 v4 fun v6 =>
            AM.uncons v5 fun v7 v8 =>
              AM.asI IntKind.i64 v7 fun v9 =>
                AM.uncons v8 fun v10 v11 =>
                  AM.asI IntKind.i64 v10 fun v12 =>
                    AM.endl v11
                      (AM.bnd (AM.evCall Proofs.Try.prog AM.Rd.env L k (13 : Nat) [Value.pointer (some { block := s7, off := o7 }), Value.agg #[Value.int IntKind.i64 v6, Value.int IntKind.i64 v9, Value.int IntKind.i64 v12]] σ)
                        fun v13 v14 =>
                        AM.asT v13 fun v15 =>
                          AM.uncons v15 fun v16 v17 =>
                            AM.asSl v16 fun v18 v19 v20 =>
                              AM.uncons v17 fun v21 v22 =>
                                AM.endl v22
                                  (AM.eqNil v21 fun v23 =>
                                    AM.br (!v23) (some (Value.bool false, v14))
                                      (AM.br (decide ((↑v19 : Int) > (0 : Int)))
                                        (AM.br (decide (s107 < IntKind.wrap IntKind.i64 ((↑s8n : Int) - (1 : Int)))) (some (Value.bool false, v14))
                                          (AM.lpAt Proofs.Try.prog AM.Rd.env L k (4 : Nat) [true, true, true, true, true, false, true, false, true, false, true, true, true, true, false, true] [m0] n
                                            [((0 : Nat), Value.int IntKind.u16 s0), ((1 : Nat), Value.slice s1 s1n s1z), ((2 : Nat), Value.slice s2 s2n s2z), ((7 : Nat), Value.pointer (some { block := s7, off := o7 })),
                                              ((8 : Nat), Value.slice s8 s8n s8z), ((10 : Nat), Value.int IntKind.i64 s10), ((14 : Nat), Value.slice v18 v19 v20), ((106 : Nat), Value.int IntKind.i64 s106),
                                              ((107 : Nat), Value.int IntKind.i64 (IntKind.wrap IntKind.i64 (s107 + (1 : Int))))]
                                            v14))
                                        (AM.lpAt Proofs.Try.prog AM.Rd.env L k (4 : Nat) [true, true, true, true, true, false, true, false, true, false, true, true, true, true, false, true] [m0] n
                                          [((0 : Nat), Value.int IntKind.u16 s0), ((1 : Nat), Value.slice s1 s1n s1z), ((2 : Nat), Value.slice s2 s2n s2z), ((7 : Nat), Value.pointer (some { block := s7, off := o7 })),
                                            ((8 : Nat), Value.slice s8 s8n s8z), ((10 : Nat), Value.int IntKind.i64 s10), ((14 : Nat), Value.slice v18 v19 v20), ((106 : Nat), Value.int IntKind.i64 s106),
                                            ((107 : Nat), Value.int IntKind.i64 (IntKind.wrap IntKind.i64 (s107 + (1 : Int))))]
                                          v14))))))
  (AM.lpAt Proofs.Try.prog AM.Rd.env L k (4 : Nat) [true, true, true, true, true, false, true] [] m0
    [((0 : Nat), Value.int IntKind.u16 s0), ((1 : Nat), Value.slice s1 s1n s1z), ((2 : Nat), Value.slice s2 s2n s2z), ((7 : Nat), Value.pointer (some { block := s7, off := o7 })), ((8 : Nat), Value.slice s14 s14n s14z),
      ((10 : Nat), Value.int IntKind.i64 (IntKind.wrap IntKind.i64 (s10 + (1 : Int))))]
    σ) := by kernel_rfl
/-! isobar/isobarlaw17.awake: 7; parameters [] -/
theorem f7_eq (L k : Nat) (σ : St)  : evCall Go.Proofs.Try.prog Go.AM.Rd.env L (k + 1) 7 [] σ =
    AM.bnd
  (AM.evCall Proofs.Try.prog AM.Rd.env L k (8 : Nat)
    [Value.pointer (some { block := AM.St.next σ, off := (0 : Nat) }), Value.int IntKind.i64 (1 : Int),
      Value.slice
        (some
          {
            block :=
              AM.St.next
                (AM.St.new σ
                  (AM.Blk.own
                    [Value.int IntKind.i64 (0 : Int), Value.int IntKind.i64 (0 : Int), Value.slice none (0 : Nat) (0 : Nat), Value.int IntKind.i64 (0 : Int), Value.map none, Value.int IntKind.i64 (0 : Int), Value.bool false,
                      Value.int IntKind.i64 (0 : Int), Value.bool false]
                    (28 : Nat))),
            off := (0 : Nat) })
        (2 : Nat) (1 : Nat)]
    (AM.St.new
      (AM.St.new σ
        (AM.Blk.own
          [Value.int IntKind.i64 (0 : Int), Value.int IntKind.i64 (0 : Int), Value.slice none (0 : Nat) (0 : Nat), Value.int IntKind.i64 (0 : Int), Value.map none, Value.int IntKind.i64 (0 : Int), Value.bool false,
            Value.int IntKind.i64 (0 : Int), Value.bool false]
          (28 : Nat)))
      (AM.Blk.own [Value.int IntKind.i64 (0 : Int), Value.int IntKind.i64 (2 : Int)] (3 : Nat))))
  fun v1 v2 =>
  AM.asT v1 fun v3 =>
    AM.uncons v3 fun v4 v5 =>
      AM.asSl v4 fun v6 v7 v8 =>
        AM.uncons v5 fun v9 v10 =>
          AM.endl v10
            (AM.eqNil v9 fun v11 =>
              AM.br v11
                (AM.br ((↑v7 : Int) == (2 : Int))
                  (AM.need (AM.inRange (0 : Int) (↑v7 : Int))
                    (AM.adr v6 fun v12 v13 =>
                      AM.St.ld v2 v12 (v13 + (0 : Nat) + (0 : Nat)) fun v14 =>
                        AM.asI IntKind.i64 v14 fun v15 =>
                          AM.br (v15 == (1 : Int))
                            (AM.need (AM.inRange (1 : Int) (↑v7 : Int))
                              (AM.adr v6 fun v16 v17 =>
                                AM.St.ld v2 v16 (v17 + (3 : Nat) + (1 : Nat)) fun v18 =>
                                  AM.asI IntKind.i64 v18 fun v19 =>
                                    AM.br (v19 == (2 : Int))
                                      (AM.bnd (AM.evCall Proofs.Try.prog AM.Rd.env L k (9 : Nat) [Value.pointer (some { block := AM.St.next σ, off := (0 : Nat) })] v2) fun v20 v21 =>
                                        AM.asI IntKind.i64 v20 fun v22 => some (Value.bool (v22 == (1 : Int)), v21))
                                      (some (Value.bool false, v2))))
                            (some (Value.bool false, v2))))
                  (some (Value.bool false, v2)))
                (some (Value.bool false, v2))) := by kernel_rfl
/-! (*isobar/round.Round).Begin: 8; parameters [r, number, volumes] -/
theorem f8_eq (L k : Nat) (σ : St) (a0 : Nat) (a1 : Int) (a2 : Option Addr) (a2n a2z : Nat) : evCall Go.Proofs.Try.prog Go.AM.Rd.env L (k + 1) 8 [.pointer (some ⟨a0, 0, none⟩), .int .i64 a1, .slice a2 a2n a2z] σ =
    AM.St.ld σ a0 (0 : Nat) fun v1 =>
  AM.asI IntKind.i64 v1 fun v2 =>
    AM.br (v2 != (0 : Int)) (AM.bnd (AM.evCall Proofs.Try.prog AM.Rd.env L k (15 : Nat) [Value.int IntKind.i64 a1, Value.int IntKind.i64 (9 : Int)] σ) fun v3 v4 => some (Value.tuple #[Value.slice none (0 : Nat) (0 : Nat), v3], v4))
      (AM.St.ld σ a0 (1 : Nat) fun v5 =>
        AM.asI IntKind.i64 v5 fun v6 =>
          AM.br (decide (a1 ≤ v6)) (AM.bnd (AM.evCall Proofs.Try.prog AM.Rd.env L k (15 : Nat) [Value.int IntKind.i64 a1, Value.int IntKind.i64 (10 : Int)] σ) fun v7 v8 => some (Value.tuple #[Value.slice none (0 : Nat) (0 : Nat), v7], v8))
            (AM.bnd (AM.evCall Proofs.Try.prog AM.Rd.env L k (16 : Nat) [Value.slice a2 a2n a2z] σ) fun v9 v10 =>
              AM.asB v9 fun v11 =>
                AM.br (!v11) (AM.bnd (AM.evCall Proofs.Try.prog AM.Rd.env L k (15 : Nat) [Value.int IntKind.i64 a1, Value.int IntKind.i64 (1 : Int)] v10) fun v12 v13 => some (Value.tuple #[Value.slice none (0 : Nat) (0 : Nat), v12], v13))
                  (AM.St.put v10 a0 (0 : Nat) [Value.int IntKind.i64 a1] fun v14 =>
                    AM.St.put v14 a0 (1 : Nat) [Value.int IntKind.i64 a1] fun v15 =>
                      AM.St.put v15 a0 (6 : Nat) [Value.bool false] fun v16 =>
                        AM.bnd (AM.evCall Proofs.Try.prog AM.Rd.env L k (17 : Nat) [Value.slice a2 a2n a2z] v16) fun v17 v18 =>
                          AM.asSl v17 fun v19 v20 v21 =>
                            AM.St.put v18 a0 (2 : Nat) [Value.slice v19 v20 v21] fun v22 =>
                              AM.bnd (AM.evCall Proofs.Try.prog AM.Rd.env L k (18 : Nat) [Value.pointer (some { block := a0, off := (0 : Nat) }), Value.int IntKind.i64 (1 : Int)] v22) fun v23 v24 =>
                                AM.asSl v23 fun v25 v26 v27 => some (Value.tuple #[Value.slice v25 v26 v27, Value.nilIface], v24)))) := by kernel_rfl
/-! (*isobar/round.Round).Number: 9; parameters [r] -/
theorem f9_eq (L k : Nat) (σ : St) (a0 : Nat) : evCall Go.Proofs.Try.prog Go.AM.Rd.env L (k + 1) 9 [.pointer (some ⟨a0, 0, none⟩)] σ =
    AM.St.ld σ a0 (0 : Nat) fun v1 => AM.asI IntKind.i64 v1 fun v2 => some (Value.int IntKind.i64 v2, σ) := by kernel_rfl
/-! (*isobar/round.Round).Tick: 10; parameters [r] -/
theorem f10_eq (L k : Nat) (σ : St) (a0 : Nat) : evCall Go.Proofs.Try.prog Go.AM.Rd.env L (k + 1) 10 [.pointer (some ⟨a0, 0, none⟩)] σ =
    AM.bnd (AM.evCall Proofs.Try.prog AM.Rd.env L k (9 : Nat) [Value.pointer (some { block := a0, off := (0 : Nat) })] σ) fun v1 v2 =>
  AM.asI IntKind.i64 v1 fun v3 =>
    AM.br (v3 == (0 : Int)) (some (Value.slice none (0 : Nat) (0 : Nat), v2))
      (AM.St.ld v2 a0 (5 : Nat) fun v4 =>
        AM.asI IntKind.i64 v4 fun v5 =>
          AM.St.put v2 a0 (5 : Nat) [Value.int IntKind.i64 (IntKind.wrap IntKind.i64 (v5 - (1 : Int)))] fun v6 =>
            AM.St.ld v6 a0 (5 : Nat) fun v7 =>
              AM.asI IntKind.i64 v7 fun v8 =>
                AM.br (decide (v8 > (0 : Int))) (some (Value.slice none (0 : Nat) (0 : Nat), v6))
                  (AM.St.ld v6 a0 (3 : Nat) fun v9 =>
                    AM.asI IntKind.i64 v9 fun v10 =>
                      AM.br (v10 != (3 : Int))
                        (AM.bnd (AM.evCall Proofs.Try.prog AM.Rd.env L k (18 : Nat) [Value.pointer (some { block := a0, off := (0 : Nat) }), Value.int IntKind.i64 (3 : Int)] v6) fun v11 v12 =>
                          AM.asSl v11 fun v13 v14 v15 => some (Value.slice v13 v14 v15, v12))
                        (AM.bnd (AM.evCall Proofs.Try.prog AM.Rd.env L k (19 : Nat) [Value.pointer (some { block := a0, off := (0 : Nat) })] v6) fun v16 v17 => AM.asSl v16 fun v18 v19 v20 => some (Value.slice v18 v19 v20, v17)))) := by kernel_rfl
/-! (*isobar/round.Round).Done: 11; parameters [r] -/
theorem f11_eq (L k : Nat) (σ : St) (a0 : Nat) : evCall Go.Proofs.Try.prog Go.AM.Rd.env L (k + 1) 11 [.pointer (some ⟨a0, 0, none⟩)] σ =
    AM.St.ld σ a0 (7 : Nat) fun v1 => AM.asI IntKind.i64 v1 fun v2 => AM.St.ld σ a0 (8 : Nat) fun v3 => AM.asB v3 fun v4 => some (Value.tuple #[Value.int IntKind.i64 v2, Value.bool v4], σ) := by kernel_rfl
/-! (*isobar/round.Round).Lacks: 12; parameters [r] -/
theorem f12_eq (L k : Nat) (σ : St) (a0 : Nat) : evCall Go.Proofs.Try.prog Go.AM.Rd.env L (k + 1) 12 [.pointer (some ⟨a0, 0, none⟩)] σ =
    AM.St.ld σ a0 (2 : Nat) fun v1 =>
  AM.asSl v1 fun v2 v3 v4 =>
    AM.lpAt Proofs.Try.prog AM.Rd.env L k (12 : Nat) [true, true, true, false, true] [] L
      [((0 : Nat), Value.pointer (some { block := a0, off := (0 : Nat) })), ((3 : Nat), Value.slice none (0 : Nat) (0 : Nat)), ((11 : Nat), Value.slice v2 v3 v4), ((12 : Nat), Value.int IntKind.i64 (↑v3 : Int)),
        ((13 : Nat), Value.int IntKind.i64 (0 : Int))]
      σ := by kernel_rfl
theorem f12_l5 (L k n : Nat) (σ : St) (s0 o0 : Nat) (s3 : Option Addr) (s3n s3z : Nat) (s11 : Option Addr) (s11n s11z : Nat) (s12 : Int) (s13 : Int) : lpAt Go.Proofs.Try.prog Go.AM.Rd.env L k 12 [true, true, true, false, true] [] (n + 1) [(0, .pointer (some ⟨s0, o0, none⟩)), (3, .slice s3 s3n s3z), (11, .slice s11 s11n s11z), (12, .int .i64 s12), (13, .int .i64 s13)] σ =
    AM.br (decide (s13 < s12))
  (AM.need (AM.inRange s13 (↑s11n : Int))
    (AM.adr s11 fun v1 v2 =>
      AM.St.ld σ v1 (v2 + Int.toNat s13 * (1 : Nat)) fun v3 =>
        AM.asI IntKind.i64 v3 fun v4 =>
          AM.St.ld σ s0 (o0 + (4 : Nat)) fun v5 =>
            AM.asM v5 fun v6 =>
              AM.St.look σ v6 v4 (Value.bool false) fun v7 =>
                AM.asB v7 fun v8 =>
                  AM.br (!v8)
                    (AM.St.row (AM.St.new σ (AM.Blk.own [Value.int IntKind.i64 v4] (3 : Nat))) (some { block := AM.St.next σ, off := (0 : Nat) }) (1 : Nat) fun v9 =>
                      AM.grow (3 : Nat) (1 : Nat) (8 : Nat) s3 s3n s3z (1 : Nat) v9 (AM.St.new σ (AM.Blk.own [Value.int IntKind.i64 v4] (3 : Nat))) fun v10 v11 v12 v13 =>
                        AM.lpAt Proofs.Try.prog AM.Rd.env L k (12 : Nat) [true, true, true, false, true] [] n
                          [((0 : Nat), Value.pointer (some { block := s0, off := o0 })), ((3 : Nat), Value.slice v10 v11 v12), ((11 : Nat), Value.slice s11 s11n s11z), ((12 : Nat), Value.int IntKind.i64 s12),
                            ((13 : Nat), Value.int IntKind.i64 (IntKind.wrap IntKind.i64 (s13 + (1 : Int))))]
                          v13)
                    (AM.lpAt Proofs.Try.prog AM.Rd.env L k (12 : Nat) [true, true, true, false, true] [] n
                      [((0 : Nat), Value.pointer (some { block := s0, off := o0 })), ((3 : Nat), Value.slice s3 s3n s3z), ((11 : Nat), Value.slice s11 s11n s11z), ((12 : Nat), Value.int IntKind.i64 s12),
                        ((13 : Nat), Value.int IntKind.i64 (IntKind.wrap IntKind.i64 (s13 + (1 : Int))))]
                      σ)))
  (some (Value.slice s3 s3n s3z, σ)) := by kernel_rfl
/-! (*isobar/round.Round).Answer: 13; parameters [r, c] -/
theorem f13_eq (L k : Nat) (σ : St) (a0 : Nat) (a1_0 : Int) (a1_1 : Int) (a1_2 : Int) : evCall Go.Proofs.Try.prog Go.AM.Rd.env L (k + 1) 13 [.pointer (some ⟨a0, 0, none⟩), .agg [.int .i64 a1_0, .int .i64 a1_1, .int .i64 a1_2].toArray] σ =
    AM.St.ld (AM.St.new σ (AM.Blk.own [Value.int IntKind.i64 a1_0, Value.int IntKind.i64 a1_1, Value.int IntKind.i64 a1_2] (37 : Nat))) a0 (0 : Nat) fun v1 =>
  AM.asI IntKind.i64 v1 fun v2 =>
    AM.br (v2 == (0 : Int))
      (AM.St.ld (AM.St.new σ (AM.Blk.own [Value.int IntKind.i64 a1_0, Value.int IntKind.i64 a1_1, Value.int IntKind.i64 a1_2] (37 : Nat))) (AM.St.next σ) (2 : Nat) fun v3 =>
        AM.asI IntKind.i64 v3 fun v4 =>
          AM.bnd
            (AM.evCall Proofs.Try.prog AM.Rd.env L k (15 : Nat) [Value.int IntKind.i64 v4, Value.int IntKind.i64 (10 : Int)]
              (AM.St.new σ (AM.Blk.own [Value.int IntKind.i64 a1_0, Value.int IntKind.i64 a1_1, Value.int IntKind.i64 a1_2] (37 : Nat))))
            fun v5 v6 => some (Value.tuple #[Value.slice none (0 : Nat) (0 : Nat), v5], v6))
      (AM.St.ld (AM.St.new σ (AM.Blk.own [Value.int IntKind.i64 a1_0, Value.int IntKind.i64 a1_1, Value.int IntKind.i64 a1_2] (37 : Nat))) (AM.St.next σ) (2 : Nat) fun v7 =>
        AM.asI IntKind.i64 v7 fun v8 =>
          AM.St.ld (AM.St.new σ (AM.Blk.own [Value.int IntKind.i64 a1_0, Value.int IntKind.i64 a1_1, Value.int IntKind.i64 a1_2] (37 : Nat))) a0 (0 : Nat) fun v9 =>
            AM.asI IntKind.i64 v9 fun v10 =>
              AM.br (v8 != v10)
                (AM.St.ld (AM.St.new σ (AM.Blk.own [Value.int IntKind.i64 a1_0, Value.int IntKind.i64 a1_1, Value.int IntKind.i64 a1_2] (37 : Nat))) (AM.St.next σ) (2 : Nat) fun v11 =>
                  AM.asI IntKind.i64 v11 fun v12 =>
                    AM.bnd
                      (AM.evCall Proofs.Try.prog AM.Rd.env L k (15 : Nat) [Value.int IntKind.i64 v12, Value.int IntKind.i64 (10 : Int)]
                        (AM.St.new σ (AM.Blk.own [Value.int IntKind.i64 a1_0, Value.int IntKind.i64 a1_1, Value.int IntKind.i64 a1_2] (37 : Nat))))
                      fun v13 v14 => some (Value.tuple #[Value.slice none (0 : Nat) (0 : Nat), v13], v14))
                (AM.St.ld (AM.St.new σ (AM.Blk.own [Value.int IntKind.i64 a1_0, Value.int IntKind.i64 a1_1, Value.int IntKind.i64 a1_2] (37 : Nat))) (AM.St.next σ) (0 : Nat) fun v15 =>
                  AM.asI IntKind.i64 v15 fun v16 =>
                    AM.St.ld (AM.St.new σ (AM.Blk.own [Value.int IntKind.i64 a1_0, Value.int IntKind.i64 a1_1, Value.int IntKind.i64 a1_2] (37 : Nat))) a0 (3 : Nat) fun v17 =>
                      AM.asI IntKind.i64 v17 fun v18 =>
                        AM.br (v16 != v18)
                          (AM.St.ld (AM.St.new σ (AM.Blk.own [Value.int IntKind.i64 a1_0, Value.int IntKind.i64 a1_1, Value.int IntKind.i64 a1_2] (37 : Nat))) (AM.St.next σ) (2 : Nat) fun v19 =>
                            AM.asI IntKind.i64 v19 fun v20 =>
                              AM.bnd
                                (AM.evCall Proofs.Try.prog AM.Rd.env L k (15 : Nat) [Value.int IntKind.i64 v20, Value.int IntKind.i64 (10 : Int)]
                                  (AM.St.new σ (AM.Blk.own [Value.int IntKind.i64 a1_0, Value.int IntKind.i64 a1_1, Value.int IntKind.i64 a1_2] (37 : Nat))))
                                fun v21 v22 => some (Value.tuple #[Value.slice none (0 : Nat) (0 : Nat), v21], v22))
                          (AM.St.ld (AM.St.new σ (AM.Blk.own [Value.int IntKind.i64 a1_0, Value.int IntKind.i64 a1_1, Value.int IntKind.i64 a1_2] (37 : Nat))) a0 (2 : Nat) fun v23 =>
                            AM.asSl v23 fun v24 v25 v26 =>
                              AM.St.ld (AM.St.new σ (AM.Blk.own [Value.int IntKind.i64 a1_0, Value.int IntKind.i64 a1_1, Value.int IntKind.i64 a1_2] (37 : Nat))) (AM.St.next σ) (1 : Nat) fun v27 =>
                                AM.asI IntKind.i64 v27 fun v28 =>
                                  AM.bnd
                                    (AM.evCall Proofs.Try.prog AM.Rd.env L k (20 : Nat) [Value.slice v24 v25 v26, Value.int IntKind.i64 v28]
                                      (AM.St.new σ (AM.Blk.own [Value.int IntKind.i64 a1_0, Value.int IntKind.i64 a1_1, Value.int IntKind.i64 a1_2] (37 : Nat))))
                                    fun v29 v30 =>
                                    AM.asB v29 fun v31 =>
                                      AM.br (!v31)
                                        (AM.St.ld v30 (AM.St.next σ) (2 : Nat) fun v32 =>
                                          AM.asI IntKind.i64 v32 fun v33 =>
                                            AM.bnd (AM.evCall Proofs.Try.prog AM.Rd.env L k (15 : Nat) [Value.int IntKind.i64 v33, Value.int IntKind.i64 (12 : Int)] v30) fun v34 v35 =>
                                              some (Value.tuple #[Value.slice none (0 : Nat) (0 : Nat), v34], v35))
                                        (AM.St.ld v30 a0 (4 : Nat) fun v36 =>
                                          AM.asM v36 fun v37 =>
                                            AM.St.ld v30 (AM.St.next σ) (1 : Nat) fun v38 =>
                                              AM.asI IntKind.i64 v38 fun v39 =>
                                                AM.St.upd v30 v37 v39 (Value.bool true) fun v40 =>
                                                  AM.bnd (AM.evCall Proofs.Try.prog AM.Rd.env L k (12 : Nat) [Value.pointer (some { block := a0, off := (0 : Nat) })] v40) fun v41 v42 =>
                                                    AM.asSl v41 fun v43 v44 v45 =>
                                                      AM.br (decide ((↑v44 : Int) > (0 : Int))) (some (Value.tuple #[Value.slice none (0 : Nat) (0 : Nat), Value.nilIface], v42))
                                                        (AM.bnd (AM.evCall Proofs.Try.prog AM.Rd.env L k (21 : Nat) [Value.pointer (some { block := a0, off := (0 : Nat) })] v42) fun v46 v47 =>
                                                          AM.asSl v46 fun v48 v49 v50 => some (Value.tuple #[Value.slice v48 v49 v50, Value.nilIface], v47)))))) := by kernel_rfl
/-! isobar/round.wrong: 15; parameters [number, e] -/
theorem f15_eq (L k : Nat) (σ : St) (a0 : Int) (a1 : Int) : evCall Go.Proofs.Try.prog Go.AM.Rd.env L (k + 1) 15 [.int .i64 a0, .int .i64 a1] σ =
    AM.bnd
  (AM.evCall Proofs.Try.prog AM.Rd.env L k (22 : Nat) [Value.string { data := #[(114 : UInt8), (111 : UInt8), (117 : UInt8), (110 : UInt8), (100 : UInt8)] }, Value.int IntKind.i64 a0, Value.iface (55 : Nat) (Value.int IntKind.i64 a1)] σ)
  fun v1 v2 => some (AM.pack [v1], v2) := by kernel_rfl
/-! isobar/round.right: 16; parameters [volumes] -/
theorem f16_eq (L k : Nat) (σ : St) (a0 : Option Addr) (a0n a0z : Nat) : evCall Go.Proofs.Try.prog Go.AM.Rd.env L (k + 1) 16 [.slice a0 a0n a0z] σ =
    AM.lpAt Proofs.Try.prog AM.Rd.env L k (16 : Nat) [true, true, false, true] [] L
  [((0 : Nat), Value.slice a0 a0n a0z), ((3 : Nat), Value.map (some (AM.St.next σ))), ((7 : Nat), Value.slice a0 a0n a0z), ((8 : Nat), Value.int IntKind.i64 (↑a0n : Int)), ((9 : Nat), Value.int IntKind.i64 (0 : Int))]
  (AM.St.new σ (AM.Blk.mp [])) := by kernel_rfl
theorem f16_l3 (L k n : Nat) (σ : St) (s0 : Option Addr) (s0n s0z : Nat) (s3 : Option Nat) (s7 : Option Addr) (s7n s7z : Nat) (s8 : Int) (s9 : Int) : lpAt Go.Proofs.Try.prog Go.AM.Rd.env L k 16 [true, true, false, true] [] (n + 1) [(0, .slice s0 s0n s0z), (3, .map s3), (7, .slice s7 s7n s7z), (8, .int .i64 s8), (9, .int .i64 s9)] σ =
    AM.br (decide (s9 < s8))
  (AM.need (AM.inRange s9 (↑s7n : Int))
    (AM.adr s7 fun v1 v2 =>
      AM.St.ld σ v1 (v2 + Int.toNat s9 * (1 : Nat)) fun v3 =>
        AM.asI IntKind.i64 v3 fun v4 =>
          AM.br (decide (v4 < (0 : Int))) (some (Value.bool false, σ))
            (AM.br (decide (v4 ≥ (4 : Int))) (some (Value.bool false, σ))
              (AM.St.look σ s3 v4 (Value.bool false) fun v5 =>
                AM.asB v5 fun v6 =>
                  AM.br v6 (some (Value.bool false, σ))
                    (AM.St.upd σ s3 v4 (Value.bool true) fun v7 =>
                      AM.lpAt Proofs.Try.prog AM.Rd.env L k (16 : Nat) [true, true, false, true] [] n
                        [((0 : Nat), Value.slice s0 s0n s0z), ((3 : Nat), Value.map s3), ((7 : Nat), Value.slice s7 s7n s7z), ((8 : Nat), Value.int IntKind.i64 s8),
                          ((9 : Nat), Value.int IntKind.i64 (IntKind.wrap IntKind.i64 (s9 + (1 : Int))))]
                        v7)))))
  (some (Value.bool (decide ((↑s0n : Int) > (0 : Int))), σ)) := by kernel_rfl
/-! slices.Clone[[]int,int]: 17; parameters [s] -/
theorem f17_eq (L k : Nat) (σ : St) (a0 : Option Addr) (a0n a0z : Nat) : evCall Go.Proofs.Try.prog Go.AM.Rd.env L (k + 1) 17 [.slice a0 a0n a0z] σ =
    AM.br (Option.isNone a0) (some (Value.slice none (0 : Nat) (0 : Nat), σ))
  (AM.St.row (AM.St.new σ (AM.Blk.own [] (3 : Nat))) a0 (a0n * (1 : Nat)) fun v1 =>
    AM.grow (3 : Nat) (1 : Nat) (8 : Nat) (some { block := AM.St.next σ, off := (0 : Nat) }) (0 : Nat) (1 : Nat) a0n v1 (AM.St.new σ (AM.Blk.own [] (3 : Nat))) fun v2 v3 v4 v5 => some (Value.slice v2 v3 v4, v5)) := by kernel_rfl
/-! (*isobar/round.Round).enter: 18; parameters [r, phase] -/
theorem f18_eq (L k : Nat) (σ : St) (a0 : Nat) (a1 : Int) : evCall Go.Proofs.Try.prog Go.AM.Rd.env L (k + 1) 18 [.pointer (some ⟨a0, 0, none⟩), .int .i64 a1] σ =
    AM.St.put (AM.St.new σ (AM.Blk.mp [])) a0 (3 : Nat) [Value.int IntKind.i64 a1] fun v1 =>
  AM.St.put v1 a0 (4 : Nat) [Value.map (some (AM.St.next σ))] fun v2 =>
    AM.bnd (AM.evCall Proofs.Try.prog AM.Rd.env L k (19 : Nat) [Value.pointer (some { block := a0, off := (0 : Nat) })] v2) fun v3 v4 => AM.asSl v3 fun v5 v6 v7 => some (Value.slice v5 v6 v7, v4) := by kernel_rfl
/-! (*isobar/round.Round).tell: 19; parameters [r] -/
theorem f19_eq (L k : Nat) (σ : St) (a0 : Nat) : evCall Go.Proofs.Try.prog Go.AM.Rd.env L (k + 1) 19 [.pointer (some ⟨a0, 0, none⟩)] σ =
    AM.bnd (AM.evCall Proofs.Try.prog AM.Rd.env L k (12 : Nat) [Value.pointer (some { block := a0, off := (0 : Nat) })] σ) fun v1 v2 =>
  AM.asSl v1 fun v3 v4 v5 =>
    AM.lpAt Proofs.Try.prog AM.Rd.env L k (19 : Nat) [true, true, false, true] [] L
      [((0 : Nat), Value.pointer (some { block := a0, off := (0 : Nat) })), ((3 : Nat), Value.slice none (0 : Nat) (0 : Nat)), ((7 : Nat), Value.slice v3 v4 v5), ((8 : Nat), Value.int IntKind.i64 (↑v4 : Int)),
        ((9 : Nat), Value.int IntKind.i64 (0 : Int))]
      v2 := by kernel_rfl
theorem f19_l3 (L k n : Nat) (σ : St) (s0 o0 : Nat) (s3 : Option Addr) (s3n s3z : Nat) (s7 : Option Addr) (s7n s7z : Nat) (s8 : Int) (s9 : Int) : lpAt Go.Proofs.Try.prog Go.AM.Rd.env L k 19 [true, true, false, true] [] (n + 1) [(0, .pointer (some ⟨s0, o0, none⟩)), (3, .slice s3 s3n s3z), (7, .slice s7 s7n s7z), (8, .int .i64 s8), (9, .int .i64 s9)] σ =
    AM.br (decide (s9 < s8))
  (AM.need (AM.inRange s9 (↑s7n : Int))
    (AM.adr s7 fun v1 v2 =>
      AM.St.ld σ v1 (v2 + Int.toNat s9 * (1 : Nat)) fun v3 =>
        AM.asI IntKind.i64 v3 fun v4 =>
          AM.St.ld σ s0 (o0 + (3 : Nat)) fun v5 =>
            AM.asI IntKind.i64 v5 fun v6 =>
              AM.St.ld σ s0 (o0 + (0 : Nat)) fun v7 =>
                AM.asI IntKind.i64 v7 fun v8 =>
                  AM.need true
                    (AM.need true
                      (AM.need true
                        (AM.need true
                          (AM.St.row (AM.St.new σ (AM.Blk.own [Value.int IntKind.i64 v6, Value.int IntKind.i64 v4, Value.int IntKind.i64 v8] (37 : Nat))) (some { block := AM.St.next σ, off := (0 : Nat) }) (3 : Nat) fun v9 =>
                            AM.grow (37 : Nat) (3 : Nat) (24 : Nat) s3 s3n s3z (1 : Nat) v9 (AM.St.new σ (AM.Blk.own [Value.int IntKind.i64 v6, Value.int IntKind.i64 v4, Value.int IntKind.i64 v8] (37 : Nat))) fun v10 v11 v12 v13 =>
                              AM.lpAt Proofs.Try.prog AM.Rd.env L k (19 : Nat) [true, true, false, true] [] n
                                [((0 : Nat), Value.pointer (some { block := s0, off := o0 })), ((3 : Nat), Value.slice v10 v11 v12), ((7 : Nat), Value.slice s7 s7n s7z), ((8 : Nat), Value.int IntKind.i64 s8),
                                  ((9 : Nat), Value.int IntKind.i64 (IntKind.wrap IntKind.i64 (s9 + (1 : Int))))]
                                v13))))))
  (AM.St.put σ s0 (o0 + (5 : Nat)) [Value.int IntKind.i64 (6 : Int)] fun v14 => some (Value.slice s3 s3n s3z, v14)) := by kernel_rfl
/-! slices.Contains[[]int,int]: 20; parameters [s, v] -/
theorem f20_eq (L k : Nat) (σ : St) (a0 : Option Addr) (a0n a0z : Nat) (a1 : Int) : evCall Go.Proofs.Try.prog Go.AM.Rd.env L (k + 1) 20 [.slice a0 a0n a0z, .int .i64 a1] σ =
    AM.bnd (AM.evCall Proofs.Try.prog AM.Rd.env L k (23 : Nat) [Value.slice a0 a0n a0z, Value.int IntKind.i64 a1] σ) fun v1 v2 => AM.asI IntKind.i64 v1 fun v3 => some (Value.bool (decide (v3 ≥ (0 : Int))), v2) := by kernel_rfl
/-! (*isobar/round.Round).next: 21; parameters [r] -/
theorem f21_eq (L k : Nat) (σ : St) (a0 : Nat) : evCall Go.Proofs.Try.prog Go.AM.Rd.env L (k + 1) 21 [.pointer (some ⟨a0, 0, none⟩)] σ =
    AM.St.ld σ a0 (3 : Nat) fun v1 =>
  AM.asI IntKind.i64 v1 fun v2 =>
    AM.br (v2 == (2 : Int))
      (AM.St.put σ a0 (6 : Nat) [Value.bool true] fun v3 =>
        AM.St.ld v3 a0 (3 : Nat) fun v4 =>
          AM.asI IntKind.i64 v4 fun v5 =>
            AM.bnd (AM.evCall Proofs.Try.prog AM.Rd.env L k (18 : Nat) [Value.pointer (some { block := a0, off := (0 : Nat) }), Value.int IntKind.i64 (IntKind.wrap IntKind.i64 (v5 + (1 : Int)))] v3) fun v6 v7 =>
              AM.asSl v6 fun v8 v9 v10 => some (Value.slice v8 v9 v10, v7))
      (AM.br (v2 == (1 : Int))
        (AM.St.ld σ a0 (3 : Nat) fun v11 =>
          AM.asI IntKind.i64 v11 fun v12 =>
            AM.bnd (AM.evCall Proofs.Try.prog AM.Rd.env L k (18 : Nat) [Value.pointer (some { block := a0, off := (0 : Nat) }), Value.int IntKind.i64 (IntKind.wrap IntKind.i64 (v12 + (1 : Int)))] σ) fun v13 v14 =>
              AM.asSl v13 fun v15 v16 v17 => some (Value.slice v15 v16 v17, v14))
        (AM.St.ld σ a0 (0 : Nat) fun v18 =>
          AM.asI IntKind.i64 v18 fun v19 =>
            AM.St.ld σ a0 (6 : Nat) fun v20 =>
              AM.asB v20 fun v21 =>
                AM.St.put σ a0 (7 : Nat) [Value.int IntKind.i64 v19] fun v22 =>
                  AM.St.put v22 a0 (8 : Nat) [Value.bool v21] fun v23 =>
                    AM.St.put v23 a0 (0 : Nat) [Value.int IntKind.i64 (0 : Int)] fun v24 => AM.St.put v24 a0 (2 : Nat) [Value.slice none (0 : Nat) (0 : Nat)] fun v25 => some (Value.slice none (0 : Nat) (0 : Nat), v25))) := by kernel_rfl
/-! isobar/fault.Wrap: 22; parameters [op, at, err] -/
theorem f22_eq (L k : Nat) (σ : St) (a0 : ByteArray) (a1 : Int) (a2 : Value) : evCall Go.Proofs.Try.prog Go.AM.Rd.env L (k + 1) 22 [.string a0, .int .i64 a1, a2] σ =
    AM.eqNil a2 fun v1 =>
  AM.br v1 (some (Value.nilIface, σ))
    (AM.eqErr a2 (55 : Nat) IntKind.i64 (0 : Int) fun v2 =>
      AM.br v2 (some (Value.nilIface, σ))
        (AM.need true
          (AM.need (AM.oneCell a2) (AM.need true (some (Value.iface (62 : Nat) (Value.pointer (some { block := AM.St.next σ, off := (0 : Nat) })), AM.St.new σ (AM.Blk.own [Value.string a0, Value.int IntKind.i64 a1, a2] (64 : Nat)))))))) := by kernel_rfl
/-! slices.Index[[]int,int]: 23; parameters [s, v] -/
theorem f23_eq (L k : Nat) (σ : St) (a0 : Option Addr) (a0n a0z : Nat) (a1 : Int) : evCall Go.Proofs.Try.prog Go.AM.Rd.env L (k + 1) 23 [.slice a0 a0n a0z, .int .i64 a1] σ =
    AM.lpAt Proofs.Try.prog AM.Rd.env L k (23 : Nat) [true, false, true] [] L
  [((0 : Nat), Value.slice a0 a0n a0z), ((1 : Nat), Value.int IntKind.i64 a1), ((7 : Nat), Value.int IntKind.i64 (↑a0n : Int)), ((8 : Nat), Value.int IntKind.i64 (0 : Int))] σ := by kernel_rfl
theorem f23_l2 (L k n : Nat) (σ : St) (s0 : Option Addr) (s0n s0z : Nat) (s1 : Int) (s7 : Int) (s8 : Int) : lpAt Go.Proofs.Try.prog Go.AM.Rd.env L k 23 [true, false, true] [] (n + 1) [(0, .slice s0 s0n s0z), (1, .int .i64 s1), (7, .int .i64 s7), (8, .int .i64 s8)] σ =
    AM.br (decide (s8 < s7))
  (AM.need (AM.inRange s8 (↑s0n : Int))
    (AM.adr s0 fun v1 v2 =>
      AM.St.ld σ v1 (v2 + Int.toNat s8 * (1 : Nat)) fun v3 =>
        AM.asI IntKind.i64 v3 fun v4 =>
          AM.br (s1 == v4) (some (Value.int IntKind.i64 s8, σ))
            (AM.lpAt Proofs.Try.prog AM.Rd.env L k (23 : Nat) [true, false, true] [] n
              [((0 : Nat), Value.slice s0 s0n s0z), ((1 : Nat), Value.int IntKind.i64 s1), ((7 : Nat), Value.int IntKind.i64 s7), ((8 : Nat), Value.int IntKind.i64 (IntKind.wrap IntKind.i64 (s8 + (1 : Int))))] σ)))
  (some (Value.int IntKind.i64 (-1 : Int), σ)) := by kernel_rfl
end Go.AM.Rd
