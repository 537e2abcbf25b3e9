/-
  WHAT EACH FUNCTION DOES, word by word (printed).
-/
import Derived.Test.YtmmjibadpdbkaaaDoorAm0
import Derived.Test.YtmmjibadpdbkaaaDoorEnvWd
set_option linter.unusedVariables false
set_option linter.unusedSimpArgs false
set_option linter.unusedSectionVars false
namespace Go.AM.Wd
open Go.Proofs
/-! isobar/isobarlaw09.WindowNil: 3; parameters [x, n] -/
theorem f3_eq (L k : Nat) (σ : St) (a0 : ByteArray) (a1 : Int) : evCall Go.Proofs.Tryd.prog Go.AM.Wd.env L (k + 1) 3 [.string a0, .int .i64 a1] σ =
    AM.bnd (AM.evCall Proofs.Tryd.prog AM.Wd.env L k (5 : Nat) [] σ) fun v1 v2 =>
  AM.asB v1 fun v3 =>
    AM.br (!v3) (AM.bnd (AM.evCall Proofs.Tryd.prog AM.Wd.env L k (5 : Nat) [] v2) fun v4 v5 => AM.asB v4 fun v6 => some (Value.bool v6, v5))
      (AM.br (decide ((↑(ByteArray.size a0) : Int) > (100 : Int))) (AM.bnd (AM.evCall Proofs.Tryd.prog AM.Wd.env L k (5 : Nat) [] v2) fun v7 v8 => AM.asB v7 fun v9 => some (Value.bool v9, v8))
        (AM.bnd (AM.evCall Proofs.Tryd.prog AM.Wd.env L k (6 : Nat) [Value.pointer none, Value.string a0] v2) fun v10 v11 =>
          AM.asT v10 fun v12 =>
            AM.endl v12
              (AM.bnd (AM.evCall Proofs.Tryd.prog AM.Wd.env L k (7 : Nat) [Value.pointer none] v11) fun v13 v14 =>
                AM.asT v13 fun v15 =>
                  AM.uncons v15 fun v16 v17 =>
                    AM.asI IntKind.i64 v16 fun v18 =>
                      AM.uncons v17 fun v19 v20 =>
                        AM.asI IntKind.i64 v19 fun v21 =>
                          AM.uncons v20 fun v22 v23 =>
                            AM.asI IntKind.i64 v22 fun v24 =>
                              AM.endl v23
                                (AM.br (IntKind.wrap IntKind.i64 (IntKind.wrap IntKind.i64 (v18 + v21) + v24) == (0 : Int))
                                  (AM.bnd (AM.evCall Proofs.Tryd.prog AM.Wd.env L k (8 : Nat) [Value.pointer none] v14) fun v25 v26 =>
                                    AM.asSl v25 fun v27 v28 v29 =>
                                      AM.bnd (AM.evCall Proofs.Tryd.prog AM.Wd.env L k (9 : Nat) [Value.pointer none] v26) fun v30 v31 =>
                                        AM.asSl v30 fun v32 v33 v34 =>
                                          AM.br (IntKind.wrap IntKind.i64 ((↑v28 : Int) + (↑v33 : Int)) == (0 : Int))
                                            (AM.bnd (AM.evCall Proofs.Tryd.prog AM.Wd.env L k (11 : Nat) [Value.pointer none, Value.int IntKind.i64 a1] v31) fun v35 v36 =>
                                              AM.bnd (AM.evCall Proofs.Tryd.prog AM.Wd.env L k (10 : Nat) [v35] v36) fun v37 v38 =>
                                                AM.asI IntKind.i64 v37 fun v39 =>
                                                  AM.br (v39 == (5 : Int))
                                                    (AM.need true
                                                      (AM.bnd (AM.evCall Proofs.Tryd.prog AM.Wd.env L k (12 : Nat) [Value.pointer none, Value.agg #[Value.int IntKind.i64 a1, Value.string a0]] v38) fun v40 v41 =>
                                                        AM.asI IntKind.i64 v40 fun v42 =>
                                                          AM.br (v42 == (0 : Int))
                                                            (AM.bnd (AM.evCall Proofs.Tryd.prog AM.Wd.env L k (13 : Nat) [Value.pointer none] v41) fun v43 v44 =>
                                                              AM.asSl v43 fun v45 v46 v47 => some (Value.bool ((↑v46 : Int) == (0 : Int)), v44))
                                                            (some (Value.bool false, v41))))
                                                    (some (Value.bool false, v38)))
                                            (some (Value.bool false, v31)))
                                  (some (Value.bool false, v14)))))) := by kernel_rfl
/-! isobar/isobarlaw09.awake: 5; parameters [] -/
theorem f5_eq (L k : Nat) (σ : St)  : evCall Go.Proofs.Tryd.prog Go.AM.Wd.env L (k + 1) 5 [] σ =
    AM.bnd
  (AM.evCall Proofs.Tryd.prog AM.Wd.env L k (22 : Nat) [Value.pointer (some { block := AM.St.next σ, off := (0 : Nat) }), Value.int IntKind.i64 (7 : Int)]
    (AM.St.new σ (AM.Blk.own [Value.slice none (0 : Nat) (0 : Nat), Value.int IntKind.i64 (0 : Int), Value.int IntKind.i64 (0 : Int)] (63 : Nat))))
  fun v1 v2 =>
  AM.asT v1 fun v3 =>
    AM.endl v3
      (AM.bnd (AM.evCall Proofs.Tryd.prog AM.Wd.env L k (23 : Nat) [Value.pointer (some { block := AM.St.next σ, off := (0 : Nat) })] v2) fun v4 v5 =>
        AM.asSl v4 fun v6 v7 v8 =>
          AM.br ((↑v7 : Int) == (1 : Int))
            (AM.need (AM.inRange (0 : Int) (↑v7 : Int))
              (AM.adr v6 fun v9 v10 =>
                AM.St.ld (AM.St.new v5 (AM.Blk.own [Value.slice none (0 : Nat) (0 : Nat)] (69 : Nat))) v9 (v10 + (0 : Nat) + (0 : Nat)) fun v11 =>
                  AM.asI IntKind.i64 v11 fun v12 =>
                    AM.br (v12 == (1 : Int))
                      (AM.need (AM.inRange (0 : Int) (↑v7 : Int))
                        (AM.adr v6 fun v13 v14 =>
                          AM.St.ld (AM.St.new v5 (AM.Blk.own [Value.slice none (0 : Nat) (0 : Nat)] (69 : Nat))) v13 (v14 + (0 : Nat) + (1 : Nat)) fun v15 =>
                            AM.asI IntKind.i64 v15 fun v16 =>
                              AM.br (v16 == (7 : Int))
                                (AM.need (AM.inRange (0 : Int) (↑v7 : Int))
                                  (AM.adr v6 fun v17 v18 =>
                                    AM.St.lds (AM.St.new v5 (AM.Blk.own [Value.slice none (0 : Nat) (0 : Nat)] (69 : Nat))) v17 (v18 + (0 : Nat)) (2 : Nat) fun v19 =>
                                      AM.uncons v19 fun v20 v21 =>
                                        AM.asI IntKind.i64 v20 fun v22 =>
                                          AM.uncons v21 fun v23 v24 =>
                                            AM.asI IntKind.i64 v23 fun v25 =>
                                              AM.endl v24
                                                (AM.bnd
                                                  (AM.evCall Proofs.Tryd.prog AM.Wd.env L k (24 : Nat) [Value.pointer (some { block := AM.St.next v5, off := (0 : Nat) }), Value.agg #[Value.int IntKind.i64 v22, Value.int IntKind.i64 v25]]
                                                    (AM.St.new v5 (AM.Blk.own [Value.slice none (0 : Nat) (0 : Nat)] (69 : Nat))))
                                                  fun v26 v27 => AM.asI IntKind.i64 v26 fun v28 => some (Value.bool (v28 == (1 : Int)), v27))))
                                (some (Value.bool false, AM.St.new v5 (AM.Blk.own [Value.slice none (0 : Nat) (0 : Nat)] (69 : Nat))))))
                      (some (Value.bool false, AM.St.new v5 (AM.Blk.own [Value.slice none (0 : Nat) (0 : Nat)] (69 : Nat))))))
            (some (Value.bool false, AM.St.new v5 (AM.Blk.own [Value.slice none (0 : Nat) (0 : Nat)] (69 : Nat))))) := by kernel_rfl
/-! (*isobar/window.Sender[string]).Push: 6; parameters [s, x] -/
theorem f6_eq (L k : Nat) (σ : St) (a0 : Nat) (a1 : ByteArray) : evCall Go.Proofs.Tryd.prog Go.AM.Wd.env L (k + 1) 6 [.pointer (some ⟨a0, 0, none⟩), .string a1] σ =
    AM.St.ld σ a0 (0 : Nat) fun v1 =>
  AM.asSl v1 fun v2 v3 v4 =>
    AM.St.row (AM.St.new σ (AM.Blk.own [Value.string a1] (9 : Nat))) (some { block := AM.St.next σ, off := (0 : Nat) }) (1 : Nat) fun v5 =>
      AM.grow (9 : Nat) (1 : Nat) (16 : Nat) v2 v3 v4 (1 : Nat) v5 (AM.St.new σ (AM.Blk.own [Value.string a1] (9 : Nat))) fun v6 v7 v8 v9 => AM.St.put v9 a0 (0 : Nat) [Value.slice v6 v7 v8] fun v10 => some (Value.tuple #[], v10) := by kernel_rfl
/-! (*isobar/window.Sender[string]).Counts: 7; parameters [s] -/
theorem f7_eq (L k : Nat) (σ : St) (a0 : Nat) : evCall Go.Proofs.Tryd.prog Go.AM.Wd.env L (k + 1) 7 [.pointer (some ⟨a0, 0, none⟩)] σ =
    AM.St.ld σ a0 (0 : Nat) fun v1 =>
  AM.asSl v1 fun v2 v3 v4 =>
    AM.St.ld σ a0 (1 : Nat) fun v5 =>
      AM.asI IntKind.i64 v5 fun v6 => AM.St.ld σ a0 (2 : Nat) fun v7 => AM.asI IntKind.i64 v7 fun v8 => some (Value.tuple #[Value.int IntKind.i64 (↑v3 : Int), Value.int IntKind.i64 v6, Value.int IntKind.i64 v8], σ) := by kernel_rfl
/-! (*isobar/window.Sender[string]).Send: 8; parameters [s] -/
theorem f8_eq (L k : Nat) (σ : St) (a0 : Nat) : evCall Go.Proofs.Tryd.prog Go.AM.Wd.env L (k + 1) 8 [.pointer (some ⟨a0, 0, none⟩)] σ =
    AM.St.ld σ a0 (1 : Nat) fun v1 =>
  AM.asI IntKind.i64 v1 fun v2 =>
    AM.St.ld σ a0 (1 : Nat) fun v3 =>
      AM.asI IntKind.i64 v3 fun v4 =>
        AM.St.ld σ a0 (0 : Nat) fun v5 =>
          AM.asSl v5 fun v6 v7 v8 =>
            AM.St.ld σ a0 (2 : Nat) fun v9 =>
              AM.asI IntKind.i64 v9 fun v10 =>
                AM.St.put σ a0 (1 : Nat) [Value.int IntKind.i64 (AM.mx v4 (AM.mn (↑v7 : Int) (IntKind.wrap IntKind.i64 (v10 + (4 : Int)))))] fun v11 =>
                  AM.St.ld v11 a0 (1 : Nat) fun v12 =>
                    AM.asI IntKind.i64 v12 fun v13 =>
                      AM.bnd (AM.evCall Proofs.Tryd.prog AM.Wd.env L k (25 : Nat) [Value.pointer (some { block := a0, off := (0 : Nat) }), Value.int IntKind.i64 v2, Value.int IntKind.i64 v13] v11) fun v14 v15 =>
                        AM.asSl v14 fun v16 v17 v18 => some (Value.slice v16 v17 v18, v15) := by kernel_rfl
/-! (*isobar/window.Sender[string]).Resend: 9; parameters [s] -/
theorem f9_eq (L k : Nat) (σ : St) (a0 : Nat) : evCall Go.Proofs.Tryd.prog Go.AM.Wd.env L (k + 1) 9 [.pointer (some ⟨a0, 0, none⟩)] σ =
    AM.St.ld σ a0 (2 : Nat) fun v1 =>
  AM.asI IntKind.i64 v1 fun v2 =>
    AM.St.ld σ a0 (1 : Nat) fun v3 =>
      AM.asI IntKind.i64 v3 fun v4 =>
        AM.bnd (AM.evCall Proofs.Tryd.prog AM.Wd.env L k (25 : Nat) [Value.pointer (some { block := a0, off := (0 : Nat) }), Value.int IntKind.i64 v2, Value.int IntKind.i64 v4] σ) fun v5 v6 =>
          AM.asSl v5 fun v7 v8 v9 => some (Value.slice v7 v8 v9, v6) := by kernel_rfl
/-! isobar/fault.Code: 10; parameters [err] -/
theorem f10_eq (L k : Nat) (σ : St) (a0 : Value) : evCall Go.Proofs.Tryd.prog Go.AM.Wd.env L (k + 1) 10 [a0] σ =
    AM.bnd (AM.evCall Proofs.Tryd.prog AM.Wd.env L k (26 : Nat) [a0, Value.iface (75 : Nat) (Value.pointer (some { block := AM.St.next σ, off := (0 : Nat) }))] (AM.St.new σ (AM.Blk.own [Value.int IntKind.i64 (0 : Int)] (30 : Nat))))
  fun v1 v2 => AM.asB v1 fun v3 => AM.br (!v3) (some (Value.int IntKind.i64 (0 : Int), v2)) (AM.St.ld v2 (AM.St.next σ) (0 : Nat) fun v4 => AM.asI IntKind.i64 v4 fun v5 => some (Value.int IntKind.i64 v5, v2)) := by kernel_rfl
/-! (*isobar/window.Sender[string]).Ack: 11; parameters [s, n] -/
theorem f11_eq (L k : Nat) (σ : St) (a0 : Nat) (a1 : Int) : evCall Go.Proofs.Tryd.prog Go.AM.Wd.env L (k + 1) 11 [.pointer (some ⟨a0, 0, none⟩), .int .i64 a1] σ =
    AM.br (decide (a1 < (0 : Int)))
  (AM.bnd
    (AM.evCall Proofs.Tryd.prog AM.Wd.env L k (27 : Nat)
      [Value.string { data := #[(119 : UInt8), (105 : UInt8), (110 : UInt8), (100 : UInt8), (111 : UInt8), (119 : UInt8)] }, Value.int IntKind.i64 a1, Value.iface (30 : Nat) (Value.int IntKind.i64 (5 : Int))] σ)
    fun v1 v2 => some (AM.pack [v1], v2))
  (AM.St.ld σ a0 (1 : Nat) fun v3 =>
    AM.asI IntKind.i64 v3 fun v4 =>
      AM.br (decide (a1 > v4))
        (AM.bnd
          (AM.evCall Proofs.Tryd.prog AM.Wd.env L k (27 : Nat)
            [Value.string { data := #[(119 : UInt8), (105 : UInt8), (110 : UInt8), (100 : UInt8), (111 : UInt8), (119 : UInt8)] }, Value.int IntKind.i64 a1, Value.iface (30 : Nat) (Value.int IntKind.i64 (5 : Int))] σ)
          fun v5 v6 => some (AM.pack [v5], v6))
        (AM.St.ld σ a0 (2 : Nat) fun v7 => AM.asI IntKind.i64 v7 fun v8 => AM.St.put σ a0 (2 : Nat) [Value.int IntKind.i64 (AM.mx v8 a1)] fun v9 => some (Value.nilIface, v9))) := by kernel_rfl
/-! (*isobar/window.Receiver[string]).Take: 12; parameters [r, p] -/
theorem f12_eq (L k : Nat) (σ : St) (a0 : Nat) (a1_0 : Int) (a1_1 : ByteArray) : evCall Go.Proofs.Tryd.prog Go.AM.Wd.env L (k + 1) 12 [.pointer (some ⟨a0, 0, none⟩), .agg [.int .i64 a1_0, .string a1_1].toArray] σ =
    AM.St.ld (AM.St.new σ (AM.Blk.own [Value.int IntKind.i64 a1_0, Value.string a1_1] (37 : Nat))) (AM.St.next σ) (0 : Nat) fun v1 =>
  AM.asI IntKind.i64 v1 fun v2 =>
    AM.St.ld (AM.St.new σ (AM.Blk.own [Value.int IntKind.i64 a1_0, Value.string a1_1] (37 : Nat))) a0 (0 : Nat) fun v3 =>
      AM.asSl v3 fun v4 v5 v6 =>
        AM.br (v2 == IntKind.wrap IntKind.i64 ((↑v5 : Int) + (1 : Int)))
          (AM.St.ld (AM.St.new σ (AM.Blk.own [Value.int IntKind.i64 a1_0, Value.string a1_1] (37 : Nat))) a0 (0 : Nat) fun v7 =>
            AM.asSl v7 fun v8 v9 v10 =>
              AM.St.ld (AM.St.new σ (AM.Blk.own [Value.int IntKind.i64 a1_0, Value.string a1_1] (37 : Nat))) (AM.St.next σ) (1 : Nat) fun v11 =>
                AM.asS v11 fun v12 =>
                  AM.St.ld (AM.St.new (AM.St.new σ (AM.Blk.own [Value.int IntKind.i64 a1_0, Value.string a1_1] (37 : Nat))) (AM.Blk.own [Value.string v12] (9 : Nat))) a0 (0 : Nat) fun v13 =>
                    AM.asSl v13 fun v14 v15 v16 =>
                      AM.chk (Value.slice v14 v15 v16) (Value.slice v8 v9 v10)
                        (AM.St.row (AM.St.new (AM.St.new σ (AM.Blk.own [Value.int IntKind.i64 a1_0, Value.string a1_1] (37 : Nat))) (AM.Blk.own [Value.string v12] (9 : Nat)))
                          (some { block := AM.St.next (AM.St.new σ (AM.Blk.own [Value.int IntKind.i64 a1_0, Value.string a1_1] (37 : Nat))), off := (0 : Nat) }) (1 : Nat) fun v17 =>
                          AM.grow (9 : Nat) (1 : Nat) (16 : Nat) v8 v9 v10 (1 : Nat) v17 (AM.St.new (AM.St.new σ (AM.Blk.own [Value.int IntKind.i64 a1_0, Value.string a1_1] (37 : Nat))) (AM.Blk.own [Value.string v12] (9 : Nat)))
                            fun v18 v19 v20 v21 => AM.St.put v21 a0 (0 : Nat) [Value.slice v18 v19 v20] fun v22 => AM.St.ld v22 a0 (0 : Nat) fun v23 => AM.asSl v23 fun v24 v25 v26 => some (Value.int IntKind.i64 (↑v25 : Int), v22)))
          (AM.St.ld (AM.St.new σ (AM.Blk.own [Value.int IntKind.i64 a1_0, Value.string a1_1] (37 : Nat))) a0 (0 : Nat) fun v27 =>
            AM.asSl v27 fun v28 v29 v30 => some (Value.int IntKind.i64 (↑v29 : Int), AM.St.new σ (AM.Blk.own [Value.int IntKind.i64 a1_0, Value.string a1_1] (37 : Nat)))) := by kernel_rfl
/-! (*isobar/window.Receiver[string]).List: 13; parameters [r] -/
theorem f13_eq (L k : Nat) (σ : St) (a0 : Nat) : evCall Go.Proofs.Tryd.prog Go.AM.Wd.env L (k + 1) 13 [.pointer (some ⟨a0, 0, none⟩)] σ =
    AM.St.ld σ a0 (0 : Nat) fun v1 => AM.asSl v1 fun v2 v3 v4 => AM.bnd (AM.evCall Proofs.Tryd.prog AM.Wd.env L k (28 : Nat) [Value.slice v2 v3 v4] σ) fun v5 v6 => AM.asSl v5 fun v7 v8 v9 => some (Value.slice v7 v8 v9, v6) := by kernel_rfl
/-! (*isobar/window.Sender[int]).Push: 22; parameters [s, x] -/
theorem f22_eq (L k : Nat) (σ : St) (a0 : Nat) (a1 : Int) : evCall Go.Proofs.Tryd.prog Go.AM.Wd.env L (k + 1) 22 [.pointer (some ⟨a0, 0, none⟩), .int .i64 a1] σ =
    AM.St.ld σ a0 (0 : Nat) fun v1 =>
  AM.asSl v1 fun v2 v3 v4 =>
    AM.St.row (AM.St.new σ (AM.Blk.own [Value.int IntKind.i64 a1] (3 : Nat))) (some { block := AM.St.next σ, off := (0 : Nat) }) (1 : Nat) fun v5 =>
      AM.grow (3 : Nat) (1 : Nat) (8 : Nat) v2 v3 v4 (1 : Nat) v5 (AM.St.new σ (AM.Blk.own [Value.int IntKind.i64 a1] (3 : Nat))) fun v6 v7 v8 v9 => AM.St.put v9 a0 (0 : Nat) [Value.slice v6 v7 v8] fun v10 => some (Value.tuple #[], v10) := by kernel_rfl
/-! (*isobar/window.Sender[int]).Send: 23; parameters [s] -/
theorem f23_eq (L k : Nat) (σ : St) (a0 : Nat) : evCall Go.Proofs.Tryd.prog Go.AM.Wd.env L (k + 1) 23 [.pointer (some ⟨a0, 0, none⟩)] σ =
    AM.St.ld σ a0 (1 : Nat) fun v1 =>
  AM.asI IntKind.i64 v1 fun v2 =>
    AM.St.ld σ a0 (1 : Nat) fun v3 =>
      AM.asI IntKind.i64 v3 fun v4 =>
        AM.St.ld σ a0 (0 : Nat) fun v5 =>
          AM.asSl v5 fun v6 v7 v8 =>
            AM.St.ld σ a0 (2 : Nat) fun v9 =>
              AM.asI IntKind.i64 v9 fun v10 =>
                AM.St.put σ a0 (1 : Nat) [Value.int IntKind.i64 (AM.mx v4 (AM.mn (↑v7 : Int) (IntKind.wrap IntKind.i64 (v10 + (4 : Int)))))] fun v11 =>
                  AM.St.ld v11 a0 (1 : Nat) fun v12 =>
                    AM.asI IntKind.i64 v12 fun v13 =>
                      AM.bnd (AM.evCall Proofs.Tryd.prog AM.Wd.env L k (30 : Nat) [Value.pointer (some { block := a0, off := (0 : Nat) }), Value.int IntKind.i64 v2, Value.int IntKind.i64 v13] v11) fun v14 v15 =>
                        AM.asSl v14 fun v16 v17 v18 => some (Value.slice v16 v17 v18, v15) := by kernel_rfl
/-! (*isobar/window.Receiver[int]).Take: 24; parameters [r, p] -/
theorem f24_eq (L k : Nat) (σ : St) (a0 : Nat) (a1_0 : Int) (a1_1 : Int) : evCall Go.Proofs.Tryd.prog Go.AM.Wd.env L (k + 1) 24 [.pointer (some ⟨a0, 0, none⟩), .agg [.int .i64 a1_0, .int .i64 a1_1].toArray] σ =
    AM.St.ld (AM.St.new σ (AM.Blk.own [Value.int IntKind.i64 a1_0, Value.int IntKind.i64 a1_1] (71 : Nat))) (AM.St.next σ) (0 : Nat) fun v1 =>
  AM.asI IntKind.i64 v1 fun v2 =>
    AM.St.ld (AM.St.new σ (AM.Blk.own [Value.int IntKind.i64 a1_0, Value.int IntKind.i64 a1_1] (71 : Nat))) a0 (0 : Nat) fun v3 =>
      AM.asSl v3 fun v4 v5 v6 =>
        AM.br (v2 == IntKind.wrap IntKind.i64 ((↑v5 : Int) + (1 : Int)))
          (AM.St.ld (AM.St.new σ (AM.Blk.own [Value.int IntKind.i64 a1_0, Value.int IntKind.i64 a1_1] (71 : Nat))) a0 (0 : Nat) fun v7 =>
            AM.asSl v7 fun v8 v9 v10 =>
              AM.St.ld (AM.St.new σ (AM.Blk.own [Value.int IntKind.i64 a1_0, Value.int IntKind.i64 a1_1] (71 : Nat))) (AM.St.next σ) (1 : Nat) fun v11 =>
                AM.asI IntKind.i64 v11 fun v12 =>
                  AM.St.ld (AM.St.new (AM.St.new σ (AM.Blk.own [Value.int IntKind.i64 a1_0, Value.int IntKind.i64 a1_1] (71 : Nat))) (AM.Blk.own [Value.int IntKind.i64 v12] (3 : Nat))) a0 (0 : Nat) fun v13 =>
                    AM.asSl v13 fun v14 v15 v16 =>
                      AM.chk (Value.slice v14 v15 v16) (Value.slice v8 v9 v10)
                        (AM.St.row (AM.St.new (AM.St.new σ (AM.Blk.own [Value.int IntKind.i64 a1_0, Value.int IntKind.i64 a1_1] (71 : Nat))) (AM.Blk.own [Value.int IntKind.i64 v12] (3 : Nat)))
                          (some { block := AM.St.next (AM.St.new σ (AM.Blk.own [Value.int IntKind.i64 a1_0, Value.int IntKind.i64 a1_1] (71 : Nat))), off := (0 : Nat) }) (1 : Nat) fun v17 =>
                          AM.grow (3 : Nat) (1 : Nat) (8 : Nat) v8 v9 v10 (1 : Nat) v17
                            (AM.St.new (AM.St.new σ (AM.Blk.own [Value.int IntKind.i64 a1_0, Value.int IntKind.i64 a1_1] (71 : Nat))) (AM.Blk.own [Value.int IntKind.i64 v12] (3 : Nat))) fun v18 v19 v20 v21 =>
                            AM.St.put v21 a0 (0 : Nat) [Value.slice v18 v19 v20] fun v22 => AM.St.ld v22 a0 (0 : Nat) fun v23 => AM.asSl v23 fun v24 v25 v26 => some (Value.int IntKind.i64 (↑v25 : Int), v22)))
          (AM.St.ld (AM.St.new σ (AM.Blk.own [Value.int IntKind.i64 a1_0, Value.int IntKind.i64 a1_1] (71 : Nat))) a0 (0 : Nat) fun v27 =>
            AM.asSl v27 fun v28 v29 v30 => some (Value.int IntKind.i64 (↑v29 : Int), AM.St.new σ (AM.Blk.own [Value.int IntKind.i64 a1_0, Value.int IntKind.i64 a1_1] (71 : Nat)))) := by kernel_rfl
/-! (*isobar/window.Sender[string]).packets: 25; parameters [s, from, to] -/
theorem f25_eq (L k : Nat) (σ : St) (a0 : Nat) (a1 : Int) (a2 : Int) : evCall Go.Proofs.Tryd.prog Go.AM.Wd.env L (k + 1) 25 [.pointer (some ⟨a0, 0, none⟩), .int .i64 a1, .int .i64 a2] σ =
    AM.lpAt Proofs.Tryd.prog AM.Wd.env L k (25 : Nat) [true, true, false, true] [] L
  [((0 : Nat), Value.pointer (some { block := a0, off := (0 : Nat) })), ((2 : Nat), Value.int IntKind.i64 a2), ((7 : Nat), Value.slice none (0 : Nat) (0 : Nat)), ((8 : Nat), Value.int IntKind.i64 a1)] σ := by kernel_rfl
theorem f25_l3 (L k n : Nat) (σ : St) (s0 o0 : Nat) (s2 : Int) (s7 : Option Addr) (s7n s7z : Nat) (s8 : Int) : lpAt Go.Proofs.Tryd.prog Go.AM.Wd.env L k 25 [true, true, false, true] [] (n + 1) [(0, .pointer (some ⟨s0, o0, none⟩)), (2, .int .i64 s2), (7, .slice s7 s7n s7z), (8, .int .i64 s8)] σ =
    AM.br (decide (s8 < s2))
  (AM.St.ld σ s0 (o0 + (0 : Nat)) fun v1 =>
    AM.asSl v1 fun v2 v3 v4 =>
      AM.need (AM.inRange s8 (↑v3 : Int))
        (AM.adr v2 fun v5 v6 =>
          AM.St.ld σ v5 (v6 + Int.toNat s8 * (1 : Nat)) fun v7 =>
            AM.asS v7 fun v8 =>
              AM.need true
                (AM.need true
                  (AM.need true
                    (AM.St.row (AM.St.new σ (AM.Blk.own [Value.int IntKind.i64 (IntKind.wrap IntKind.i64 (s8 + (1 : Int))), Value.string v8] (37 : Nat))) (some { block := AM.St.next σ, off := (0 : Nat) }) (2 : Nat) fun v9 =>
                      AM.grow (37 : Nat) (2 : Nat) (24 : Nat) s7 s7n s7z (1 : Nat) v9 (AM.St.new σ (AM.Blk.own [Value.int IntKind.i64 (IntKind.wrap IntKind.i64 (s8 + (1 : Int))), Value.string v8] (37 : Nat))) fun v10 v11 v12 v13 =>
                        AM.lpAt Proofs.Tryd.prog AM.Wd.env L k (25 : Nat) [true, true, false, true] [] n
                          [((0 : Nat), Value.pointer (some { block := s0, off := o0 })), ((2 : Nat), Value.int IntKind.i64 s2), ((7 : Nat), Value.slice v10 v11 v12),
                            ((8 : Nat), Value.int IntKind.i64 (IntKind.wrap IntKind.i64 (s8 + (1 : Int))))]
                          v13)))))
  (some (Value.slice s7 s7n s7z, σ)) := by kernel_rfl
/-! isobar/fault.Wrap: 27; parameters [op, at, err] -/
theorem f27_eq (L k : Nat) (σ : St) (a0 : ByteArray) (a1 : Int) (a2 : Value) : evCall Go.Proofs.Tryd.prog Go.AM.Wd.env L (k + 1) 27 [.string a0, .int .i64 a1, a2] σ =
    AM.eqNil a2 fun v1 =>
  AM.br v1 (some (Value.nilIface, σ))
    (AM.eqErr a2 (30 : Nat) IntKind.i64 (0 : Int) fun v2 =>
      AM.br v2 (some (Value.nilIface, σ))
        (AM.need true
          (AM.need (AM.oneCell a2) (AM.need true (some (Value.iface (81 : Nat) (Value.pointer (some { block := AM.St.next σ, off := (0 : Nat) })), AM.St.new σ (AM.Blk.own [Value.string a0, Value.int IntKind.i64 a1, a2] (83 : Nat)))))))) := by kernel_rfl
/-! slices.Clone[[]string,string]: 28; parameters [s] -/
theorem f28_eq (L k : Nat) (σ : St) (a0 : Option Addr) (a0n a0z : Nat) : evCall Go.Proofs.Tryd.prog Go.AM.Wd.env L (k + 1) 28 [.slice a0 a0n a0z] σ =
    AM.br (Option.isNone a0) (some (Value.slice none (0 : Nat) (0 : Nat), σ))
  (AM.St.row (AM.St.new σ (AM.Blk.own [] (9 : Nat))) a0 (a0n * (1 : Nat)) fun v1 =>
    AM.grow (9 : Nat) (1 : Nat) (16 : Nat) (some { block := AM.St.next σ, off := (0 : Nat) }) (0 : Nat) (1 : Nat) a0n v1 (AM.St.new σ (AM.Blk.own [] (9 : Nat))) fun v2 v3 v4 v5 => some (Value.slice v2 v3 v4, v5)) := by kernel_rfl
/-! (*isobar/window.Sender[int]).packets: 30; parameters [s, from, to] -/
theorem f30_eq (L k : Nat) (σ : St) (a0 : Nat) (a1 : Int) (a2 : Int) : evCall Go.Proofs.Tryd.prog Go.AM.Wd.env L (k + 1) 30 [.pointer (some ⟨a0, 0, none⟩), .int .i64 a1, .int .i64 a2] σ =
    AM.lpAt Proofs.Tryd.prog AM.Wd.env L k (30 : Nat) [true, true, false, true] [] L
  [((0 : Nat), Value.pointer (some { block := a0, off := (0 : Nat) })), ((2 : Nat), Value.int IntKind.i64 a2), ((7 : Nat), Value.slice none (0 : Nat) (0 : Nat)), ((8 : Nat), Value.int IntKind.i64 a1)] σ := by kernel_rfl
theorem f30_l3 (L k n : Nat) (σ : St) (s0 o0 : Nat) (s2 : Int) (s7 : Option Addr) (s7n s7z : Nat) (s8 : Int) : lpAt Go.Proofs.Tryd.prog Go.AM.Wd.env L k 30 [true, true, false, true] [] (n + 1) [(0, .pointer (some ⟨s0, o0, none⟩)), (2, .int .i64 s2), (7, .slice s7 s7n s7z), (8, .int .i64 s8)] σ =
    AM.br (decide (s8 < s2))
  (AM.St.ld σ s0 (o0 + (0 : Nat)) fun v1 =>
    AM.asSl v1 fun v2 v3 v4 =>
      AM.need (AM.inRange s8 (↑v3 : Int))
        (AM.adr v2 fun v5 v6 =>
          AM.St.ld σ v5 (v6 + Int.toNat s8 * (1 : Nat)) fun v7 =>
            AM.asI IntKind.i64 v7 fun v8 =>
              AM.need true
                (AM.need true
                  (AM.need true
                    (AM.St.row (AM.St.new σ (AM.Blk.own [Value.int IntKind.i64 (IntKind.wrap IntKind.i64 (s8 + (1 : Int))), Value.int IntKind.i64 v8] (71 : Nat))) (some { block := AM.St.next σ, off := (0 : Nat) }) (2 : Nat) fun v9 =>
                      AM.grow (71 : Nat) (2 : Nat) (16 : Nat) s7 s7n s7z (1 : Nat) v9 (AM.St.new σ (AM.Blk.own [Value.int IntKind.i64 (IntKind.wrap IntKind.i64 (s8 + (1 : Int))), Value.int IntKind.i64 v8] (71 : Nat))) fun v10 v11 v12 v13 =>
                        AM.lpAt Proofs.Tryd.prog AM.Wd.env L k (30 : Nat) [true, true, false, true] [] n
                          [((0 : Nat), Value.pointer (some { block := s0, off := o0 })), ((2 : Nat), Value.int IntKind.i64 s2), ((7 : Nat), Value.slice v10 v11 v12),
                            ((8 : Nat), Value.int IntKind.i64 (IntKind.wrap IntKind.i64 (s8 + (1 : Int))))]
                          v13)))))
  (some (Value.slice s7 s7n s7z, σ)) := by kernel_rfl
end Go.AM.Wd
