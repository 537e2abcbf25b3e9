/-
  WHAT EACH FUNCTION DOES, word by word (printed).
-/
import Derived.Test.YtacniifcgjcedaaDoorAm0
import Derived.Test.YtacniifcgjcedaaDoorEnvSd
set_option linter.unusedVariables false
set_option linter.unusedSimpArgs false
set_option linter.unusedSectionVars false
namespace Go.AM.Sd
open Go.Proofs
/-! isobar/isobarlaw12.StageNil: 3; parameters [r, n] -/
theorem f3_eq (L k : Nat) (σ : St) (a0_0 : Int) (a0_1 : Int) (a0_2 : Int) (a0_3 : ByteArray) (a0_4 : Int) (a1 : Int) : evCall Go.Proofs.Tryd.prog Go.AM.Sd.env L (k + 1) 3 [.agg [.int .i64 a0_0, .int .i64 a0_1, .int .i64 a0_2, .string a0_3, .int .i64 a0_4].toArray, .int .i64 a1] σ =
    AM.bnd (AM.evCall Proofs.Tryd.prog AM.Sd.env L k (5 : Nat) [] (AM.St.new σ (AM.Blk.own [Value.int IntKind.i64 a0_0, Value.int IntKind.i64 a0_1, Value.int IntKind.i64 a0_2, Value.string a0_3, Value.int IntKind.i64 a0_4] (23 : Nat))))
  fun v1 v2 =>
  AM.asB v1 fun v3 =>
    AM.br (!v3) (AM.bnd (AM.evCall Proofs.Tryd.prog AM.Sd.env L k (5 : Nat) [] v2) fun v4 v5 => AM.asB v4 fun v6 => some (Value.bool v6, v5))
      (AM.St.ld v2 (AM.St.next σ) (3 : Nat) fun v7 =>
        AM.asS v7 fun v8 =>
          AM.br (decide ((↑(ByteArray.size v8) : Int) > (100 : Int))) (AM.bnd (AM.evCall Proofs.Tryd.prog AM.Sd.env L k (5 : Nat) [] v2) fun v9 v10 => AM.asB v9 fun v11 => some (Value.bool v11, v10))
            (AM.bnd (AM.evCall Proofs.Tryd.prog AM.Sd.env L k (6 : Nat) [Value.pointer none] v2) fun v12 v13 =>
              AM.asT v12 fun v14 =>
                AM.endl v14
                  (AM.bnd (AM.evCall Proofs.Tryd.prog AM.Sd.env L k (7 : Nat) [Value.pointer none, Value.int IntKind.i64 a1] v13) fun v15 v16 =>
                    AM.asT v15 fun v17 =>
                      AM.endl v17
                        (AM.bnd (AM.evCall Proofs.Tryd.prog AM.Sd.env L k (8 : Nat) [Value.pointer none] v16) fun v18 v19 =>
                          AM.asT v18 fun v20 =>
                            AM.uncons v20 fun v21 v22 =>
                              AM.asI IntKind.i64 v21 fun v23 =>
                                AM.uncons v22 fun v24 v25 =>
                                  AM.asI IntKind.i64 v24 fun v26 =>
                                    AM.endl v25
                                      (AM.bnd (AM.evCall Proofs.Tryd.prog AM.Sd.env L k (9 : Nat) [Value.pointer none] v19) fun v27 v28 =>
                                        AM.asT v27 fun v29 =>
                                          AM.uncons v29 fun v30 v31 =>
                                            AM.asI IntKind.i64 v30 fun v32 =>
                                              AM.uncons v31 fun v33 v34 =>
                                                AM.asI IntKind.i64 v33 fun v35 =>
                                                  AM.endl v34
                                                    (AM.bnd (AM.evCall Proofs.Tryd.prog AM.Sd.env L k (10 : Nat) [Value.pointer none, Value.int IntKind.i64 a1] v28) fun v36 v37 =>
                                                      AM.asT v36 fun v38 =>
                                                        AM.uncons v38 fun v39 v40 =>
                                                          AM.asSl v39 fun v41 v42 v43 =>
                                                            AM.uncons v40 fun v44 v45 =>
                                                              AM.asB v44 fun v46 =>
                                                                AM.endl v45
                                                                  (AM.br (IntKind.wrap IntKind.i64 (v32 + v35) == (0 : Int))
                                                                    (AM.St.lds v37 (AM.St.next σ) (0 : Nat) (5 : Nat) fun v47 =>
                                                                      AM.uncons v47 fun v48 v49 =>
                                                                        AM.asI IntKind.i64 v48 fun v50 =>
                                                                          AM.uncons v49 fun v51 v52 =>
                                                                            AM.asI IntKind.i64 v51 fun v53 =>
                                                                              AM.uncons v52 fun v54 v55 =>
                                                                                AM.asI IntKind.i64 v54 fun v56 =>
                                                                                  AM.uncons v55 fun v57 v58 =>
                                                                                    AM.asS v57 fun v59 =>
                                                                                      AM.uncons v58 fun v60 v61 =>
                                                                                        AM.asI IntKind.i64 v60 fun v62 =>
                                                                                          AM.endl v61
                                                                                            (AM.bnd
                                                                                              (AM.evCall Proofs.Tryd.prog AM.Sd.env L k (11 : Nat)
                                                                                                [Value.pointer none,
                                                                                                  Value.agg #[Value.int IntKind.i64 v50, Value.int IntKind.i64 v53, Value.int IntKind.i64 v56, Value.string v59, Value.int IntKind.i64 v62]]
                                                                                                v37)
                                                                                              fun v63 v64 =>
                                                                                              AM.asI IntKind.i64 v63 fun v65 =>
                                                                                                AM.br (v65 == (0 : Int))
                                                                                                  (AM.br (IntKind.wrap IntKind.i64 (v23 + v26) == (0 : Int))
                                                                                                    (AM.bnd (AM.evCall Proofs.Tryd.prog AM.Sd.env L k (12 : Nat) [Value.pointer none] v64) fun v66 v67 =>
                                                                                                      AM.asSl v66 fun v68 v69 v70 =>
                                                                                                        AM.br ((↑v69 : Int) == (0 : Int))
                                                                                                          (AM.br ((↑v42 : Int) == (0 : Int))
                                                                                                            (AM.br (!v46)
                                                                                                              (AM.bnd (AM.evCall Proofs.Tryd.prog AM.Sd.env L k (14 : Nat) [Value.pointer none, Value.int IntKind.i64 a1] v67) fun v71 v72 =>
                                                                                                                AM.bnd (AM.evCall Proofs.Tryd.prog AM.Sd.env L k (13 : Nat) [v71] v72) fun v73 v74 =>
                                                                                                                  AM.asI IntKind.i64 v73 fun v75 =>
                                                                                                                    AM.br (v75 == (8 : Int))
                                                                                                                      (AM.bnd (AM.evCall Proofs.Tryd.prog AM.Sd.env L k (15 : Nat) [Value.pointer none] v74) fun v76 v77 =>
                                                                                                                        AM.asI IntKind.i64 v76 fun v78 => some (Value.bool (v78 == (0 : Int)), v77))
                                                                                                                      (some (Value.bool false, v74)))
                                                                                                              (some (Value.bool false, v67)))
                                                                                                            (some (Value.bool false, v67)))
                                                                                                          (some (Value.bool false, v67)))
                                                                                                    (some (Value.bool false, v64)))
                                                                                                  (some (Value.bool false, v64))))
                                                                    (some (Value.bool false, v37))))))))) := by kernel_rfl
/-! isobar/isobarlaw12.awake: 5; parameters [] -/
theorem f5_eq (L k : Nat) (σ : St)  : evCall Go.Proofs.Tryd.prog Go.AM.Sd.env L (k + 1) 5 [] σ =
    AM.bnd (AM.evCall Proofs.Tryd.prog AM.Sd.env L k (17 : Nat) [Value.int IntKind.i64 (1 : Int)] σ) fun v1 v2 =>
  AM.asP v1 fun v3 =>
    AM.br (Option.isNone v3) (some (Value.bool false, v2))
      (AM.bnd
        (AM.evCall Proofs.Tryd.prog AM.Sd.env L k (11 : Nat)
          [Value.pointer v3, Value.agg #[Value.int IntKind.i64 (1 : Int), Value.int IntKind.i64 (2 : Int), Value.int IntKind.i64 (0 : Int), Value.string { data := #[] }, Value.int IntKind.i64 (5 : Int)]] v2)
        fun v4 v5 =>
        AM.asI IntKind.i64 v4 fun v6 =>
          AM.br (v6 != (1 : Int)) (some (Value.bool false, v5))
            (AM.bnd (AM.evCall Proofs.Tryd.prog AM.Sd.env L k (6 : Nat) [Value.pointer v3] v5) fun v7 v8 =>
              AM.asT v7 fun v9 =>
                AM.endl v9
                  (AM.bnd (AM.evCall Proofs.Tryd.prog AM.Sd.env L k (12 : Nat) [Value.pointer v3] v8) fun v10 v11 =>
                    AM.asSl v10 fun v12 v13 v14 =>
                      AM.br ((↑v13 : Int) == (1 : Int))
                        (AM.need (AM.inRange (0 : Int) (↑v13 : Int)) (AM.adr v12 fun v15 v16 => AM.St.ld v11 v15 (v16 + (0 : Nat)) fun v17 => AM.asI IntKind.i64 v17 fun v18 => some (Value.bool (v18 == (5 : Int)), v11)))
                        (some (Value.bool false, v11))))) := by kernel_rfl
/-! (*isobar/stage.Stage).Flush: 6; parameters [s] -/
theorem f6_eq (L k : Nat) (σ : St) (a0 : Nat) : evCall Go.Proofs.Tryd.prog Go.AM.Sd.env L (k + 1) 6 [.pointer (some ⟨a0, 0, none⟩)] σ =
    AM.St.ld σ a0 (1 : Nat) fun v1 => AM.asSl v1 fun v2 v3 v4 => AM.St.put σ a0 (2 : Nat) [Value.int IntKind.i64 (↑v3 : Int)] fun v5 => some (Value.tuple #[], v5) := by kernel_rfl
/-! (*isobar/stage.Stage).Crash: 7; parameters [s, keep] -/
theorem f7_eq (L k : Nat) (σ : St) (a0 : Nat) (a1 : Int) : evCall Go.Proofs.Tryd.prog Go.AM.Sd.env L (k + 1) 7 [.pointer (some ⟨a0, 0, none⟩), .int .i64 a1] σ =
    AM.St.ld σ a0 (2 : Nat) fun v1 =>
  AM.asI IntKind.i64 v1 fun v2 =>
    AM.St.ld σ a0 (1 : Nat) fun v3 =>
      AM.asSl v3 fun v4 v5 v6 =>
        AM.St.ld σ a0 (2 : Nat) fun v7 =>
          AM.asI IntKind.i64 v7 fun v8 =>
            AM.St.put σ a0 (2 : Nat) [Value.int IntKind.i64 (IntKind.wrap IntKind.i64 (v2 + AM.mx (0 : Int) (AM.mn a1 (IntKind.wrap IntKind.i64 ((↑v5 : Int) - v8)))))] fun v9 =>
              AM.St.ld v9 a0 (1 : Nat) fun v10 =>
                AM.asSl v10 fun v11 v12 v13 =>
                  AM.St.ld v9 a0 (2 : Nat) fun v14 =>
                    AM.asI IntKind.i64 v14 fun v15 =>
                      AM.St.ld v9 a0 (2 : Nat) fun v16 =>
                        AM.asI IntKind.i64 v16 fun v17 =>
                          AM.need (Nat.beq v13 (0 : Nat) || Nat.beq v13 (5 : Nat))
                            (AM.need (AM.inRange v17 ((↑v12 : Int) + (1 : Int)))
                              (AM.need (AM.inRange v15 ((↑(Int.toNat v17) : Int) + (1 : Int))) (AM.St.put v9 a0 (1 : Nat) [Value.slice (AM.subA v11 (0 : Nat)) (Int.toNat v15 - (0 : Nat)) v13] fun v18 => some (Value.tuple #[], v18)))) := by kernel_rfl
/-! (*isobar/stage.Stage).Last: 8; parameters [s] -/
theorem f8_eq (L k : Nat) (σ : St) (a0 : Nat) : evCall Go.Proofs.Tryd.prog Go.AM.Sd.env L (k + 1) 8 [.pointer (some ⟨a0, 0, none⟩)] σ =
    AM.St.ld σ a0 (0 : Nat) fun v1 =>
  AM.asI IntKind.i64 v1 fun v2 =>
    AM.St.ld σ a0 (1 : Nat) fun v3 =>
      AM.asSl v3 fun v4 v5 v6 =>
        AM.St.ld σ a0 (0 : Nat) fun v7 =>
          AM.asI IntKind.i64 v7 fun v8 =>
            AM.St.ld σ a0 (2 : Nat) fun v9 =>
              AM.asI IntKind.i64 v9 fun v10 =>
                some
                  (Value.tuple
                      #[Value.int IntKind.i64 (IntKind.wrap IntKind.i64 (IntKind.wrap IntKind.i64 (v2 + (↑v5 : Int)) - (1 : Int))), Value.int IntKind.i64 (IntKind.wrap IntKind.i64 (IntKind.wrap IntKind.i64 (v8 + v10) - (1 : Int)))],
                    σ) := by kernel_rfl
/-! (*isobar/stage.Stage).Dropped: 9; parameters [s] -/
theorem f9_eq (L k : Nat) (σ : St) (a0 : Nat) : evCall Go.Proofs.Tryd.prog Go.AM.Sd.env L (k + 1) 9 [.pointer (some ⟨a0, 0, none⟩)] σ =
    AM.St.ld σ a0 (0 : Nat) fun v1 =>
  AM.asI IntKind.i64 v1 fun v2 => AM.St.ld σ a0 (3 : Nat) fun v3 => AM.asI IntKind.i64 v3 fun v4 => some (Value.tuple #[Value.int IntKind.i64 (IntKind.wrap IntKind.i64 (v2 - (1 : Int))), Value.int IntKind.i64 v4], σ) := by kernel_rfl
/-! (*isobar/stage.Stage).UpTo: 10; parameters [s, mark] -/
theorem f10_eq (L k : Nat) (σ : St) (a0 : Nat) (a1 : Int) : evCall Go.Proofs.Tryd.prog Go.AM.Sd.env L (k + 1) 10 [.pointer (some ⟨a0, 0, none⟩), .int .i64 a1] σ =
    AM.bnd (AM.evCall Proofs.Tryd.prog AM.Sd.env L k (29 : Nat) [Value.pointer (some { block := a0, off := (0 : Nat) })] (AM.St.new σ (AM.Blk.own [Value.int IntKind.i64 a1] (3 : Nat)))) fun v1 v2 =>
  AM.asSl v1 fun v3 v4 v5 =>
    AM.bnd (AM.evCall Proofs.Tryd.prog AM.Sd.env L k (28 : Nat) [Value.slice v3 v4 v5, Value.func (Fn.func (30 : Nat)) #[] #[Value.pointer (some { block := AM.St.next σ, off := (0 : Nat) })]] v2) fun v6 v7 =>
      AM.asI IntKind.i64 v6 fun v8 =>
        AM.br (decide (v8 < (0 : Int))) (some (Value.tuple #[Value.slice none (0 : Nat) (0 : Nat), Value.bool false], v7))
          (AM.St.ld v7 a0 (1 : Nat) fun v9 =>
            AM.asSl v9 fun v10 v11 v12 =>
              AM.need (Nat.beq v12 (0 : Nat) || Nat.beq v12 (5 : Nat))
                (AM.need (AM.inRange (IntKind.wrap IntKind.i64 (v8 + (1 : Int))) ((↑v11 : Int) + (1 : Int)))
                  (AM.bnd (AM.evCall Proofs.Tryd.prog AM.Sd.env L k (31 : Nat) [Value.slice (AM.subA v10 (0 : Nat)) (Int.toNat (IntKind.wrap IntKind.i64 (v8 + (1 : Int))) - (0 : Nat)) v12] v7) fun v13 v14 =>
                    AM.asSl v13 fun v15 v16 v17 => some (Value.tuple #[Value.slice v15 v16 v17, Value.bool true], v14)))) := by kernel_rfl
/-! (*isobar/stage.Stage).Take: 11; parameters [s, r] -/
theorem f11_eq (L k : Nat) (σ : St) (a0 : Nat) (a1_0 : Int) (a1_1 : Int) (a1_2 : Int) (a1_3 : ByteArray) (a1_4 : Int) : evCall Go.Proofs.Tryd.prog Go.AM.Sd.env L (k + 1) 11 [.pointer (some ⟨a0, 0, none⟩), .agg [.int .i64 a1_0, .int .i64 a1_1, .int .i64 a1_2, .string a1_3, .int .i64 a1_4].toArray] σ =
    AM.bnd
  (AM.evCall Proofs.Tryd.prog AM.Sd.env L k (8 : Nat) [Value.pointer (some { block := a0, off := (0 : Nat) })]
    (AM.St.new σ (AM.Blk.own [Value.int IntKind.i64 a1_0, Value.int IntKind.i64 a1_1, Value.int IntKind.i64 a1_2, Value.string a1_3, Value.int IntKind.i64 a1_4] (23 : Nat))))
  fun v1 v2 =>
  AM.asT v1 fun v3 =>
    AM.uncons v3 fun v4 v5 =>
      AM.asI IntKind.i64 v4 fun v6 =>
        AM.uncons v5 fun v7 v8 =>
          AM.asI IntKind.i64 v7 fun v9 =>
            AM.endl v8
              (AM.St.ld v2 (AM.St.next σ) (0 : Nat) fun v10 =>
                AM.asI IntKind.i64 v10 fun v11 =>
                  AM.br (v11 != IntKind.wrap IntKind.i64 (v6 + (1 : Int))) (some (Value.int IntKind.i64 v6, v2))
                    (AM.St.lds v2 (AM.St.next σ) (0 : Nat) (5 : Nat) fun v12 =>
                      AM.uncons v12 fun v13 v14 =>
                        AM.asI IntKind.i64 v13 fun v15 =>
                          AM.uncons v14 fun v16 v17 =>
                            AM.asI IntKind.i64 v16 fun v18 =>
                              AM.uncons v17 fun v19 v20 =>
                                AM.asI IntKind.i64 v19 fun v21 =>
                                  AM.uncons v20 fun v22 v23 =>
                                    AM.asS v22 fun v24 =>
                                      AM.uncons v23 fun v25 v26 =>
                                        AM.asI IntKind.i64 v25 fun v27 =>
                                          AM.endl v26
                                            (AM.bnd
                                              (AM.evCall Proofs.Tryd.prog AM.Sd.env L k (32 : Nat) [Value.agg #[Value.int IntKind.i64 v15, Value.int IntKind.i64 v18, Value.int IntKind.i64 v21, Value.string v24, Value.int IntKind.i64 v27]]
                                                v2)
                                              fun v28 v29 =>
                                              AM.asB v28 fun v30 =>
                                                AM.br (!v30) (some (Value.int IntKind.i64 v6, v29))
                                                  (AM.St.ld v29 a0 (1 : Nat) fun v31 =>
                                                    AM.asSl v31 fun v32 v33 v34 =>
                                                      AM.St.lds v29 (AM.St.next σ) (0 : Nat) (5 : Nat) fun v35 =>
                                                        AM.uncons v35 fun v36 v37 =>
                                                          AM.asI IntKind.i64 v36 fun v38 =>
                                                            AM.uncons v37 fun v39 v40 =>
                                                              AM.asI IntKind.i64 v39 fun v41 =>
                                                                AM.uncons v40 fun v42 v43 =>
                                                                  AM.asI IntKind.i64 v42 fun v44 =>
                                                                    AM.uncons v43 fun v45 v46 =>
                                                                      AM.asS v45 fun v47 =>
                                                                        AM.uncons v46 fun v48 v49 =>
                                                                          AM.asI IntKind.i64 v48 fun v50 =>
                                                                            AM.endl v49
                                                                              (AM.St.ld
                                                                                (AM.St.new v29
                                                                                  (AM.Blk.own [Value.int IntKind.i64 v38, Value.int IntKind.i64 v41, Value.int IntKind.i64 v44, Value.string v47, Value.int IntKind.i64 v50] (23 : Nat)))
                                                                                a0 (1 : Nat) fun v51 =>
                                                                                AM.asSl v51 fun v52 v53 v54 =>
                                                                                  AM.chk (Value.slice v52 v53 v54) (Value.slice v32 v33 v34)
                                                                                    (AM.St.row
                                                                                      (AM.St.new v29
                                                                                        (AM.Blk.own [Value.int IntKind.i64 v38, Value.int IntKind.i64 v41, Value.int IntKind.i64 v44, Value.string v47, Value.int IntKind.i64 v50] (23 : Nat)))
                                                                                      (some { block := AM.St.next v29, off := (0 : Nat) }) (5 : Nat) fun v55 =>
                                                                                      AM.grow (23 : Nat) (5 : Nat) (48 : Nat) v32 v33 v34 (1 : Nat) v55
                                                                                        (AM.St.new v29
                                                                                          (AM.Blk.own [Value.int IntKind.i64 v38, Value.int IntKind.i64 v41, Value.int IntKind.i64 v44, Value.string v47, Value.int IntKind.i64 v50]
                                                                                            (23 : Nat)))
                                                                                        fun v56 v57 v58 v59 =>
                                                                                        AM.St.put v59 a0 (1 : Nat) [Value.slice v56 v57 v58] fun v60 =>
                                                                                          AM.St.ld v60 (AM.St.next σ) (0 : Nat) fun v61 => AM.asI IntKind.i64 v61 fun v62 => some (Value.int IntKind.i64 v62, v60))))))) := by kernel_rfl
/-! (*isobar/stage.Stage).Marks: 12; parameters [s] -/
theorem f12_eq (L k : Nat) (σ : St) (a0 : Nat) : evCall Go.Proofs.Tryd.prog Go.AM.Sd.env L (k + 1) 12 [.pointer (some ⟨a0, 0, none⟩)] σ =
    AM.bnd (AM.evCall Proofs.Tryd.prog AM.Sd.env L k (29 : Nat) [Value.pointer (some { block := a0, off := (0 : Nat) })] σ) fun v1 v2 =>
  AM.asSl v1 fun v3 v4 v5 =>
    AM.lpAt Proofs.Tryd.prog AM.Sd.env L k (12 : Nat) [true, true, false, true] [] L
      [((3 : Nat), Value.slice none (0 : Nat) (0 : Nat)), ((7 : Nat), Value.slice v3 v4 v5), ((8 : Nat), Value.int IntKind.i64 (↑v4 : Int)), ((9 : Nat), Value.int IntKind.i64 (0 : Int))] v2 := by kernel_rfl
theorem f12_l3 (L k n : Nat) (σ : St) (s3 : Option Addr) (s3n s3z : Nat) (s7 : Option Addr) (s7n s7z : Nat) (s8 : Int) (s9 : Int) : lpAt Go.Proofs.Tryd.prog Go.AM.Sd.env L k 12 [true, true, false, true] [] (n + 1) [(3, .slice s3 s3n s3z), (7, .slice s7 s7n s7z), (8, .int .i64 s8), (9, .int .i64 s9)] σ =
    AM.br (decide (s9 < s8))
  (AM.need (AM.inRange s9 (↑s7n : Int))
    (AM.adr s7 fun v1 v2 =>
      AM.St.lds σ v1 (v2 + Int.toNat s9 * (5 : Nat)) (5 : Nat) fun v3 =>
        AM.uncons v3 fun v4 v5 =>
          AM.asI IntKind.i64 v4 fun v6 =>
            AM.uncons v5 fun v7 v8 =>
              AM.asI IntKind.i64 v7 fun v9 =>
                AM.uncons v8 fun v10 v11 =>
                  AM.asI IntKind.i64 v10 fun v12 =>
                    AM.uncons v11 fun v13 v14 =>
                      AM.asS v13 fun v15 =>
                        AM.uncons v14 fun v16 v17 =>
                          AM.asI IntKind.i64 v16 fun v18 =>
                            AM.endl v17
                              (AM.St.put
                                (AM.St.new σ (AM.Blk.own [Value.int IntKind.i64 (0 : Int), Value.int IntKind.i64 (0 : Int), Value.int IntKind.i64 (0 : Int), Value.string { data := #[] }, Value.int IntKind.i64 (0 : Int)] (23 : Nat)))
                                (AM.St.next σ) (0 : Nat) [Value.int IntKind.i64 v6, Value.int IntKind.i64 v9, Value.int IntKind.i64 v12, Value.string v15, Value.int IntKind.i64 v18] fun v19 =>
                                AM.St.ld v19 (AM.St.next σ) (1 : Nat) fun v20 =>
                                  AM.asI IntKind.i64 v20 fun v21 =>
                                    AM.br (v21 == (2 : Int))
                                      (AM.St.ld v19 (AM.St.next σ) (4 : Nat) fun v22 =>
                                        AM.asI IntKind.i64 v22 fun v23 =>
                                          AM.St.row (AM.St.new v19 (AM.Blk.own [Value.int IntKind.i64 v23] (3 : Nat))) (some { block := AM.St.next v19, off := (0 : Nat) }) (1 : Nat) fun v24 =>
                                            AM.grow (3 : Nat) (1 : Nat) (8 : Nat) s3 s3n s3z (1 : Nat) v24 (AM.St.new v19 (AM.Blk.own [Value.int IntKind.i64 v23] (3 : Nat))) fun v25 v26 v27 v28 =>
                                              AM.lpAt Proofs.Tryd.prog AM.Sd.env L k (12 : Nat) [true, true, false, true] [] n
                                                [((3 : Nat), Value.slice v25 v26 v27), ((7 : Nat), Value.slice s7 s7n s7z), ((8 : Nat), Value.int IntKind.i64 s8),
                                                  ((9 : Nat), Value.int IntKind.i64 (IntKind.wrap IntKind.i64 (s9 + (1 : Int))))]
                                                v28)
                                      (AM.lpAt Proofs.Tryd.prog AM.Sd.env L k (12 : Nat) [true, true, false, true] [] n
                                        [((3 : Nat), Value.slice s3 s3n s3z), ((7 : Nat), Value.slice s7 s7n s7z), ((8 : Nat), Value.int IntKind.i64 s8), ((9 : Nat), Value.int IntKind.i64 (IntKind.wrap IntKind.i64 (s9 + (1 : Int))))]
                                        v19))))
  (some (Value.slice s3 s3n s3z, σ)) := by kernel_rfl
/-! isobar/fault.Code: 13; parameters [err] -/
theorem f13_eq (L k : Nat) (σ : St) (a0 : Value) : evCall Go.Proofs.Tryd.prog Go.AM.Sd.env L (k + 1) 13 [a0] σ =
    AM.bnd (AM.evCall Proofs.Tryd.prog AM.Sd.env L k (33 : Nat) [a0, Value.iface (64 : Nat) (Value.pointer (some { block := AM.St.next σ, off := (0 : Nat) }))] (AM.St.new σ (AM.Blk.own [Value.int IntKind.i64 (0 : Int)] (35 : Nat))))
  fun v1 v2 => AM.asB v1 fun v3 => AM.br (!v3) (some (Value.int IntKind.i64 (0 : Int), v2)) (AM.St.ld v2 (AM.St.next σ) (0 : Nat) fun v4 => AM.asI IntKind.i64 v4 fun v5 => some (Value.int IntKind.i64 v5, v2)) := by kernel_rfl
/-! (*isobar/stage.Stage).Drop: 14; parameters [s, mark] -/
theorem f14_eq (L k : Nat) (σ : St) (a0 : Nat) (a1 : Int) : evCall Go.Proofs.Tryd.prog Go.AM.Sd.env L (k + 1) 14 [.pointer (some ⟨a0, 0, none⟩), .int .i64 a1] σ =
    AM.bnd (AM.evCall Proofs.Tryd.prog AM.Sd.env L k (10 : Nat) [Value.pointer (some { block := a0, off := (0 : Nat) }), Value.int IntKind.i64 a1] σ) fun v1 v2 =>
  AM.asT v1 fun v3 =>
    AM.uncons v3 fun v4 v5 =>
      AM.asSl v4 fun v6 v7 v8 =>
        AM.uncons v5 fun v9 v10 =>
          AM.asB v9 fun v11 =>
            AM.endl v10
              (AM.br (!v11)
                (AM.bnd
                  (AM.evCall Proofs.Tryd.prog AM.Sd.env L k (34 : Nat)
                    [Value.string { data := #[(115 : UInt8), (116 : UInt8), (97 : UInt8), (103 : UInt8), (101 : UInt8)] }, Value.int IntKind.i64 a1, Value.iface (35 : Nat) (Value.int IntKind.i64 (8 : Int))] v2)
                  fun v12 v13 => some (AM.pack [v12], v13))
                (AM.St.ld v2 a0 (0 : Nat) fun v14 =>
                  AM.asI IntKind.i64 v14 fun v15 =>
                    AM.St.put v2 a0 (0 : Nat) [Value.int IntKind.i64 (IntKind.wrap IntKind.i64 (v15 + (↑v7 : Int)))] fun v16 =>
                      AM.St.put v16 a0 (3 : Nat) [Value.int IntKind.i64 a1] fun v17 =>
                        AM.St.ld v17 a0 (2 : Nat) fun v18 =>
                          AM.asI IntKind.i64 v18 fun v19 =>
                            AM.St.put v17 a0 (2 : Nat) [Value.int IntKind.i64 (IntKind.wrap IntKind.i64 (v19 - (↑v7 : Int)))] fun v20 =>
                              AM.St.ld v20 a0 (1 : Nat) fun v21 =>
                                AM.asSl v21 fun v22 v23 v24 =>
                                  AM.need (Nat.beq v24 (0 : Nat) || Nat.beq v24 (5 : Nat))
                                    (AM.need (AM.inRange (↑v7 : Int) ((↑v23 : Int) + (1 : Int)))
                                      (AM.bnd (AM.evCall Proofs.Tryd.prog AM.Sd.env L k (31 : Nat) [Value.slice (AM.subA v22 (Int.toNat (↑v7 : Int) * (5 : Nat))) (v23 - Int.toNat (↑v7 : Int)) v24] v20) fun v25 v26 =>
                                        AM.asSl v25 fun v27 v28 v29 => AM.St.put v26 a0 (1 : Nat) [Value.slice v27 v28 v29] fun v30 => some (Value.nilIface, v30))))) := by kernel_rfl
/-! (*isobar/stage.Stage).Cut: 15; parameters [s] -/
theorem f15_eq (L k : Nat) (σ : St) (a0 : Nat) : evCall Go.Proofs.Tryd.prog Go.AM.Sd.env L (k + 1) 15 [.pointer (some ⟨a0, 0, none⟩)] σ =
    AM.St.ld σ a0 (1 : Nat) fun v1 =>
  AM.asSl v1 fun v2 v3 v4 => AM.St.put σ a0 (1 : Nat) [Value.slice none (0 : Nat) (0 : Nat)] fun v5 => AM.St.put v5 a0 (2 : Nat) [Value.int IntKind.i64 (0 : Int)] fun v6 => some (Value.int IntKind.i64 (↑v3 : Int), v6) := by kernel_rfl
/-! isobar/stage.New: 17; parameters [first] -/
theorem f17_eq (L k : Nat) (σ : St) (a0 : Int) : evCall Go.Proofs.Tryd.prog Go.AM.Sd.env L (k + 1) 17 [.int .i64 a0] σ =
    some
  (Value.pointer (some { block := AM.St.next σ, off := (0 : Nat) }),
    AM.St.new σ (AM.Blk.own [Value.int IntKind.i64 (AM.mx (1 : Int) (AM.mn a0 (1152921504606846975 : Int))), Value.slice none (0 : Nat) (0 : Nat), Value.int IntKind.i64 (0 : Int), Value.int IntKind.i64 (0 : Int)] (58 : Nat))) := by kernel_rfl
/-! slices.IndexFunc[[]isobar/api.Record,isobar/api.Record]: 28; parameters [s, f] -/
theorem f28_eq (L k : Nat) (σ : St) (a0 : Option Addr) (a0n a0z : Nat) (a1 : Value) : evCall Go.Proofs.Tryd.prog Go.AM.Sd.env L (k + 1) 28 [.slice a0 a0n a0z, a1] σ =
    AM.lpAt Proofs.Tryd.prog AM.Sd.env L k (28 : Nat) [true, false, true] [] L [((0 : Nat), Value.slice a0 a0n a0z), ((1 : Nat), a1), ((7 : Nat), Value.int IntKind.i64 (↑a0n : Int)), ((8 : Nat), Value.int IntKind.i64 (0 : Int))] σ := by kernel_rfl
theorem f28_l2 (L k n : Nat) (σ : St) (s0 : Option Addr) (s0n s0z : Nat) (s1 : Value) (s7 : Int) (s8 : Int) : lpAt Go.Proofs.Tryd.prog Go.AM.Sd.env L k 28 [true, false, true] [] (n + 1) [(0, .slice s0 s0n s0z), (1, s1), (7, .int .i64 s7), (8, .int .i64 s8)] σ =
    AM.br (decide (s8 < s7))
  (AM.need (AM.inRange s8 (↑s0n : Int))
    (AM.adr s0 fun v1 v2 =>
      AM.St.lds σ v1 (v2 + Int.toNat s8 * (5 : Nat)) (5 : Nat) fun v3 =>
        AM.uncons v3 fun v4 v5 =>
          AM.asI IntKind.i64 v4 fun v6 =>
            AM.uncons v5 fun v7 v8 =>
              AM.asI IntKind.i64 v7 fun v9 =>
                AM.uncons v8 fun v10 v11 =>
                  AM.asI IntKind.i64 v10 fun v12 =>
                    AM.uncons v11 fun v13 v14 =>
                      AM.asS v13 fun v15 =>
                        AM.uncons v14 fun v16 v17 =>
                          AM.asI IntKind.i64 v16 fun v18 =>
                            AM.endl v17
                              (AM.asF s1 fun v19 v20 v21 =>
                                AM.bnd
                                  (AM.evCall Proofs.Tryd.prog AM.Sd.env L k v19 (v20 ++ [Value.agg #[Value.int IntKind.i64 v6, Value.int IntKind.i64 v9, Value.int IntKind.i64 v12, Value.string v15, Value.int IntKind.i64 v18]] ++ v21) σ)
                                  fun v22 v23 =>
                                  AM.asB v22 fun v24 =>
                                    AM.br v24 (some (Value.int IntKind.i64 s8, v23))
                                      (AM.lpAt Proofs.Tryd.prog AM.Sd.env L k (28 : Nat) [true, false, true] [] n
                                        [((0 : Nat), Value.slice s0 s0n s0z), ((1 : Nat), s1), ((7 : Nat), Value.int IntKind.i64 s7), ((8 : Nat), Value.int IntKind.i64 (IntKind.wrap IntKind.i64 (s8 + (1 : Int))))] v23))))
  (some (Value.int IntKind.i64 (-1 : Int), σ)) := by kernel_rfl
/-! (*isobar/stage.Stage).safe: 29; parameters [s] -/
theorem f29_eq (L k : Nat) (σ : St) (a0 : Nat) : evCall Go.Proofs.Tryd.prog Go.AM.Sd.env L (k + 1) 29 [.pointer (some ⟨a0, 0, none⟩)] σ =
    AM.St.ld σ a0 (1 : Nat) fun v1 =>
  AM.asSl v1 fun v2 v3 v4 =>
    AM.St.ld σ a0 (2 : Nat) fun v5 =>
      AM.asI IntKind.i64 v5 fun v6 => AM.need (Nat.beq v4 (0 : Nat) || Nat.beq v4 (5 : Nat)) (AM.need (AM.inRange v6 ((↑v3 : Int) + (1 : Int))) (some (Value.slice (AM.subA v2 (0 : Nat)) (Int.toNat v6 - (0 : Nat)) v4, σ))) := by kernel_rfl
/-! (*isobar/stage.Stage).UpTo$1: 30; parameters [r] -/
theorem f30_eq (L k : Nat) (σ : St) (a0_0 : Int) (a0_1 : Int) (a0_2 : Int) (a0_3 : ByteArray) (a0_4 : Int) (c0 : Value) : evCall Go.Proofs.Tryd.prog Go.AM.Sd.env L (k + 1) 30 [.agg [.int .i64 a0_0, .int .i64 a0_1, .int .i64 a0_2, .string a0_3, .int .i64 a0_4].toArray, c0] σ =
    AM.St.ld (AM.St.new σ (AM.Blk.own [Value.int IntKind.i64 a0_0, Value.int IntKind.i64 a0_1, Value.int IntKind.i64 a0_2, Value.string a0_3, Value.int IntKind.i64 a0_4] (23 : Nat))) (AM.St.next σ) (1 : Nat) fun v1 =>
  AM.asI IntKind.i64 v1 fun v2 =>
    AM.br (v2 == (2 : Int))
      (AM.St.ld (AM.St.new σ (AM.Blk.own [Value.int IntKind.i64 a0_0, Value.int IntKind.i64 a0_1, Value.int IntKind.i64 a0_2, Value.string a0_3, Value.int IntKind.i64 a0_4] (23 : Nat))) (AM.St.next σ) (4 : Nat) fun v3 =>
        AM.asI IntKind.i64 v3 fun v4 =>
          AM.asP c0 fun v5 =>
            AM.adr v5 fun v6 v7 =>
              AM.St.ld (AM.St.new σ (AM.Blk.own [Value.int IntKind.i64 a0_0, Value.int IntKind.i64 a0_1, Value.int IntKind.i64 a0_2, Value.string a0_3, Value.int IntKind.i64 a0_4] (23 : Nat))) v6 v7 fun v8 =>
                AM.asI IntKind.i64 v8 fun v9 =>
                  some (Value.bool (v4 == v9), AM.St.new σ (AM.Blk.own [Value.int IntKind.i64 a0_0, Value.int IntKind.i64 a0_1, Value.int IntKind.i64 a0_2, Value.string a0_3, Value.int IntKind.i64 a0_4] (23 : Nat))))
      (some (Value.bool false, AM.St.new σ (AM.Blk.own [Value.int IntKind.i64 a0_0, Value.int IntKind.i64 a0_1, Value.int IntKind.i64 a0_2, Value.string a0_3, Value.int IntKind.i64 a0_4] (23 : Nat)))) := by kernel_rfl
/-! slices.Clone[[]isobar/api.Record,isobar/api.Record]: 31; parameters [s] -/
theorem f31_eq (L k : Nat) (σ : St) (a0 : Option Addr) (a0n a0z : Nat) : evCall Go.Proofs.Tryd.prog Go.AM.Sd.env L (k + 1) 31 [.slice a0 a0n a0z] σ =
    AM.br (Option.isNone a0) (some (Value.slice none (0 : Nat) (0 : Nat), σ))
  (AM.St.row (AM.St.new σ (AM.Blk.own [] (23 : Nat))) a0 (a0n * (5 : Nat)) fun v1 =>
    AM.grow (23 : Nat) (5 : Nat) (48 : Nat) (some { block := AM.St.next σ, off := (0 : Nat) }) (0 : Nat) (5 : Nat) a0n v1 (AM.St.new σ (AM.Blk.own [] (23 : Nat))) fun v2 v3 v4 v5 => some (Value.slice v2 v3 v4, v5)) := by kernel_rfl
/-! isobar/record.Right: 32; parameters [r] -/
theorem f32_eq (L k : Nat) (σ : St) (a0_0 : Int) (a0_1 : Int) (a0_2 : Int) (a0_3 : ByteArray) (a0_4 : Int) : evCall Go.Proofs.Tryd.prog Go.AM.Sd.env L (k + 1) 32 [.agg [.int .i64 a0_0, .int .i64 a0_1, .int .i64 a0_2, .string a0_3, .int .i64 a0_4].toArray] σ =
    AM.St.ld (AM.St.new σ (AM.Blk.own [Value.int IntKind.i64 a0_0, Value.int IntKind.i64 a0_1, Value.int IntKind.i64 a0_2, Value.string a0_3, Value.int IntKind.i64 a0_4] (23 : Nat))) (AM.St.next σ) (0 : Nat) fun v1 =>
  AM.asI IntKind.i64 v1 fun v2 =>
    AM.bnd
      (AM.evCall Proofs.Tryd.prog AM.Sd.env L k (37 : Nat) [Value.int IntKind.i64 v2, Value.int IntKind.i64 (1 : Int)]
        (AM.St.new σ (AM.Blk.own [Value.int IntKind.i64 a0_0, Value.int IntKind.i64 a0_1, Value.int IntKind.i64 a0_2, Value.string a0_3, Value.int IntKind.i64 a0_4] (23 : Nat))))
      fun v3 v4 =>
      AM.asB v3 fun v5 =>
        AM.St.ld v4 (AM.St.next σ) (1 : Nat) fun v6 =>
          AM.asI IntKind.i64 v6 fun v7 =>
            AM.br (v7 == (2 : Int))
              (AM.br v5
                (AM.St.ld v4 (AM.St.next σ) (4 : Nat) fun v8 =>
                  AM.asI IntKind.i64 v8 fun v9 =>
                    AM.bnd (AM.evCall Proofs.Tryd.prog AM.Sd.env L k (37 : Nat) [Value.int IntKind.i64 v9, Value.int IntKind.i64 (1 : Int)] v4) fun v10 v11 =>
                      AM.asB v10 fun v12 =>
                        AM.br v12
                          (AM.St.ld v11 (AM.St.next σ) (3 : Nat) fun v13 =>
                            AM.asS v13 fun v14 =>
                              AM.St.put v11 (AM.St.next σ) (4 : Nat) [Value.int IntKind.i64 (0 : Int)] fun v15 =>
                                AM.br (ByteArray.toList v14 == ByteArray.toList { data := #[] })
                                  (AM.St.ld v15 (AM.St.next σ) (2 : Nat) fun v16 =>
                                    AM.asI IntKind.i64 v16 fun v17 =>
                                      AM.br (decide (v17 ≥ (0 : Int)))
                                        (AM.St.ld v15 (AM.St.next σ) (2 : Nat) fun v18 =>
                                          AM.asI IntKind.i64 v18 fun v19 =>
                                            AM.br (decide (v19 < (8 : Int)))
                                              (AM.St.ld v15 (AM.St.next σ) (3 : Nat) fun v20 =>
                                                AM.asS v20 fun v21 =>
                                                  AM.br (decide ((↑(ByteArray.size v21) : Int) ≤ (16 : Int)))
                                                    (AM.St.ld v15 (AM.St.next σ) (4 : Nat) fun v22 =>
                                                      AM.asI IntKind.i64 v22 fun v23 =>
                                                        AM.br (v23 == (0 : Int))
                                                          (AM.St.ld v15 (AM.St.next σ) (1 : Nat) fun v24 =>
                                                            AM.asI IntKind.i64 v24 fun v25 =>
                                                              AM.br (v25 == (1 : Int)) (some (Value.bool true, v15))
                                                                (AM.St.ld v15 (AM.St.next σ) (2 : Nat) fun v26 => AM.asI IntKind.i64 v26 fun v27 => some (Value.bool (v27 == (0 : Int)), v15)))
                                                          (some (Value.bool false, v15)))
                                                    (some (Value.bool false, v15)))
                                              (some (Value.bool false, v15)))
                                        (some (Value.bool false, v15)))
                                  (some (Value.bool false, v15)))
                          (AM.St.put v11 (AM.St.next σ) (4 : Nat) [Value.int IntKind.i64 (0 : Int)] fun v28 => some (Value.bool false, v28)))
                (AM.St.put v4 (AM.St.next σ) (4 : Nat) [Value.int IntKind.i64 (0 : Int)] fun v29 => some (Value.bool false, v29)))
              (AM.br (v7 == (1 : Int))
                (AM.br v5
                  (AM.St.ld v4 (AM.St.next σ) (2 : Nat) fun v30 =>
                    AM.asI IntKind.i64 v30 fun v31 =>
                      AM.br (decide (v31 ≥ (0 : Int)))
                        (AM.St.ld v4 (AM.St.next σ) (2 : Nat) fun v32 =>
                          AM.asI IntKind.i64 v32 fun v33 =>
                            AM.br (decide (v33 < (8 : Int)))
                              (AM.St.ld v4 (AM.St.next σ) (3 : Nat) fun v34 =>
                                AM.asS v34 fun v35 =>
                                  AM.br (decide ((↑(ByteArray.size v35) : Int) ≤ (16 : Int)))
                                    (AM.St.ld v4 (AM.St.next σ) (4 : Nat) fun v36 =>
                                      AM.asI IntKind.i64 v36 fun v37 =>
                                        AM.br (v37 == (0 : Int))
                                          (AM.St.ld v4 (AM.St.next σ) (1 : Nat) fun v38 =>
                                            AM.asI IntKind.i64 v38 fun v39 =>
                                              AM.br (v39 == (1 : Int)) (some (Value.bool true, v4)) (AM.St.ld v4 (AM.St.next σ) (2 : Nat) fun v40 => AM.asI IntKind.i64 v40 fun v41 => some (Value.bool (v41 == (0 : Int)), v4)))
                                          (some (Value.bool false, v4)))
                                    (some (Value.bool false, v4)))
                              (some (Value.bool false, v4)))
                        (some (Value.bool false, v4)))
                  (some (Value.bool false, v4)))
                (some (Value.bool false, v4))) := by kernel_rfl
/-! isobar/fault.Wrap: 34; parameters [op, at, err] -/
theorem f34_eq (L k : Nat) (σ : St) (a0 : ByteArray) (a1 : Int) (a2 : Value) : evCall Go.Proofs.Tryd.prog Go.AM.Sd.env L (k + 1) 34 [.string a0, .int .i64 a1, a2] σ =
    AM.eqNil a2 fun v1 =>
  AM.br v1 (some (Value.nilIface, σ))
    (AM.eqErr a2 (35 : Nat) IntKind.i64 (0 : Int) fun v2 =>
      AM.br v2 (some (Value.nilIface, σ))
        (AM.need true
          (AM.need (AM.oneCell a2) (AM.need true (some (Value.iface (68 : Nat) (Value.pointer (some { block := AM.St.next σ, off := (0 : Nat) })), AM.St.new σ (AM.Blk.own [Value.string a0, Value.int IntKind.i64 a1, a2] (70 : Nat)))))))) := by kernel_rfl
/-! isobar/isobarref05.Right: 35; parameters [r] -/
theorem f35_eq (L k : Nat) (σ : St) (a0_0 : Int) (a0_1 : Int) (a0_2 : Int) (a0_3 : ByteArray) (a0_4 : Int) : evCall Go.Proofs.Tryd.prog Go.AM.Sd.env L (k + 1) 35 [.agg [.int .i64 a0_0, .int .i64 a0_1, .int .i64 a0_2, .string a0_3, .int .i64 a0_4].toArray] σ =
    AM.St.ld (AM.St.new σ (AM.Blk.own [Value.int IntKind.i64 a0_0, Value.int IntKind.i64 a0_1, Value.int IntKind.i64 a0_2, Value.string a0_3, Value.int IntKind.i64 a0_4] (23 : Nat))) (AM.St.next σ) (0 : Nat) fun v1 =>
  AM.asI IntKind.i64 v1 fun v2 =>
    AM.br (decide (v2 < (1 : Int))) (some (Value.bool false, AM.St.new σ (AM.Blk.own [Value.int IntKind.i64 a0_0, Value.int IntKind.i64 a0_1, Value.int IntKind.i64 a0_2, Value.string a0_3, Value.int IntKind.i64 a0_4] (23 : Nat))))
      (AM.St.ld (AM.St.new σ (AM.Blk.own [Value.int IntKind.i64 a0_0, Value.int IntKind.i64 a0_1, Value.int IntKind.i64 a0_2, Value.string a0_3, Value.int IntKind.i64 a0_4] (23 : Nat))) (AM.St.next σ) (0 : Nat) fun v3 =>
        AM.asI IntKind.i64 v3 fun v4 =>
          AM.br (decide (v4 > (1152921504606846975 : Int)))
            (some (Value.bool false, AM.St.new σ (AM.Blk.own [Value.int IntKind.i64 a0_0, Value.int IntKind.i64 a0_1, Value.int IntKind.i64 a0_2, Value.string a0_3, Value.int IntKind.i64 a0_4] (23 : Nat))))
            (AM.St.ld (AM.St.new σ (AM.Blk.own [Value.int IntKind.i64 a0_0, Value.int IntKind.i64 a0_1, Value.int IntKind.i64 a0_2, Value.string a0_3, Value.int IntKind.i64 a0_4] (23 : Nat))) (AM.St.next σ) (1 : Nat) fun v5 =>
              AM.asI IntKind.i64 v5 fun v6 =>
                AM.br (v6 == (1 : Int))
                  (AM.St.ld (AM.St.new σ (AM.Blk.own [Value.int IntKind.i64 a0_0, Value.int IntKind.i64 a0_1, Value.int IntKind.i64 a0_2, Value.string a0_3, Value.int IntKind.i64 a0_4] (23 : Nat))) (AM.St.next σ) (2 : Nat) fun v7 =>
                    AM.asI IntKind.i64 v7 fun v8 =>
                      AM.br (decide (v8 ≥ (0 : Int)))
                        (AM.St.ld (AM.St.new σ (AM.Blk.own [Value.int IntKind.i64 a0_0, Value.int IntKind.i64 a0_1, Value.int IntKind.i64 a0_2, Value.string a0_3, Value.int IntKind.i64 a0_4] (23 : Nat))) (AM.St.next σ) (2 : Nat) fun v9 =>
                          AM.asI IntKind.i64 v9 fun v10 =>
                            AM.br (decide (v10 ≤ (7 : Int)))
                              (AM.St.ld (AM.St.new σ (AM.Blk.own [Value.int IntKind.i64 a0_0, Value.int IntKind.i64 a0_1, Value.int IntKind.i64 a0_2, Value.string a0_3, Value.int IntKind.i64 a0_4] (23 : Nat))) (AM.St.next σ) (3 : Nat)
                                fun v11 =>
                                AM.asS v11 fun v12 =>
                                  AM.br (decide ((↑(ByteArray.size v12) : Int) ≤ (16 : Int)))
                                    (AM.St.ld (AM.St.new σ (AM.Blk.own [Value.int IntKind.i64 a0_0, Value.int IntKind.i64 a0_1, Value.int IntKind.i64 a0_2, Value.string a0_3, Value.int IntKind.i64 a0_4] (23 : Nat))) (AM.St.next σ) (4 : Nat)
                                      fun v13 =>
                                      AM.asI IntKind.i64 v13 fun v14 =>
                                        some
                                          (Value.bool (v14 == (0 : Int)),
                                            AM.St.new σ (AM.Blk.own [Value.int IntKind.i64 a0_0, Value.int IntKind.i64 a0_1, Value.int IntKind.i64 a0_2, Value.string a0_3, Value.int IntKind.i64 a0_4] (23 : Nat))))
                                    (some (Value.bool false, AM.St.new σ (AM.Blk.own [Value.int IntKind.i64 a0_0, Value.int IntKind.i64 a0_1, Value.int IntKind.i64 a0_2, Value.string a0_3, Value.int IntKind.i64 a0_4] (23 : Nat)))))
                              (some (Value.bool false, AM.St.new σ (AM.Blk.own [Value.int IntKind.i64 a0_0, Value.int IntKind.i64 a0_1, Value.int IntKind.i64 a0_2, Value.string a0_3, Value.int IntKind.i64 a0_4] (23 : Nat)))))
                        (some (Value.bool false, AM.St.new σ (AM.Blk.own [Value.int IntKind.i64 a0_0, Value.int IntKind.i64 a0_1, Value.int IntKind.i64 a0_2, Value.string a0_3, Value.int IntKind.i64 a0_4] (23 : Nat)))))
                  (AM.St.ld (AM.St.new σ (AM.Blk.own [Value.int IntKind.i64 a0_0, Value.int IntKind.i64 a0_1, Value.int IntKind.i64 a0_2, Value.string a0_3, Value.int IntKind.i64 a0_4] (23 : Nat))) (AM.St.next σ) (1 : Nat) fun v15 =>
                    AM.asI IntKind.i64 v15 fun v16 =>
                      AM.br (v16 == (2 : Int))
                        (AM.St.ld (AM.St.new σ (AM.Blk.own [Value.int IntKind.i64 a0_0, Value.int IntKind.i64 a0_1, Value.int IntKind.i64 a0_2, Value.string a0_3, Value.int IntKind.i64 a0_4] (23 : Nat))) (AM.St.next σ) (2 : Nat) fun v17 =>
                          AM.asI IntKind.i64 v17 fun v18 =>
                            AM.br (v18 == (0 : Int))
                              (AM.St.ld (AM.St.new σ (AM.Blk.own [Value.int IntKind.i64 a0_0, Value.int IntKind.i64 a0_1, Value.int IntKind.i64 a0_2, Value.string a0_3, Value.int IntKind.i64 a0_4] (23 : Nat))) (AM.St.next σ) (3 : Nat)
                                fun v19 =>
                                AM.asS v19 fun v20 =>
                                  AM.br (ByteArray.toList v20 == ByteArray.toList { data := #[] })
                                    (AM.St.ld (AM.St.new σ (AM.Blk.own [Value.int IntKind.i64 a0_0, Value.int IntKind.i64 a0_1, Value.int IntKind.i64 a0_2, Value.string a0_3, Value.int IntKind.i64 a0_4] (23 : Nat))) (AM.St.next σ) (4 : Nat)
                                      fun v21 =>
                                      AM.asI IntKind.i64 v21 fun v22 =>
                                        AM.br (decide (v22 ≥ (1 : Int)))
                                          (AM.St.ld (AM.St.new σ (AM.Blk.own [Value.int IntKind.i64 a0_0, Value.int IntKind.i64 a0_1, Value.int IntKind.i64 a0_2, Value.string a0_3, Value.int IntKind.i64 a0_4] (23 : Nat))) (AM.St.next σ)
                                            (4 : Nat) fun v23 =>
                                            AM.asI IntKind.i64 v23 fun v24 =>
                                              some
                                                (Value.bool (decide (v24 ≤ (1152921504606846975 : Int))),
                                                  AM.St.new σ (AM.Blk.own [Value.int IntKind.i64 a0_0, Value.int IntKind.i64 a0_1, Value.int IntKind.i64 a0_2, Value.string a0_3, Value.int IntKind.i64 a0_4] (23 : Nat))))
                                          (some (Value.bool false, AM.St.new σ (AM.Blk.own [Value.int IntKind.i64 a0_0, Value.int IntKind.i64 a0_1, Value.int IntKind.i64 a0_2, Value.string a0_3, Value.int IntKind.i64 a0_4] (23 : Nat)))))
                                    (some (Value.bool false, AM.St.new σ (AM.Blk.own [Value.int IntKind.i64 a0_0, Value.int IntKind.i64 a0_1, Value.int IntKind.i64 a0_2, Value.string a0_3, Value.int IntKind.i64 a0_4] (23 : Nat)))))
                              (some (Value.bool false, AM.St.new σ (AM.Blk.own [Value.int IntKind.i64 a0_0, Value.int IntKind.i64 a0_1, Value.int IntKind.i64 a0_2, Value.string a0_3, Value.int IntKind.i64 a0_4] (23 : Nat)))))
                        (some (Value.bool false, AM.St.new σ (AM.Blk.own [Value.int IntKind.i64 a0_0, Value.int IntKind.i64 a0_1, Value.int IntKind.i64 a0_2, Value.string a0_3, Value.int IntKind.i64 a0_4] (23 : Nat))))))) := by kernel_rfl
/-! isobar/record.number: 37; parameters [n, least] -/
theorem f37_eq (L k : Nat) (σ : St) (a0 : Int) (a1 : Int) : evCall Go.Proofs.Tryd.prog Go.AM.Sd.env L (k + 1) 37 [.int .i64 a0, .int .i64 a1] σ =
    AM.br (decide (a0 ≥ a1)) (some (Value.bool (decide (a0 ≤ (1152921504606846975 : Int))), σ)) (some (Value.bool false, σ)) := by kernel_rfl
end Go.AM.Sd
