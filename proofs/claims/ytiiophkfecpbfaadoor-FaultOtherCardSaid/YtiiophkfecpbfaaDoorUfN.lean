import Derived.Shelf.Strconv.Itoa3
import Derived.Test.YtiiophkfecpbfaaDoorProg
import Derived.WalkKit
import Derived.Lib.ItoaLen
import Derived.Deep.RegionWith
set_option linter.unusedVariables false
set_option linter.unusedSimpArgs false
set_option linter.unusedSectionVars false
namespace Go.AM.Td
open Go Go.Proofs Go.RowKit Go.Sort
/-- A slice of one byte, as a string. -/
theorem conv_one (b : Nat) (c : Int) (W : World) (h : W.cell? ⟨b, 0, none⟩ = some (.int .u8 c)) : (convert 62 9 (.slice (some ⟨b, 0, none⟩) 1 1)).run Tryd.prog W = .ok (.string ⟨#[UInt8.ofNat c.toNat]⟩) W := by
  rw [run_convert_bytes_string W 62 9 5 _ 1 1 Tryd.underlying62 Tryd.underlying5 Tryd.underlying9]
  have hlc : (loadCells ⟨b, 0, none⟩ 1).run Tryd.prog W = .ok (([c] : List Int).map (Value.int .u8)).toArray W := by
    refine run_loadCells_list W ⟨b, 0, none⟩ [.int .u8 c] (fun j v hj => ?_)
    cases j with
    | zero => cases hj; exact h
    | succ j => simp at hj
  rw [run_bytesToString W ⟨b, 0, none⟩ 1 1 [c] hlc]
  rfl
theorem cell_new (w : World) (c : Int) : (w.alloc (.cells #[.int .u8 c] 5)).cell? ⟨w.heap.size, 0, none⟩ = some (.int .u8 c) := by
  rw [World.cell?_alloc_at _ _ _ _ rfl]; rfl
theorem cell_grow (w : World) (c : Int) (k : Nat) (os : Array Obj) : (grow ((w.alloc (.cells #[.int .u8 c] 5)).drewN k) os).cell? ⟨w.heap.size, 0, none⟩ = some (.int .u8 c) := by
  have h := cell_new w c
  have hs : (w.alloc (.cells #[.int .u8 c] 5)).heap.size = w.heap.size + 1 := by simp
  have e : ((w.alloc (.cells #[.int .u8 c] 5)).heap ++ os)[w.heap.size]? = (w.alloc (.cells #[.int .u8 c] 5)).heap[w.heap.size]? := Array.getElem?_append_left (by omega)
  unfold World.cell? at h ⊢
  show (match ((w.alloc (.cells #[.int .u8 c] 5)).heap ++ os)[w.heap.size]? with | some (.cells cs _ _) => _ | _ => _) = _
  rw [e]
  exact h
set_option maxRecDepth 1000000 in
set_option maxHeartbeats 4000000 in
theorem digits_big (n : Nat) (hn : 10 ≤ n) (hm : n < 9223372036854775808) (w : World) (hl : (Lib.decDigits (n / 10)).length ≤ 20)
    (hcvA : ∀ (c : Int) (k : Nat) (os : Array Obj), (convert 62 9 (.slice (some ⟨w.heap.size + os.size, 0, none⟩) 1 1)).run Tryd.prog ((grow (w.drewN (1 + k)) os).alloc (.cells #[.int .u8 c] 5)) = .ok (.string ⟨#[UInt8.ofNat c.toNat]⟩) ((grow (w.drewN (1 + k)) os).alloc (.cells #[.int .u8 c] 5)))
    (hcvB : ∀ (c : Int), (convert 62 9 (.slice (some ⟨w.heap.size, 0, none⟩) 1 1)).run Tryd.prog ((w.alloc (.cells #[.int .u8 c] 5)).drew) = .ok (.string ⟨#[UInt8.ofNat c.toNat]⟩) ((w.alloc (.cells #[.int .u8 c] 5)).drew))
    (hcvC : ∀ (c : Int) (k : Nat) (os : Array Obj), (convert 62 9 (.slice (some ⟨w.heap.size, 0, none⟩) 1 1)).run Tryd.prog (grow ((w.alloc (.cells #[.int .u8 c] 5)).drewN (1 + k)) os) = .ok (.string ⟨#[UInt8.ofNat c.toNat]⟩) (grow ((w.alloc (.cells #[.int .u8 c] 5)).drewN (1 + k)) os))
    (ih : ∀ W : World, Calls Tryd.prog 16 #[.int .i64 (IntKind.i64.wrap ((n : Int) / 10))] W fun e w' => e = .returned (.string ⟨(Lib.decDigits (n / 10)).toArray⟩) ∧ ∃ k os, w' = grow (W.drewN k) os) :
    Calls Tryd.prog 16 #[.int .i64 n] w fun e w' => e = .returned (.string ⟨(Lib.decDigits n).toArray⟩) ∧ ∃ k os, w' = grow (w.drewN k) os := by
  have hcat : ((⟨(Lib.decDigits (n / 10)).toArray⟩ : ByteArray) ++ (⟨#[48 + UInt8.ofNat (n % 10)]⟩ : ByteArray)) = ⟨(Lib.decDigits n).toArray⟩ := by
    rw [show (48 : UInt8) + UInt8.ofNat (n % 10) = UInt8.ofNat (48 + n % 10) from (UInt8.ofNat_add 48 _).symm]
    rw [Lib.decDigits.eq_1 n, dif_neg (by omega)]
    apply ByteArray.ext
    rw [ByteArray.data_append]
    simp
  have h1 : ¬ ((n : Int) < 0) := by omega
  have h2 : ¬ ((n : Int) < 10) := by omega
  go_enter Tryd.func16, Tryd.ntmps16
  go_wp2_with fail
  have hz : (Lib.decDigits (n / 10)).length + 1 ≤ 4611686018427387904 := by omega
  have hz2 : (⟨(Lib.decDigits (n / 10)).toArray⟩ : ByteArray).size = (Lib.decDigits (n / 10)).length := rfl
  go_region_with (go_at_call 16; (with_reducible refine (ih _).mono ?_); rintro e w' ⟨rfl, k, os, rfl⟩)
  all_goals go_wp2
  all_goals go_ret
  all_goals refine ⟨rfl, ?_⟩
  · exact ⟨_, _, show (grow (w.drewN (1 + _)) _).alloc _ = _ by rw [alloc_eq_grow, grow_grow]⟩
  · exact ⟨_, _, show grow (grow (w.drewN (1 + _)) #[_]) _ = _ by rw [grow_grow]⟩
  · exact ⟨_, _, show grow (grow (w.drewN (1 + _)) #[_]) _ = _ by rw [grow_grow]⟩

set_option maxRecDepth 1000000 in
set_option maxHeartbeats 4000000 in
theorem digits_small (n : Nat) (hn : n < 10) (w : World)
    (hcv : ∀ (c : Int), (convert 62 9 (.slice (some ⟨w.heap.size, 0, none⟩) 1 1)).run Tryd.prog (w.alloc (.cells #[.int .u8 c] 5)) = .ok (.string ⟨#[UInt8.ofNat c.toNat]⟩) (w.alloc (.cells #[.int .u8 c] 5))) :
    Calls Tryd.prog 16 #[.int .i64 n] w fun e w' => e = .returned (.string ⟨(Lib.decDigits n).toArray⟩) ∧ ∃ k os, w' = grow (w.drewN k) os := by
  have hd : (⟨#[48 + UInt8.ofNat n]⟩ : ByteArray) = ⟨(Lib.decDigits n).toArray⟩ := by
    rw [Lib.decDigits_one hn, show (48 : UInt8) + UInt8.ofNat n = UInt8.ofNat (48 + n) from (UInt8.ofNat_add 48 _).symm]
  have h1 : ¬ ((n : Int) < 0) := by omega
  have h2 : (n : Int) < 10 := by omega
  go_enter Tryd.func16, Tryd.ntmps16
  go_wp2
  go_ret
  exact ⟨by first | rfl | exact congrArg (fun s => Ending.returned (Value.string s)) hd, 0, #[.cells #[_] 5], by rw [World.drewN_zero, ← alloc_eq_grow]⟩

theorem digits_nat : ∀ (N n : Nat), n ≤ N → n < 9223372036854775808 → ∀ w : World, Calls Tryd.prog 16 #[.int .i64 n] w fun e w' => e = .returned (.string ⟨(Lib.decDigits n).toArray⟩) ∧ ∃ k os, w' = grow (w.drewN k) os
  | N, n, hN, hm, w => by
    by_cases h : n < 10
    · exact digits_small n h w fun c => conv_one _ c _ (cell_new w c)
    · cases N with
      | zero => omega
      | succ N =>
      have hlen : (Lib.decDigits (n / 10)).length ≤ 20 := by
        have := Lib.itoa_length_le ((n / 10 : Nat) : Int) (by omega) (by omega)
        rw [Lib.itoa_nonneg] at this
        rw [Lib.decDigits_length] at this ⊢
        have h64 := Lib.numDigits_eq (n / 10) (by omega) (by omega)
        split at h64 <;> omega
      refine digits_big n (by omega) hm w hlen (fun c k os => ?_) (fun c => ?_) (fun c k os => ?_) (fun W => ?_)
      · have := conv_one (grow (w.drewN (1 + k)) os).heap.size c _ (cell_new (grow (w.drewN (1 + k)) os) c)
        have e : (grow (w.drewN (1 + k)) os).heap.size = w.heap.size + os.size := by show (w.heap ++ os).size = _; simp
        rw [e] at this
        exact this
      · exact conv_one _ c _ (cell_new w c)
      · exact conv_one _ c _ (cell_grow w c (1 + k) os)
      · have e : IntKind.i64.wrap ((n : Int) / 10) = ((n / 10 : Nat) : Int) := by rw [IntKind.wrap_i64]; omega
        rw [e]
        exact digits_nat N (n / 10) (by omega) (by omega) W
end Go.AM.Td
