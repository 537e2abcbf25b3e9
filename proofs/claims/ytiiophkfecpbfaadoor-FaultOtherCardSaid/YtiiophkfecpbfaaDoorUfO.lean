import Derived.Test.YtiiophkfecpbfaaDoorUfN
set_option linter.unusedVariables false
set_option linter.unusedSimpArgs false
set_option linter.unusedSectionVars false
namespace Go.AM.Td
open Go Go.Proofs Go.RowKit Go.Sort
theorem dd_len (n : Nat) (hm : n < 9223372036854775808) : (Lib.decDigits n).length ≤ 20 := by
  by_cases h0 : n = 0
  · subst h0; rw [Lib.decDigits_one (by omega)]; decide
  rw [Lib.decDigits_length]
  have h64 := Lib.numDigits_eq n (by omega) (by omega)
  split at h64 <;> omega
theorem nDigits_pos (u : Nat) : 0 < Lib.nDigits u := by
  rw [← Lib.decDigits_length, Lib.decDigits]
  split <;> simp
theorem first_ne : ∀ u : Nat, 1 ≤ u → Lib.decDigits u ≠ [48] := by
  intro u hu h
  rw [Lib.decDigits] at h
  split at h
  · rename_i hlt
    have : u = 1 ∨ u = 2 ∨ u = 3 ∨ u = 4 ∨ u = 5 ∨ u = 6 ∨ u = 7 ∨ u = 8 ∨ u = 9 := by omega
    rcases this with rfl | rfl | rfl | rfl | rfl | rfl | rfl | rfl | rfl <;> simp at h
  · have hl := congrArg List.length h
    have := nDigits_pos (u / 10)
    rw [List.length_append, Lib.decDigits_length] at hl
    simp at hl
    omega
set_option maxRecDepth 1000000 in
set_option maxHeartbeats 4000000 in
theorem digits_neg1 (n : Nat) (hn : 1 ≤ n) (hm : n < 10) (w : World) :
    Calls Tryd.prog 16 #[.int .i64 (-(n : Int))] w fun e w' => e = .returned (.string ⟨(Lib.itoa (-(n : Int))).toArray⟩) ∧ ∃ k os, w' = grow (w.drewN k) os := by
  have h1 : (-(n : Int)) < 0 := by omega
  have e0 : (-(n : Int)).tdiv 10 = 0 := by rw [Int.neg_tdiv]; rw [Int.tdiv_eq_ediv_of_nonneg (by omega)]; omega
  have e1 : (-(n : Int)).tmod 10 = -(n : Int) := by rw [Int.neg_tmod]; rw [Int.tmod_eq_emod_of_nonneg (by omega)]; omega
  have hd : Lib.decDigits 0 = [48] := Lib.decDigits_one (by omega)
  go_enter Tryd.func16, Tryd.ntmps16
  go_wp2_with fail
  refine (digits_nat 0 0 (by omega) (by omega) w).mono ?_
  rintro e w' ⟨rfl, k, os, rfl⟩
  have hcv' : ∀ c : Int, (convert 62 9 (.slice (some ⟨w.heap.size + os.size, 0, none⟩) 1 1)).run Tryd.prog ((grow (w.drewN k) os).alloc (.cells #[.int .u8 c] 5)) = .ok (.string ⟨#[UInt8.ofNat c.toNat]⟩) ((grow (w.drewN k) os).alloc (.cells #[.int .u8 c] 5)) := fun c => by
    have := conv_one _ c _ (cell_new (grow (w.drewN k) os) c)
    have e : (grow (w.drewN k) os).heap.size = w.heap.size + os.size := by show (w.heap ++ os).size = _; simp
    rw [e] at this
    exact this
  rw [hd]
  go_wp2

  go_ret
  have hres : ((⟨#[45]⟩ : ByteArray) ++ (⟨#[]⟩ : ByteArray) ++ (⟨#[48 + UInt8.ofNat n]⟩ : ByteArray)) = ⟨(Lib.itoa (-(n : Int))).toArray⟩ := by
    rw [Lib.itoa_neg n hn, Lib.decDigits_one hm, show (48 : UInt8) + UInt8.ofNat n = UInt8.ofNat (48 + n) from (UInt8.ofNat_add 48 _).symm]
    apply ByteArray.ext
    rw [ByteArray.data_append, ByteArray.data_append]
    simp
  refine ⟨congrArg (fun s => Ending.returned (Value.string s)) hres, k, os ++ #[_], show (grow (w.drewN k) os).alloc _ = _ by rw [alloc_eq_grow, grow_grow]⟩
set_option maxRecDepth 1000000 in
set_option maxHeartbeats 4000000 in
theorem digits_neg2 (n : Nat) (hn : 10 ≤ n) (hm : n ≤ 9223372036854775808) (w : World) :
    Calls Tryd.prog 16 #[.int .i64 (-(n : Int))] w fun e w' => e = .returned (.string ⟨(Lib.itoa (-(n : Int))).toArray⟩) ∧ ∃ k os, w' = grow (w.drewN k) os := by
  have h1 : (-(n : Int)) < 0 := by omega
  have e0 : (-(n : Int)).tdiv 10 = -((n / 10 : Nat) : Int) := by rw [Int.neg_tdiv]; rw [Int.tdiv_eq_ediv_of_nonneg (by omega)]; omega
  have e1 : (-(n : Int)).tmod 10 = -((n % 10 : Nat) : Int) := by rw [Int.neg_tmod]; rw [Int.tmod_eq_emod_of_nonneg (by omega)]; omega
  have hl := dd_len (n / 10) (by omega)
  have hz1 : 1 + (Lib.decDigits (n / 10)).length ≤ 4611686018427387904 := by omega
  have hz2 : 1 + (Lib.decDigits (n / 10)).length + 1 ≤ 4611686018427387904 := by omega
  have hz3 : (⟨(Lib.decDigits (n / 10)).toArray⟩ : ByteArray).size = (Lib.decDigits (n / 10)).length := rfl
  have hbeq : (Lib.decDigits (n / 10) == [48]) = false := by simpa using first_ne (n / 10) (by omega)
  have hlen : 0 < (Lib.decDigits (n / 10)).length := by rw [Lib.decDigits_length]; exact nDigits_pos _
  have hne : Lib.decDigits (n / 10) ≠ [48] := first_ne (n / 10) (by omega)
  have hne2 : ((⟨(Lib.decDigits (n / 10)).toArray⟩ : ByteArray) = ⟨#[48]⟩) = False := by
    refine eq_false fun h => hne ?_
    have := congrArg (fun b : ByteArray => b.data.toList) h
    exact this
  go_enter Tryd.func16, Tryd.ntmps16
  go_wp2_with fail
  refine (digits_nat (n / 10) (n / 10) (by omega) (by omega) w).mono ?_
  rintro e w' ⟨rfl, k, os, rfl⟩
  have hcv' : ∀ c : Int, (convert 62 9 (.slice (some ⟨w.heap.size + os.size, 0, none⟩) 1 1)).run Tryd.prog ((grow (w.drewN k) os).alloc (.cells #[.int .u8 c] 5)) = .ok (.string ⟨#[UInt8.ofNat c.toNat]⟩) ((grow (w.drewN k) os).alloc (.cells #[.int .u8 c] 5)) := fun c => by
    have := conv_one _ c _ (cell_new (grow (w.drewN k) os) c)
    have e : (grow (w.drewN k) os).heap.size = w.heap.size + os.size := by show (w.heap ++ os).size = _; simp
    rw [e] at this
    exact this
  go_wp2

  go_ret
  have hres : ((⟨#[45]⟩ : ByteArray) ++ (⟨(Lib.decDigits (n / 10)).toArray⟩ : ByteArray) ++ (⟨#[48 + UInt8.ofNat (n % 10)]⟩ : ByteArray)) = ⟨(Lib.itoa (-(n : Int))).toArray⟩ := by
    rw [Lib.itoa_neg n (by omega), Lib.decDigits.eq_1 n, dif_neg (by omega), show (48 : UInt8) + UInt8.ofNat (n % 10) = UInt8.ofNat (48 + n % 10) from (UInt8.ofNat_add 48 _).symm]
    apply ByteArray.ext
    rw [ByteArray.data_append, ByteArray.data_append]
    simp
  refine ⟨congrArg (fun s => Ending.returned (Value.string s)) hres, k, os ++ #[_], show (grow (w.drewN k) os).alloc _ = _ by rw [alloc_eq_grow, grow_grow]⟩

/-- isobarref03.Digits is strconv.Itoa, of any number. -/
theorem digits_all (n : Int) (h0 : -9223372036854775808 ≤ n) (h1 : n ≤ 9223372036854775807) (w : World) :
    Calls Tryd.prog 16 #[.int .i64 n] w fun e w' => e = .returned (.string ⟨(Lib.itoa n).toArray⟩) ∧ ∃ k os, w' = grow (w.drewN k) os := by
  by_cases h : n < 0
  · obtain ⟨m, rfl⟩ : ∃ m : Nat, n = -(m : Int) := ⟨n.natAbs, by omega⟩
    by_cases h10 : m < 10
    · exact digits_neg1 m (by omega) h10 w
    · exact digits_neg2 m (by omega) (by omega) w
  · obtain ⟨m, rfl⟩ : ∃ m : Nat, n = (m : Int) := ⟨n.toNat, by omega⟩
    rw [Lib.itoa_nonneg]
    exact digits_nat m m (by omega) (by omega) w
end Go.AM.Td
