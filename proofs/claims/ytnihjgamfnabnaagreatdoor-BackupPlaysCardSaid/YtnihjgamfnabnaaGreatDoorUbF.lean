import Derived.Test.YtnihjgamfnabnaaGreatDoorUbE
set_option linter.unusedVariables false
set_option linter.unusedSimpArgs false
set_option linter.unusedSectionVars false
namespace Go.AM.Td
open Go Go.Proofs Go.RowKit Go.Extern.Stop Go.Stop Go.Extern
set_option maxRecDepth 100000 in
set_option maxHeartbeats 4000000 in
theorem as_unw2 (f1 : Nat) (fo1 : Nat) (f : Nat) (fo : Nat) (e : Int) (t : Addr) (old : Value) (w : World) (hg : w.cell? ⟨0, 0, none⟩ = some (.iface 216 (.agg #[.pointer (some ⟨1, 29, none⟩)]))) (ht0 : w.cell? t = some old) (hf0 : w.frozen? t = false)
    (hf1 : w.cell? ⟨f1, fo1 + 2, none⟩ = some (.iface 162 (.pointer (some ⟨f, fo, none⟩)))) (hf : w.cell? ⟨f, fo + 2, none⟩ = some (.iface 70 (.int .i64 e))) :
    Calls Tryz.prog 70 #[.iface 162 (.pointer (some ⟨f1, fo1, none⟩)), .iface 146 (.pointer (some t))] w fun ev w' => ev = .returned (.bool true) ∧ w' = ((((w.alloc (.cells #[.pointer (some t)] 146)).alloc (.cells #[.pointer (some ⟨1, 146, none⟩), .pointer (some ⟨w.heap.size, 0, none⟩), .int .u64 150] 194)).alloc (.cells #[.pointer (some ⟨1, 146, none⟩), .pointer (some ⟨w.heap.size, 0, none⟩), .int .u64 150] 194)).alloc (.cells #[.int .i64 e] 70)).setCell t (.int .i64 e) := by
  have h6 := @run_callFunc_extern Tryz.prog 116 _ (fun args => ReflectliteValue.unpack (args.getD 0 (.tuple #[]))) Tryz.func116 (by kernel_rfl) (by kernel_rfl) (by kernel_rfl) (by kernel_rfl)
  have h7 := @run_callFunc_extern Tryz.prog 117 _ (ReflectliteValue.methodAny (ReflectliteValue.valueError "reflectlite.Value.Type" 0) (fun t _ _ _ => ReflectliteType.toType t)) Tryz.func117 (by kernel_rfl) (by kernel_rfl) (by kernel_rfl) (by kernel_rfl)
  have h8 := @run_callFunc_extern Tryz.prog 118 _ (ReflectliteValue.method (ReflectliteValue.valueError "reflectlite.Value.IsNil" 0) ReflectliteValue.isNil) Tryz.func118 (by kernel_rfl) (by kernel_rfl) (by kernel_rfl) (by kernel_rfl)
  have h27 := @run_callFunc_extern Tryz.prog 162 _ (ReflectliteType.abiMethod fun t => do pure (.int .u8 (← Rtype.kind t))) Tryz.func162 (by kernel_rfl) (by kernel_rfl) (by kernel_rfl) (by kernel_rfl)
  have h37 := @run_callFunc_extern Tryz.prog 179 _ (ReflectliteType.method ReflectliteType.elem) Tryz.func179 (by kernel_rfl) (by kernel_rfl) (by kernel_rfl) (by kernel_rfl)
  have h38 := @run_callFunc_extern Tryz.prog 180 _ (ReflectliteType.relation "Implements" ReflectliteType.implements_) Tryz.func180 (by kernel_rfl) (by kernel_rfl) (by kernel_rfl) (by kernel_rfl)
  have h10 := @run_callFunc_extern Tryz.prog 135 _ ReflectliteType.typeOf Tryz.func135 (by kernel_rfl) (by kernel_rfl) (by kernel_rfl) (by kernel_rfl)
  have h35 := @run_callFunc_extern Tryz.prog 177 _ (ReflectliteType.relation "AssignableTo" ReflectliteType.assignableTo) Tryz.func177 (by kernel_rfl) (by kernel_rfl) (by kernel_rfl) (by kernel_rfl)
  have h11 := @run_callFunc_extern Tryz.prog 136 _ (ReflectliteValue.method (ReflectliteValue.valueError "reflectlite.Value.Elem" 0) ReflectliteValue.elem) Tryz.func136 (by kernel_rfl) (by kernel_rfl) (by kernel_rfl) (by kernel_rfl)
  have h12 := @run_callFunc_extern Tryz.prog 137 _ ReflectliteValue.set Tryz.func137 (by kernel_rfl) (by kernel_rfl) (by kernel_rfl) (by kernel_rfl)
  have tO := typeOf29
  have tO2 := typeOf72
  have a7 := assignable72_29
  have nA := noAs72
  have hU := hasUnwrap72
  have mU := methodUnwrap
  have mA := methodAssignableTo
  have a25 := assignable2929
  have v25 := valueOf29
  have f6 := valueOf64
  have f7 := type64
  have mK := methodKind
  have mE := methodElem
  have mI := methodImplements
  have k27 := kind64
  have k25 := kind29
  have e27 := elem64
  have i25 := implements29
  have n8 := isNil64 ⟨w.heap.size, 0, none⟩ t ((w.alloc (.cells #[.pointer (some t)] 146)).alloc (.cells #[.pointer (some ⟨1, 146, none⟩), .pointer (some ⟨w.heap.size, 0, none⟩), .int .u64 150] 194)) (by simp)
  have hlt : 0 < w.heap.size := by
    rcases Nat.eq_zero_or_pos w.heap.size with h0 | h
    · simp [World.cell?, h0] at hg
    · exact h
  have hg2 : ((w.alloc (.cells #[.pointer (some t)] 146)).alloc (.cells #[.pointer (some ⟨1, 146, none⟩), .pointer (some ⟨w.heap.size, 0, none⟩), .int .u64 150] 194)).cell? ⟨0, 0, none⟩ = some (.iface 216 (.agg #[.pointer (some ⟨1, 29, none⟩)])) := by
    rw [World.cell?_alloc_lt _ _ ⟨0, 0, none⟩ (by simp), World.cell?_alloc_lt _ _ ⟨0, 0, none⟩ hlt]; exact hg
  have htl : t.block < w.heap.size := by
    rcases Nat.lt_or_ge t.block w.heap.size with h | h
    · exact h
    · simp [World.cell?, Array.getElem?_eq_none h] at ht0
  have el := elemV64 ⟨w.heap.size, 0, none⟩ t (((w.alloc (.cells #[.pointer (some t)] 146)).alloc (.cells #[.pointer (some ⟨1, 146, none⟩), .pointer (some ⟨w.heap.size, 0, none⟩), .int .u64 150] 194)).alloc (.cells #[.pointer (some ⟨1, 146, none⟩), .pointer (some ⟨w.heap.size, 0, none⟩), .int .u64 150] 194)) (by rw [World.cell?_alloc_lt _ _ ⟨w.heap.size, 0, none⟩ (by simp; omega)]; simp)
  have st := set29 t ⟨w.heap.size + 1 + 1 + 1, 0, none⟩ e old ((((w.alloc (.cells #[.pointer (some t)] 146)).alloc (.cells #[.pointer (some ⟨1, 146, none⟩), .pointer (some ⟨w.heap.size, 0, none⟩), .int .u64 150] 194)).alloc (.cells #[.pointer (some ⟨1, 146, none⟩), .pointer (some ⟨w.heap.size, 0, none⟩), .int .u64 150] 194)).alloc (.cells #[.int .i64 e] 70))
    (by rw [World.cell?_alloc_at _ _ _ _ (by simp)]; rfl)
    (by rw [World.cell?_alloc_lt _ _ t (by simp; omega), World.cell?_alloc_lt _ _ t (by simp; omega), World.cell?_alloc_lt _ _ t (by simp; omega), World.cell?_alloc_lt _ _ t htl]; exact ht0)
    (by rw [World.frozen?_alloc_old _ _ t (by simp; omega), World.frozen?_alloc_old _ _ t (by simp; omega), World.frozen?_alloc_old _ _ t (by simp; omega), World.frozen?_alloc_old _ _ t (Nat.ne_of_lt htl)]; exact hf0)
  have hfl1 : f1 < w.heap.size := by
    rcases Nat.lt_or_ge f1 w.heap.size with h | h
    · exact h
    · simp [World.cell?, Array.getElem?_eq_none h] at hf1
  have hf31 : (((w.alloc (.cells #[.pointer (some t)] 146)).alloc (.cells #[.pointer (some ⟨1, 146, none⟩), .pointer (some ⟨w.heap.size, 0, none⟩), .int .u64 150] 194)).alloc (.cells #[.pointer (some ⟨1, 146, none⟩), .pointer (some ⟨w.heap.size, 0, none⟩), .int .u64 150] 194)).cell? ⟨f1, fo1 + 2, none⟩ = some (.iface 162 (.pointer (some ⟨f, fo, none⟩))) := by
    rw [World.cell?_alloc_lt _ _ ⟨f1, fo1 + 2, none⟩ (by simp; omega), World.cell?_alloc_lt _ _ ⟨f1, fo1 + 2, none⟩ (by simp; omega), World.cell?_alloc_lt _ _ ⟨f1, fo1 + 2, none⟩ hfl1]; exact hf1
  have hfl : f < w.heap.size := by
    rcases Nat.lt_or_ge f w.heap.size with h | h
    · exact h
    · simp [World.cell?, Array.getElem?_eq_none h] at hf
  have hf3 : (((w.alloc (.cells #[.pointer (some t)] 146)).alloc (.cells #[.pointer (some ⟨1, 146, none⟩), .pointer (some ⟨w.heap.size, 0, none⟩), .int .u64 150] 194)).alloc (.cells #[.pointer (some ⟨1, 146, none⟩), .pointer (some ⟨w.heap.size, 0, none⟩), .int .u64 150] 194)).cell? ⟨f, fo + 2, none⟩ = some (.iface 70 (.int .i64 e)) := by
    rw [World.cell?_alloc_lt _ _ ⟨f, fo + 2, none⟩ (by simp; omega), World.cell?_alloc_lt _ _ ⟨f, fo + 2, none⟩ (by simp; omega), World.cell?_alloc_lt _ _ ⟨f, fo + 2, none⟩ hfl]; exact hf
  go_enter Tryz.func70, Tryz.ntmps70
  go_wp2
  refine wp_loop_rounds 3 ?_
  rw [rounds_succ]
  go_wp2
  rw [rounds_succ]
  go_wp2
  rw [rounds_succ]
  go_wp2
  go_ret
  exact ⟨rfl, rfl⟩
end Go.AM.Td
