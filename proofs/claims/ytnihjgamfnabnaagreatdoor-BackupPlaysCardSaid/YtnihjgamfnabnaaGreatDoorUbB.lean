import Derived.Test.YtnihjgamfnabnaaGreatDoorUbA
set_option linter.unusedVariables false
set_option linter.unusedSimpArgs false
set_option linter.unusedSectionVars false
namespace Go.AM.Td
open Go Go.Proofs Go.RowKit Go.Extern.Stop Go.Stop Go.Extern
theorem elemOf88 (w : World) : (Rtype.elem? 212).run Tryz.prog w = .ok (some 162) w := by kernel_rfl
theorem mk72 (p : Addr) (w : World) : (ReflectliteValue.mk 162 p ReflectliteValue.flagAddr).run Tryz.prog w = .ok (.agg #[.pointer (some ⟨1, 162, none⟩), .pointer (some p), .int .u64 406]) w := by kernel_rfl
theorem elemV88 (a p : Addr) (W : World) (ha : W.cell? a = some (.pointer (some p))) :
    (ReflectliteValue.method (ReflectliteValue.valueError "reflectlite.Value.Elem" 0) ReflectliteValue.elem #[.agg #[.pointer (some ⟨1, 212, none⟩), .pointer (some a), .int .u64 150]]).run Tryz.prog W
      = .ok (.agg #[.pointer (some ⟨1, 162, none⟩), .pointer (some p), .int .u64 406]) W := by
  rw [rlm]
  simp only [Sem.run_bind, parts88, Result.andThen]
  simp [ReflectliteValue.elem, loadVar, isAgg, underlying, Tryz.underlying212, ha, Result.andThen, elemOf88, mk72]
theorem rls (v x : Value) : ReflectliteValue.set #[v, x] = (do
    let (some (dst, a, fl), some (src, b, _)) := (← ReflectliteValue.parts v, ← ReflectliteValue.parts x)
      | unsupported (.noEntry "extern/(internal/reflectlite.Value).Set.zeroValue")
    if fl / ReflectliteValue.flagAddr % 2 == 0 then unsupported (.noEntry "extern/(internal/reflectlite.Value).Set.unaddressable")
    let val ← loadVar src b
    if ← Rtype.directlyAssignable dst src then storeVar dst a val
    else if ← Rtype.implements dst src then
      if (← Rtype.kind src) == 20 then
        match val with
        | .nilIface => unsupported (.noEntry "extern/reflectlite: a nil value of one interface type handed on as a value of another")
        | _ => storeVar dst a val
      else storeVar dst a (.iface src val)
    else panicString ("reflectlite.Set: value of type " ++ (← Rtype.spelt src) ++ " is not assignable to type " ++ (← Rtype.spelt dst))
    pure (.tuple #[])) := rfl
theorem parts72a (a : Addr) (w : World) : (ReflectliteValue.parts (.agg #[.pointer (some ⟨1, 162, none⟩), .pointer (some a), .int .u64 406])).run Tryz.prog w = .ok (some (162, a, 406)) w := by kernel_rfl
theorem parts72 (a : Addr) (w : World) : (ReflectliteValue.parts (.agg #[.pointer (some ⟨1, 162, none⟩), .pointer (some a), .int .u64 150])).run Tryz.prog w = .ok (some (162, a, 150)) w := by kernel_rfl
theorem direct72 (w : World) : (Rtype.directlyAssignable 162 162).run Tryz.prog w = .ok true w := by kernel_rfl
theorem set72 (ta b e : Addr) (old : Value) (W : World) (hb : W.cell? b = some (.pointer (some e))) (ht : W.cell? ta = some old) (hf : W.frozen? ta = false) :
    (ReflectliteValue.set #[.agg #[.pointer (some ⟨1, 162, none⟩), .pointer (some ta), .int .u64 406], .agg #[.pointer (some ⟨1, 162, none⟩), .pointer (some b), .int .u64 150]]).run Tryz.prog W
      = .ok (.tuple #[]) (W.setCell ta (.pointer (some e))) := by
  rw [rls]
  simp only [Sem.run_bind, parts72a, parts72, Result.andThen]
  simp [ReflectliteValue.flagAddr, loadVar, isAgg, underlying, Tryz.underlying162, hb, Result.andThen, direct72, storeVar, Value.cells, storeCells, Addr.add]
  rw [run_store Tryz.prog W ta _ _ (by rfl)]
  simp [ht, hf]
set_option maxRecDepth 100000 in
set_option maxHeartbeats 4000000 in
theorem as_hit (e t : Addr) (old : Value) (w : World) (hg : w.cell? ⟨0, 0, none⟩ = some (.iface 216 (.agg #[.pointer (some ⟨1, 29, none⟩)]))) (ht0 : w.cell? t = some old) (hf0 : w.frozen? t = false) :
    Calls Tryz.prog 70 #[.iface 162 (.pointer (some e)), .iface 212 (.pointer (some t))] w fun ev w' => ev = .returned (.bool true) ∧ w' = ((((w.alloc (.cells #[.pointer (some t)] 212)).alloc (.cells #[.pointer (some ⟨1, 212, none⟩), .pointer (some ⟨w.heap.size, 0, none⟩), .int .u64 150] 194)).alloc (.cells #[.pointer (some ⟨1, 212, none⟩), .pointer (some ⟨w.heap.size, 0, none⟩), .int .u64 150] 194)).alloc (.cells #[.pointer (some e)] 162)).setCell t (.pointer (some e)) := by
  have h6 := @run_callFunc_extern Tryz.prog 116 _ (fun args => ReflectliteValue.unpack (args.getD 0 (.tuple #[]))) Tryz.func116 (by kernel_rfl) (by kernel_rfl) (by kernel_rfl) (by kernel_rfl)
  have h7 := @run_callFunc_extern Tryz.prog 117 _ (ReflectliteValue.methodAny (ReflectliteValue.valueError "reflectlite.Value.Type" 0) (fun t _ _ _ => ReflectliteType.toType t)) Tryz.func117 (by kernel_rfl) (by kernel_rfl) (by kernel_rfl) (by kernel_rfl)
  have h8 := @run_callFunc_extern Tryz.prog 118 _ (ReflectliteValue.method (ReflectliteValue.valueError "reflectlite.Value.IsNil" 0) ReflectliteValue.isNil) Tryz.func118 (by kernel_rfl) (by kernel_rfl) (by kernel_rfl) (by kernel_rfl)
  have h27 := @run_callFunc_extern Tryz.prog 162 _ (ReflectliteType.abiMethod fun t => do pure (.int .u8 (← Rtype.kind t))) Tryz.func162 (by kernel_rfl) (by kernel_rfl) (by kernel_rfl) (by kernel_rfl)
  have h37 := @run_callFunc_extern Tryz.prog 179 _ (ReflectliteType.method ReflectliteType.elem) Tryz.func179 (by kernel_rfl) (by kernel_rfl) (by kernel_rfl) (by kernel_rfl)
  have h38 := @run_callFunc_extern Tryz.prog 180 _ (ReflectliteType.relation "Implements" ReflectliteType.implements_) Tryz.func180 (by kernel_rfl) (by kernel_rfl) (by kernel_rfl) (by kernel_rfl)
  have h10 := @run_callFunc_extern Tryz.prog 135 _ ReflectliteType.typeOf Tryz.func135 (by kernel_rfl) (by kernel_rfl) (by kernel_rfl) (by kernel_rfl)
  have h35 := @run_callFunc_extern Tryz.prog 177 _ (ReflectliteType.relation "AssignableTo" ReflectliteType.assignableTo) Tryz.func177 (by kernel_rfl) (by kernel_rfl) (by kernel_rfl) (by kernel_rfl)
  have h11 := @run_callFunc_extern Tryz.prog 136 _ (ReflectliteValue.method (ReflectliteValue.valueError "reflectlite.Value.Elem" 0) ReflectliteValue.elem) Tryz.func136 (by kernel_rfl) (by kernel_rfl) (by kernel_rfl) (by kernel_rfl)
  have h12 := @run_callFunc_extern Tryz.prog 137 _ ReflectliteValue.set Tryz.func137 (by kernel_rfl) (by kernel_rfl) (by kernel_rfl) (by kernel_rfl)
  have tO := typeOf72
  have mA := methodAssignableTo
  have a25 := assignable72
  have v25 := valueOf72
  have f6 := valueOf88
  have f7 := type88
  have mK := methodKind
  have mE := methodElem
  have mI := methodImplements
  have k27 := kind88
  have k25 := kind72
  have e27 := elem88
  have i25 := implements72
  have n8 := isNil88 ⟨w.heap.size, 0, none⟩ t ((w.alloc (.cells #[.pointer (some t)] 212)).alloc (.cells #[.pointer (some ⟨1, 212, none⟩), .pointer (some ⟨w.heap.size, 0, none⟩), .int .u64 150] 194)) (by simp)
  have hlt : 0 < w.heap.size := by
    rcases Nat.eq_zero_or_pos w.heap.size with h0 | h
    · simp [World.cell?, h0] at hg
    · exact h
  have hg2 : ((w.alloc (.cells #[.pointer (some t)] 212)).alloc (.cells #[.pointer (some ⟨1, 212, none⟩), .pointer (some ⟨w.heap.size, 0, none⟩), .int .u64 150] 194)).cell? ⟨0, 0, none⟩ = some (.iface 216 (.agg #[.pointer (some ⟨1, 29, none⟩)])) := by
    rw [World.cell?_alloc_lt _ _ ⟨0, 0, none⟩ (by simp), World.cell?_alloc_lt _ _ ⟨0, 0, none⟩ hlt]; exact hg
  have htl : t.block < w.heap.size := by
    rcases Nat.lt_or_ge t.block w.heap.size with h | h
    · exact h
    · simp [World.cell?, Array.getElem?_eq_none h] at ht0
  have el := elemV88 ⟨w.heap.size, 0, none⟩ t (((w.alloc (.cells #[.pointer (some t)] 212)).alloc (.cells #[.pointer (some ⟨1, 212, none⟩), .pointer (some ⟨w.heap.size, 0, none⟩), .int .u64 150] 194)).alloc (.cells #[.pointer (some ⟨1, 212, none⟩), .pointer (some ⟨w.heap.size, 0, none⟩), .int .u64 150] 194)) (by rw [World.cell?_alloc_lt _ _ ⟨w.heap.size, 0, none⟩ (by simp; omega)]; simp)
  have st := set72 t ⟨w.heap.size + 1 + 1 + 1, 0, none⟩ e old ((((w.alloc (.cells #[.pointer (some t)] 212)).alloc (.cells #[.pointer (some ⟨1, 212, none⟩), .pointer (some ⟨w.heap.size, 0, none⟩), .int .u64 150] 194)).alloc (.cells #[.pointer (some ⟨1, 212, none⟩), .pointer (some ⟨w.heap.size, 0, none⟩), .int .u64 150] 194)).alloc (.cells #[.pointer (some e)] 162))
    (by rw [World.cell?_alloc_at _ _ _ _ (by simp)]; rfl)
    (by rw [World.cell?_alloc_lt _ _ t (by simp; omega), World.cell?_alloc_lt _ _ t (by simp; omega), World.cell?_alloc_lt _ _ t (by simp; omega), World.cell?_alloc_lt _ _ t htl]; exact ht0)
    (by rw [World.frozen?_alloc_old _ _ t (by simp; omega), World.frozen?_alloc_old _ _ t (by simp; omega), World.frozen?_alloc_old _ _ t (by simp; omega), World.frozen?_alloc_old _ _ t (Nat.ne_of_lt htl)]; exact hf0)
  go_enter Tryz.func70, Tryz.ntmps70
  go_wp2
  refine wp_loop_rounds 1 ?_
  rw [rounds_succ]
  go_wp2
  go_ret
  exact ⟨rfl, rfl⟩
end Go.AM.Td
