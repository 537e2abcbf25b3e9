import Derived.Test.YtiiophkfecpbfaaDoorUfF
set_option linter.unusedVariables false
set_option linter.unusedSimpArgs false
set_option linter.unusedSectionVars false
namespace Go.AM.Td
open Go Go.Proofs Go.RowKit Go.Extern.Stop Go.Stop Go.Extern

set_option maxRecDepth 100000 in
set_option maxHeartbeats 4000000 in
theorem as_other (a : Addr) (t : Addr) (old : Value) (w : World) (hg : w.cell? ⟨0, 0, none⟩ = some (.iface 81 (.agg #[.pointer (some ⟨4, 27, none⟩)]))) (ht0 : w.cell? t = some old) (hf0 : w.frozen? t = false) :
    Calls Tryd.prog 20 #[.iface 77 (.pointer (some a)), .iface 43 (.pointer (some t))] w fun ev w' => ev = .returned (.bool false) ∧ w' = ((w.alloc (.cells #[.pointer (some t)] 43)).alloc (.cells #[.pointer (some ⟨4, 43, none⟩), .pointer (some ⟨w.heap.size, 0, none⟩), .int .u64 150] 66)).alloc (.cells #[.pointer (some ⟨4, 43, none⟩), .pointer (some ⟨w.heap.size, 0, none⟩), .int .u64 150] 66) := by
  have h6 := @run_callFunc_extern Tryd.prog 31 _ (fun args => ReflectliteValue.unpack (args.getD 0 (.tuple #[]))) Tryd.func31 (by kernel_rfl) (by kernel_rfl) (by kernel_rfl) (by kernel_rfl)
  have h7 := @run_callFunc_extern Tryd.prog 32 _ (ReflectliteValue.methodAny (ReflectliteValue.valueError "reflectlite.Value.Type" 0) (fun t _ _ _ => ReflectliteType.toType t)) Tryd.func32 (by kernel_rfl) (by kernel_rfl) (by kernel_rfl) (by kernel_rfl)
  have h8 := @run_callFunc_extern Tryd.prog 33 _ (ReflectliteValue.method (ReflectliteValue.valueError "reflectlite.Value.IsNil" 0) ReflectliteValue.isNil) Tryd.func33 (by kernel_rfl) (by kernel_rfl) (by kernel_rfl) (by kernel_rfl)
  have h27 := @run_callFunc_extern Tryd.prog 67 _ (ReflectliteType.abiMethod fun t => do pure (.int .u8 (← Rtype.kind t))) Tryd.func67 (by kernel_rfl) (by kernel_rfl) (by kernel_rfl) (by kernel_rfl)
  have h37 := @run_callFunc_extern Tryd.prog 77 _ (ReflectliteType.method ReflectliteType.elem) Tryd.func77 (by kernel_rfl) (by kernel_rfl) (by kernel_rfl) (by kernel_rfl)
  have h38 := @run_callFunc_extern Tryd.prog 78 _ (ReflectliteType.relation "Implements" ReflectliteType.implements_) Tryd.func78 (by kernel_rfl) (by kernel_rfl) (by kernel_rfl) (by kernel_rfl)
  have h10 := @run_callFunc_extern Tryd.prog 35 _ ReflectliteType.typeOf Tryd.func35 (by kernel_rfl) (by kernel_rfl) (by kernel_rfl) (by kernel_rfl)
  have h35 := @run_callFunc_extern Tryd.prog 75 _ (ReflectliteType.relation "AssignableTo" ReflectliteType.assignableTo) Tryd.func75 (by kernel_rfl) (by kernel_rfl) (by kernel_rfl) (by kernel_rfl)
  have h11 := @run_callFunc_extern Tryd.prog 38 _ (ReflectliteValue.method (ReflectliteValue.valueError "reflectlite.Value.Elem" 0) ReflectliteValue.elem) Tryd.func38 (by kernel_rfl) (by kernel_rfl) (by kernel_rfl) (by kernel_rfl)
  have h12 := @run_callFunc_extern Tryd.prog 39 _ ReflectliteValue.set Tryd.func39 (by kernel_rfl) (by kernel_rfl) (by kernel_rfl) (by kernel_rfl)
  have tO := typeOf77
  have mA := methodAssignableTo
  have a25 := assignable77_30
  have v25 := valueOf72
  have f6 := valueOf88
  have f7 := type88
  have mK := methodKind
  have mE := methodElem
  have mI := methodImplements
  have k27 := kind88
  have k25 := kind72
  have e27 := elem88
  have i25 := implements72
  have n8 := isNil88 ⟨w.heap.size, 0, none⟩ t ((w.alloc (.cells #[.pointer (some t)] 43)).alloc (.cells #[.pointer (some ⟨4, 43, none⟩), .pointer (some ⟨w.heap.size, 0, none⟩), .int .u64 150] 66)) (by simp)
  have hlt : 0 < w.heap.size := by
    rcases Nat.eq_zero_or_pos w.heap.size with h0 | h
    · simp [World.cell?, h0] at hg
    · exact h
  have hg2 : ((w.alloc (.cells #[.pointer (some t)] 43)).alloc (.cells #[.pointer (some ⟨4, 43, none⟩), .pointer (some ⟨w.heap.size, 0, none⟩), .int .u64 150] 66)).cell? ⟨0, 0, none⟩ = some (.iface 81 (.agg #[.pointer (some ⟨4, 27, none⟩)])) := by
    rw [World.cell?_alloc_lt _ _ ⟨0, 0, none⟩ (by simp), World.cell?_alloc_lt _ _ ⟨0, 0, none⟩ hlt]; exact hg
  have htl : t.block < w.heap.size := by
    rcases Nat.lt_or_ge t.block w.heap.size with h | h
    · exact h
    · simp [World.cell?, Array.getElem?_eq_none h] at ht0
  have nA := noAs77
  have nU := noUnwrapO
  have nV := noUnwrapsO
  go_enter Tryd.func20, Tryd.ntmps20
  go_wp2
  refine wp_loop_rounds 1 ?_
  rw [rounds_succ]
  go_wp2
  go_ret
  exact ⟨rfl, rfl⟩

/-- A CHAIN OF FAULTS that comes to an error, by place. -/
inductive HitW (W : World) (tgt : Value) : Value → Nat → Prop
  | here (T : TypeId) (v : Value) : (binOp .eql 27 (.iface T v) tgt).run Tryd.prog W = .ok (.bool true) W → HitW W tgt (.iface T v) 0
  | step (f fo : Nat) (E : Value) (n : Nat) : (binOp .eql 27 (.iface 30 (.pointer (some ⟨f, fo, none⟩))) tgt).run Tryd.prog W = .ok (.bool false) W → W.cell? ⟨f, fo + 2, none⟩ = some E → HitW W tgt E n → HitW W tgt (.iface 30 (.pointer (some ⟨f, fo, none⟩))) (n + 1)
theorem HitW.unique {W : World} {tgt E : Value} {n n' : Nat} (h : HitW W tgt E n) (h' : HitW W tgt E n') : n = n' := by
  induction h generalizing n' with
  | here T v he =>
    cases h' with
    | here _ _ _ => rfl
    | step f fo E2 n2 he2 _ _ => rw [he] at he2; cases he2
  | step f fo E1 n1 he hc _ ih =>
    cases h' with
    | here _ _ he2 => rw [he] at he2; cases he2
    | step _ _ E2 n2 he2 hc2 h2 => rw [hc] at hc2; cases hc2; rw [ih h2]
open Classical in
noncomputable def hitLen (W : World) (tgt E : Value) : Nat := if h : ∃ n, HitW W tgt E n then h.choose else 0
theorem hitLen_eq {W : World} {tgt E : Value} {n : Nat} (h : HitW W tgt E n) : hitLen W tgt E = n := by
  unfold hitLen
  have hx : ∃ n, HitW W tgt E n := ⟨n, h⟩
  rw [dif_pos hx]
  exact HitW.unique hx.choose_spec h
theorem HitW.not_nil {W : World} {tgt E : Value} {n : Nat} (h : HitW W tgt E n) : ∃ u v, E = .iface u v := by cases h <;> exact ⟨_, _, rfl⟩

theorem isTypeOf30 (v : Value) (w : World) : (Extern.ReflectliteType.typeOf #[.iface 30 v]).run Tryd.prog w = .ok (.iface 81 (.agg #[.pointer (some ⟨4, 30, none⟩)])) w := by kernel_rfl
theorem isComparable30 (w : World) : ((Extern.ReflectliteType.method fun t => do Extern.Rtype.noPackHeld "Comparable" t; (fun a => Value.bool a.comparable) <$> typeInfo t) #[.agg #[.pointer (some ⟨4, 30, none⟩)]]).run Tryd.prog w = .ok (.bool true) w := by kernel_rfl
set_option maxRecDepth 1000000 in
set_option maxHeartbeats 4000000 in
theorem Is_hit30 {W : World} (a : Addr) (E : Value) (n : Nat) (hch : HitW W (.iface 30 (.pointer (some a))) E n) :
    Calls Tryd.prog 21 #[E, .iface 30 (.pointer (some a))] W fun e w' => e = .returned (.bool true) ∧ w' = W := by
  have h8 := @run_callFunc_extern Tryd.prog 35 _ Extern.ReflectliteType.typeOf Tryd.func35 (by kernel_rfl) (by kernel_rfl) (by kernel_rfl) (by kernel_rfl)
  have h32 := @run_callFunc_extern Tryd.prog 76 _ (Extern.ReflectliteType.method fun t => do Extern.Rtype.noPackHeld "Comparable" t; pure (.bool (← typeInfo t).comparable)) Tryd.func76 (by kernel_rfl) (by kernel_rfl) (by kernel_rfl) (by kernel_rfl)
  have tT := isTypeOf30
  have cT := isComparable30
  have mR := isMethodComparable
  have nW := noIsW
  have uW := hasUnwrapW
  have mU := isMethodUnwrap
  have hch' := hch
  obtain ⟨u1, v1, rfl⟩ := hch.not_nil
  go_enter Tryd.func21, Tryd.ntmps21
  go_wp2
  go_loopw [0] (fun E' wl => wl = W ∧ ∃ n', HitW W (.iface 30 (.pointer (some a))) E' n') (fun E' _ => hitLen W (.iface 30 (.pointer (some a))) E')
  case atStart => exact ⟨rfl, n, hch⟩
  case round =>
    obtain ⟨rfl, n', hc'⟩ := hrel
    cases hc' with
    | here U v heq =>
      go_wp2
      go_ret
      exact ⟨rfl, rfl⟩
    | step f fo E1 n1 heq hcell h1 =>
      have hlen := hitLen_eq h1
      have hlen0 := hitLen_eq (HitW.step f fo E1 n1 heq hcell h1)
      obtain ⟨u1, v1, rfl⟩ := h1.not_nil
      have HC : Hid (HitW wr (.iface 30 (.pointer (some a))) (.iface u1 v1) n1) := h1
      clear h1
      go_wp2
      go_roundw
      case rel => exact ⟨trivial, n1, HC.out⟩
      case measure =>
        show hitLen wr (.iface 30 (.pointer (some a))) (.iface u1 v1) < _
        rw [hlen, hlen0]; omega

theorem isTypeOf77 (v : Value) (w : World) : (Extern.ReflectliteType.typeOf #[.iface 77 v]).run Tryd.prog w = .ok (.iface 81 (.agg #[.pointer (some ⟨4, 77, none⟩)])) w := by kernel_rfl
theorem isComparable77 (w : World) : ((Extern.ReflectliteType.method fun t => do Extern.Rtype.noPackHeld "Comparable" t; (fun a => Value.bool a.comparable) <$> typeInfo t) #[.agg #[.pointer (some ⟨4, 77, none⟩)]]).run Tryd.prog w = .ok (.bool true) w := by kernel_rfl
set_option maxRecDepth 1000000 in
set_option maxHeartbeats 4000000 in
theorem Is_hit77 {W : World} (a : Addr) (E : Value) (n : Nat) (hch : HitW W (.iface 77 (.pointer (some a))) E n) :
    Calls Tryd.prog 21 #[E, .iface 77 (.pointer (some a))] W fun e w' => e = .returned (.bool true) ∧ w' = W := by
  have h8 := @run_callFunc_extern Tryd.prog 35 _ Extern.ReflectliteType.typeOf Tryd.func35 (by kernel_rfl) (by kernel_rfl) (by kernel_rfl) (by kernel_rfl)
  have h32 := @run_callFunc_extern Tryd.prog 76 _ (Extern.ReflectliteType.method fun t => do Extern.Rtype.noPackHeld "Comparable" t; pure (.bool (← typeInfo t).comparable)) Tryd.func76 (by kernel_rfl) (by kernel_rfl) (by kernel_rfl) (by kernel_rfl)
  have tT := isTypeOf77
  have cT := isComparable77
  have mR := isMethodComparable
  have nW := noIsW
  have uW := hasUnwrapW
  have mU := isMethodUnwrap
  have hch' := hch
  obtain ⟨u1, v1, rfl⟩ := hch.not_nil
  go_enter Tryd.func21, Tryd.ntmps21
  go_wp2
  go_loopw [0] (fun E' wl => wl = W ∧ ∃ n', HitW W (.iface 77 (.pointer (some a))) E' n') (fun E' _ => hitLen W (.iface 77 (.pointer (some a))) E')
  case atStart => exact ⟨rfl, n, hch⟩
  case round =>
    obtain ⟨rfl, n', hc'⟩ := hrel
    cases hc' with
    | here U v heq =>
      go_wp2
      go_ret
      exact ⟨rfl, rfl⟩
    | step f fo E1 n1 heq hcell h1 =>
      have hlen := hitLen_eq h1
      have hlen0 := hitLen_eq (HitW.step f fo E1 n1 heq hcell h1)
      obtain ⟨u1, v1, rfl⟩ := h1.not_nil
      have HC : Hid (HitW wr (.iface 77 (.pointer (some a))) (.iface u1 v1) n1) := h1
      clear h1
      go_wp2
      go_roundw
      case rel => exact ⟨trivial, n1, HC.out⟩
      case measure =>
        show hitLen wr (.iface 77 (.pointer (some a))) (.iface u1 v1) < _
        rw [hlen, hlen0]; omega

end Go.AM.Td
