import Derived.Test.YtiiophkfecpbfaaDoorUfA
import Derived.Elder7
import Derived.Lib.IfaceEq
set_option linter.unusedVariables false
set_option linter.unusedSimpArgs false
set_option linter.unusedSectionVars false
namespace Go.AM.Td
open Go Go.Proofs Go.RowKit Go.Extern.Stop Go.Stop Go.Extern

/-- A CHAIN OF FAULTS IN THE WORLD W: the number at its end (none: nil at its end), how many faults. -/
inductive ChW (W : World) : Value → Option Int → Nat → Prop
  | num (c : Int) : ChW W (.iface 23 (.int .i64 c)) (some c) 0
  | other (a : Addr) : ChW W (.iface 77 (.pointer (some a))) none 0
  | wrapNil (f fo : Nat) : W.cell? ⟨f, fo + 2, none⟩ = some .nilIface → ChW W (.iface 30 (.pointer (some ⟨f, fo, none⟩))) none 1
  | wrap (f fo : Nat) (E : Value) (r : Option Int) (n : Nat) : W.cell? ⟨f, fo + 2, none⟩ = some E → ChW W E r n → ChW W (.iface 30 (.pointer (some ⟨f, fo, none⟩))) r (n + 1)

theorem ChW.unique {W : World} {E : Value} {r r' : Option Int} {n n' : Nat} (h : ChW W E r n) (h' : ChW W E r' n') : r = r' ∧ n = n' := by
  induction h generalizing r' n' with
  | num c => cases h'; exact ⟨rfl, rfl⟩
  | other a => cases h'; exact ⟨rfl, rfl⟩
  | wrapNil f fo hc =>
    cases h' with
    | wrapNil _ _ _ => exact ⟨rfl, rfl⟩
    | wrap _ _ E2 r2 n2 hc2 h2 => rw [hc] at hc2; cases hc2; cases h2
  | wrap f fo E1 r1 n1 hc h1 ih =>
    cases h' with
    | wrapNil _ _ hc2 => rw [hc] at hc2; cases hc2; cases h1
    | wrap _ _ E2 r2 n2 hc2 h2 => rw [hc] at hc2; cases hc2; exact ⟨(ih h2).1, by rw [(ih h2).2]⟩

open Classical in
/-- How many faults are left: the loop's measure. -/
noncomputable def chLen (W : World) (E : Value) : Nat := if h : ∃ n, ∃ r, ChW W E r n then h.choose else 0
theorem chLen_eq {W : World} {E : Value} {r : Option Int} {n : Nat} (h : ChW W E r n) : chLen W E = n := by
  unfold chLen
  have hx : ∃ n, ∃ r, ChW W E r n := ⟨n, r, h⟩
  rw [dif_pos hx]
  obtain ⟨r', h'⟩ := hx.choose_spec
  exact (ChW.unique h' h).2

theorem ChW.not_nil {W : World} {E : Value} {r : Option Int} {n : Nat} (h : ChW W E r n) : ∃ u v, E = .iface u v := by cases h <;> exact ⟨_, _, rfl⟩

theorem isTypeOf (v : Value) (w : World) : (Extern.ReflectliteType.typeOf #[.iface 23 v]).run Tryd.prog w = .ok (.iface 81 (.agg #[.pointer (some ⟨4, 23, none⟩)])) w := by kernel_rfl
theorem isComparable (w : World) : ((Extern.ReflectliteType.method fun t => do Extern.Rtype.noPackHeld "Comparable" t; (fun a => Value.bool a.comparable) <$> typeInfo t) #[.agg #[.pointer (some ⟨4, 23, none⟩)]]).run Tryd.prog w = .ok (.bool true) w := by kernel_rfl
theorem isMethodComparable (v : Value) (w : World) : (Go.method 241 81 v "Comparable").run Tryd.prog w = .ok (76, v) w := by kernel_rfl
theorem isComp : (Tryd.prog.info? 23).map (·.comparable) = some true := by kernel_rfl
theorem noIsE (v : Value) (xT : TypeId) (w : World) : (Instr.typeAssert (.iface 23 v) xT 92 true).run Tryd.prog w = .ok (.tuple #[.nilIface, .bool false]) w := run_typeAssert_lacksB Tryd.underlying92 (by kernel_rfl) (by kernel_rfl) v xT w
theorem noUnwrapE (v : Value) (xT : TypeId) (w : World) : (Instr.typeAssert (.iface 23 v) xT 88 true).run Tryd.prog w = .ok (.tuple #[.nilIface, .bool false]) w := run_typeAssert_lacksB Tryd.underlying88 (by kernel_rfl) (by kernel_rfl) v xT w
theorem noUnwrapsE (v : Value) (xT : TypeId) (w : World) : (Instr.typeAssert (.iface 23 v) xT 89 true).run Tryd.prog w = .ok (.tuple #[.nilIface, .bool false]) w := run_typeAssert_lacksB Tryd.underlying89 (by kernel_rfl) (by kernel_rfl) v xT w
theorem noIsO (v : Value) (xT : TypeId) (w : World) : (Instr.typeAssert (.iface 77 v) xT 92 true).run Tryd.prog w = .ok (.tuple #[.nilIface, .bool false]) w := run_typeAssert_lacksB Tryd.underlying92 (by kernel_rfl) (by kernel_rfl) v xT w
theorem noUnwrapO (v : Value) (xT : TypeId) (w : World) : (Instr.typeAssert (.iface 77 v) xT 88 true).run Tryd.prog w = .ok (.tuple #[.nilIface, .bool false]) w := run_typeAssert_lacksB Tryd.underlying88 (by kernel_rfl) (by kernel_rfl) v xT w
theorem noUnwrapsO (v : Value) (xT : TypeId) (w : World) : (Instr.typeAssert (.iface 77 v) xT 89 true).run Tryd.prog w = .ok (.tuple #[.nilIface, .bool false]) w := run_typeAssert_lacksB Tryd.underlying89 (by kernel_rfl) (by kernel_rfl) v xT w
theorem noIsW (v : Value) (xT : TypeId) (w : World) : (Instr.typeAssert (.iface 30 v) xT 92 true).run Tryd.prog w = .ok (.tuple #[.nilIface, .bool false]) w := run_typeAssert_lacksB Tryd.underlying92 (by kernel_rfl) (by kernel_rfl) v xT w
theorem hasUnwrapW (v : Value) (xT : TypeId) (w : World) : (Instr.typeAssert (.iface 30 v) xT 88 true).run Tryd.prog w = .ok (.tuple #[.iface 30 v, .bool true]) w := run_typeAssert_hasB Tryd.underlying88 (by kernel_rfl) v xT w
theorem isMethodUnwrap (v : Value) (w : World) : (Go.method 241 30 v "Unwrap").run Tryd.prog w = .ok (15, v) w := by kernel_rfl

set_option maxRecDepth 1000000 in
set_option maxHeartbeats 4000000 in
theorem is_chain {W : World} (d : Int) (E : Value) (r : Option Int) (n : Nat) (hch : ChW W E r n) :
    Calls Tryd.prog 36 #[E, .iface 23 (.int .i64 d), .bool true] W fun e w' => e = .returned (.bool (r == some d)) ∧ w' = W := by
  have nE := noIsE
  have uE := noUnwrapE
  have vE := noUnwrapsE
  have nO := noIsO
  have uO := noUnwrapO
  have vO := noUnwrapsO
  have nW := noIsW
  have uW := hasUnwrapW
  have mU := isMethodUnwrap
  go_enter Tryd.func36, Tryd.ntmps36
  go_wp2
  go_loopw [0] (fun E' wl => wl = W ∧ ∃ n', ChW W E' r n') (fun E' _ => chLen W E')
  case atStart => exact ⟨rfl, n, hch⟩
  case round =>
    obtain ⟨rfl, n', hc'⟩ := hrel
    cases hc' with
    | num c =>
      have heq := Go.Lib.run_eql_iface_int (P := Tryd.prog) (k := .i64) wr c d Tryd.underlying27 isComp Tryd.underlying23
      by_cases hcd : c = d
      · subst hcd
        simp only [beq_self_eq_true] at heq
        go_wp2
        go_ret
        exact ⟨by simp, rfl⟩
      · have hb : (c == d) = false := by simpa using hcd
        rw [hb] at heq
        go_wp2
        go_ret
        exact ⟨by simp [hb], rfl⟩
    | other a =>
      have hty := run_eql_iface_types (P := Tryd.prog) 77 23 (.pointer (some a)) (.int .i64 d) Tryd.underlying27 (by decide) wr
      go_wp2
      go_ret
      exact ⟨by simp, rfl⟩
    | wrapNil f fo hcell =>
      have hty := run_eql_iface_types (P := Tryd.prog) 30 23 (.pointer (some ⟨f, fo, none⟩)) (.int .i64 d) Tryd.underlying27 (by decide) wr
      go_wp2
      go_ret
      exact ⟨by simp, rfl⟩
    | wrap f fo E1 r1 n1 hcell h1 =>
      have hty := run_eql_iface_types (P := Tryd.prog) 30 23 (.pointer (some ⟨f, fo, none⟩)) (.int .i64 d) Tryd.underlying27 (by decide) wr
      have hlen := chLen_eq h1
      have hlen0 := chLen_eq (ChW.wrap f fo E1 r n1 hcell h1)
      obtain ⟨u1, v1, rfl⟩ := h1.not_nil
      have HC : Hid (ChW wr (.iface u1 v1) r n1) := h1
      clear h1
      go_wp2
      go_roundw
      case rel => exact ⟨trivial, n1, HC.out⟩
      case measure =>
        show chLen wr (.iface u1 v1) < _
        rw [hlen, hlen0]; omega

set_option maxRecDepth 1000000 in
set_option maxHeartbeats 4000000 in
theorem Is_chain {W : World} (d : Int) (E : Value) (r : Option Int) (n : Nat) (hch : ChW W E r n) :
    Calls Tryd.prog 21 #[E, .iface 23 (.int .i64 d)] W fun e w' => e = .returned (.bool (r == some d)) ∧ w' = W := by
  have h8 := @run_callFunc_extern Tryd.prog 35 _ Extern.ReflectliteType.typeOf Tryd.func35 (by kernel_rfl) (by kernel_rfl) (by kernel_rfl) (by kernel_rfl)
  have h32 := @run_callFunc_extern Tryd.prog 76 _ (Extern.ReflectliteType.method fun t => do Extern.Rtype.noPackHeld "Comparable" t; pure (.bool (← typeInfo t).comparable)) Tryd.func76 (by kernel_rfl) (by kernel_rfl) (by kernel_rfl) (by kernel_rfl)
  have tT := isTypeOf
  have cT := isComparable
  have mR := isMethodComparable
  have nE := noIsE
  have uE := noUnwrapE
  have vE := noUnwrapsE
  have nO := noIsO
  have uO := noUnwrapO
  have vO := noUnwrapsO
  have nW := noIsW
  have uW := hasUnwrapW
  have mU := isMethodUnwrap
  have hch' := hch
  obtain ⟨u1, v1, rfl⟩ := hch.not_nil
  go_enter Tryd.func21, Tryd.ntmps21
  go_wp2
  go_loopw [0] (fun E' wl => wl = W ∧ ∃ n', ChW W E' r n') (fun E' _ => chLen W E')
  case atStart => exact ⟨rfl, n, hch⟩
  case round =>
    obtain ⟨rfl, n', hc'⟩ := hrel
    cases hc' with
    | num c =>
      have heq := Go.Lib.run_eql_iface_int (P := Tryd.prog) (k := .i64) wr c d Tryd.underlying27 isComp Tryd.underlying23
      by_cases hcd : c = d
      · subst hcd
        simp only [beq_self_eq_true] at heq
        go_wp2
        go_ret
        exact ⟨by simp, rfl⟩
      · have hb : (c == d) = false := by simpa using hcd
        rw [hb] at heq
        go_wp2
        go_ret
        exact ⟨by simp [hb], rfl⟩
    | other a =>
      have hty := run_eql_iface_types (P := Tryd.prog) 77 23 (.pointer (some a)) (.int .i64 d) Tryd.underlying27 (by decide) wr
      go_wp2
      go_ret
      exact ⟨by simp, rfl⟩
    | wrapNil f fo hcell =>
      have hty := run_eql_iface_types (P := Tryd.prog) 30 23 (.pointer (some ⟨f, fo, none⟩)) (.int .i64 d) Tryd.underlying27 (by decide) wr
      go_wp2
      go_ret
      exact ⟨by simp, rfl⟩
    | wrap f fo E1 r1 n1 hcell h1 =>
      have hty := run_eql_iface_types (P := Tryd.prog) 30 23 (.pointer (some ⟨f, fo, none⟩)) (.int .i64 d) Tryd.underlying27 (by decide) wr
      have hlen := chLen_eq h1
      have hlen0 := chLen_eq (ChW.wrap f fo E1 r n1 hcell h1)
      obtain ⟨u1, v1, rfl⟩ := h1.not_nil
      have HC : Hid (ChW wr (.iface u1 v1) r n1) := h1
      clear h1
      go_wp2
      go_roundw
      case rel => exact ⟨trivial, n1, HC.out⟩
      case measure =>
        show chLen wr (.iface u1 v1) < _
        rw [hlen, hlen0]; omega

theorem Is_nil (d : Int) (w : World) :
    Calls Tryd.prog 21 #[.nilIface, .iface 23 (.int .i64 d)] w fun e w' => e = .returned (.bool false) ∧ w' = w := by
  have hn := run_eql_iface_nil_left (P := Tryd.prog) w 23 (.int .i64 d) Tryd.underlying27
  go_enter Tryd.func21, Tryd.ntmps21
  go_wp2
  go_ret
  exact ⟨rfl, rfl⟩

end Go.AM.Td
