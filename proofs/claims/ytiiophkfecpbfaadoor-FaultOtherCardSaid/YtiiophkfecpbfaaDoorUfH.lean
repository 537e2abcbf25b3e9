/-
  errors.As AND errors.Is, TOLD, along chains of faults.
-/
import Derived.Test.YtiiophkfecpbfaaDoorAm13g
import Derived.Test.YtiiophkfecpbfaaDoorUfL
set_option linter.unusedVariables false
set_option linter.unusedSimpArgs false
set_option linter.unusedSectionVars false
namespace Go.AM.Td
open Go Go.Proofs Go.RowKit

/-- errors.errorType is what start-up laid there. -/
instance tdLaid : Laid := ⟨fun W => Lib.TabIs Tryd.prog W "internal/strconv.uint64pow10" .u64 Lib.pow10Tab ∧ W.cell? ⟨0, 0, none⟩ = some (.iface 81 (.agg #[.pointer (some ⟨4, 27, none⟩)]))⟩

/-- The number at a chain's end (none: nil, or an error of errors.New). -/
def chE (σ : St) : Nat → Value → Option (Option Int)
  | _, .iface 23 (.int .i64 c) => some (some c)
  | _, .iface 77 (.pointer (some ⟨_, _, none⟩)) => some none
  | n + 1, .iface 30 (.pointer (some ⟨q, p, none⟩)) => σ.ld q (p + 2) fun y => (match y with | .nilIface => some none | _ => chE σ n y)
  | _, _ => none

/-- errors.As: 30: *Fault, 23: Errno; 43, 42: pointers to these. -/
def asG (args : List Value) (σ : St) : Res :=
  match args with
  | [.nilIface, _] => some (.bool false, σ)
  | [.iface T x, .iface U (.pointer (some ⟨t, o, none⟩))] =>
    match σ.get t with
    | some (.own vs _) =>
      if o < vs.length then
        if U = 43 ∧ T = 30 then (match x with | .pointer (some ⟨q, p, none⟩) => σ.put t o [.pointer (some ⟨q, p, none⟩)] fun σ' => some (.bool true, σ') | _ => none)
        else if U = 43 ∧ T = 23 then (match x with | .int .i64 _ => some (.bool false, σ) | _ => none)
        else if U = 43 ∧ T = 77 then (match x with | .pointer (some ⟨_, _, none⟩) => some (.bool false, σ) | _ => none)
        else if U = 42 then (match chE σ 64 (.iface T x) with | some (some c) => σ.put t o [.int .i64 c] fun σ' => some (.bool true, σ') | some none => some (.bool false, σ) | none => none)
        else none
      else none
    | _ => none
  | _ => none

/-- Whether a chain comes to an error, by place. -/
def hitE (σ : St) (T : TypeId) (t : Nat) : Nat → Value → Bool
  | 0, _ => false
  | n + 1, .iface U (.pointer (some ⟨q, p, none⟩)) =>
    if U = T ∧ q = t ∧ p = 0 then true
    else if U = 30 ∧ (q ≠ t ∨ U ≠ T) then (match σ.get q with | some (.own vs _) => (match vs[p + 2]? with | some y => hitE σ T t n y | none => false) | _ => false)
    else false
  | _, _ => false
def isOwn : Option Blk → Bool
  | some (.own _ _) => true
  | _ => false

/-- errors.Is, for a number; for an error, by place. -/
def isG (args : List Value) (σ : St) : Res :=
  match args with
  | [.nilIface, .iface 23 (.int .i64 _)] => some (.bool false, σ)
  | [.iface T x, .iface 23 (.int .i64 d)] => (match chE σ 64 (.iface T x) with | some r => some (.bool (r == some d), σ) | none => none)
  | [.iface U x, .iface T (.pointer (some ⟨t, 0, none⟩))] => if (T = 30 ∨ T = 77) ∧ isOwn (σ.get t) = true ∧ hitE σ T t 66 (.iface U x) = true then some (.bool true, σ) else none
  | _ => none

/-- strconv.Itoa, of any number. -/
def itoaG (args : List Value) (σ : St) : Res :=
  match args with
  | [.int .i64 n] => if -9223372036854775808 ≤ n ∧ n ≤ 9223372036854775807 then some (.string ⟨(Lib.itoa n).toArray⟩, σ) else none
  | _ => none
end Go.AM.Td
