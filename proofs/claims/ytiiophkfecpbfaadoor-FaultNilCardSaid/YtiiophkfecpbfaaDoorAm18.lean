/-
  PLAIN WORDS (more): rows of whole numbers and of pairs.
-/
import Derived.Test.YtiiophkfecpbfaaDoorAm17
set_option linter.unusedVariables false
set_option linter.unusedSimpArgs false
set_option linter.unusedSectionVars false
namespace Go.AM

def c1 (n : Int) : List Value := [.int .i64 n]
theorem c1_len (n : Int) : (c1 n).length = 1 := rfl
theorem c1_one (n : Int) : (c1 n).all oneCell = true := rfl

def c2 (p : Int × Int) : List Value := [.int .i64 p.1, .int .i64 p.2]
theorem c2_len (p : Int × Int) : (c2 p).length = 2 := rfl
theorem c2_one (p : Int × Int) : (c2 p).all oneCell = true := rfl

theorem row_one {σ : St} {b : Nat} {v : Value} {e : TypeId} (h : σ.get b = some (.own [v] e)) (K : List Value → Res) : σ.row (some ⟨b, 0, none⟩) 1 K = K [v] := by
  simp only [St.row, adr_some]
  rw [if_neg (by omega), lds_own _ h (by simp)]
  rfl

@[simp] theorem eqNil_nil {α : Type} (K : Bool → Option α) : eqNil .nilIface K = K true := id rfl
@[simp] theorem eqNil_iface {α : Type} (t : TypeId) (v : Value) (K : Bool → Option α) : eqNil (.iface t v) K = K false := id rfl

theorem Row.lds {α : Type} {cells : α → List Value} {sz : Nat} {e : TypeId} {σ : St} {ad : Option Addr} {z : Nat} {qs : List Nat} {l : List α} (h : Row cells sz e σ ad z qs l) (hc : ∀ a, (cells a).length = sz) {i : Nat} {a : α} (hi : l[i]? = some a) :
    ∃ q, ad = some ⟨q, 0, none⟩ ∧ ∀ (o : Nat), o = i * sz → ∀ K : List Value → Res, σ.lds q o sz K = K (cells a) := by
  rcases h.is with ⟨_, e2, _⟩ | ⟨q, rest, _, e1, _, e3⟩
  · subst e2; simp at hi
  · refine ⟨q, e1, fun o ho K => ?_⟩
    have hlt := (List.getElem?_eq_some_iff.1 hi).1
    have hlen := flat_length cells sz hc l
    have hm : (i + 1) * sz ≤ l.length * sz := Nat.mul_le_mul_right _ hlt
    rw [Nat.add_mul] at hm
    rw [lds_own _ e3 (by rw [List.length_append]; omega), ho]
    congr 1
    apply List.ext_getElem?
    intro j
    rw [List.getElem?_take]
    by_cases hj : j < sz
    · rw [if_pos hj, List.getElem?_drop, List.getElem?_append_left (by omega), flat_get cells sz hc l i j a hi hj]
    · rw [if_neg hj, List.getElem?_eq_none (by rw [hc]; omega)]

abbrev Small := { n : Int // -9223372036854775808 ≤ n ∧ n ≤ 9223372036854775807 }
end Go.AM
