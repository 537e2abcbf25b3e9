/-
  PLAIN WORDS (more): bytes; rows of long elements that are written in place; copies.
-/
import Derived.Test.YtiiophkfecpbfaaDoorAm20
set_option linter.unusedVariables false
set_option linter.unusedSimpArgs false
set_option linter.unusedSectionVars false
namespace Go.AM

theorem set_new (σ : St) (b b' : Blk) : (σ.new b).set σ.next b' = σ.new b' := by
  simp only [St.new, St.set, St.mk.injEq, and_true]
  funext k
  by_cases h : k = σ.next
  · simp [h]
  · simp [h]
/-- A new block, written at once. -/
theorem tmp_put2 (σ : St) (vs ws : List Value) (e : TypeId) (hn : ws.length = vs.length) (h1 : ws.all oneCell = true) (K : St → Res) : (σ.new (.own vs e)).put σ.next 0 ws K = K (σ.new (.own ws e)) := by
  rw [put_all (get_new_same _ _) hn h1, set_new]

/-! ### Bytes -/
def by8 (l : List UInt8) : List Value := l.map fun b => .int .u8 (b.toNat : Int)
theorem by8_len (l : List UInt8) : (by8 l).length = l.length := by simp [by8]
theorem by8_one (l : List UInt8) : (by8 l).all oneCell = true := by
  simp only [by8, List.all_map, List.all_eq_true]
  exact fun _ _ => rfl
theorem by8_take (l : List UInt8) (n : Nat) : (by8 l).take n = by8 (l.take n) := by simp [by8]
theorem by8_drop (l : List UInt8) (n : Nat) : (by8 l).drop n = by8 (l.drop n) := by simp [by8]
theorem by8_app (l m : List UInt8) : by8 (l ++ m) = by8 l ++ by8 m := by simp [by8]
theorem byteCells_by8 (s : ByteArray) : byteCells s = by8 s.data.toList := rfl
theorem bytesIn_by8 : ∀ l : List UInt8, bytesIn (by8 l) = some l
  | [] => rfl
  | b :: l => by
    have := bytesIn_by8 l
    simp only [by8] at this
    simp [by8, bytesIn, this]
theorem asBy_by8 (l : List UInt8) (K : List UInt8 → Res) : asBy (by8 l) K = K l := by
  unfold asBy; rw [bytesIn_by8]
theorem by8_get {l : List UInt8} {i : Nat} {b : UInt8} (h : l[i]? = some b) : (by8 l)[i]? = some (.int .u8 (b.toNat : Int)) := by
  unfold by8; rw [List.getElem?_map, h]; rfl

/-- A slice's bytes, that may be read. -/
structure Bytes (σ : St) (ad : Option Addr) (l : List UInt8) (F : List Nat) : Prop where
  is : l = [] ∨ ∃ r o vs, ad = some ⟨r, o, none⟩ ∧ σ.cells r = some vs ∧ o + l.length ≤ vs.length ∧ (vs.drop o).take l.length = by8 l ∧ r ∈ F
  lt : ∀ q ∈ F, q < σ.next
theorem Bytes.same {σ σ' : St} {ad : Option Addr} {l : List UInt8} {F S : List Nat} (h : Bytes σ ad l F) (hs : Same σ σ' S) (hF : ∀ q ∈ F, q ∉ S) : Bytes σ' ad l F :=
  ⟨h.is.imp id fun ⟨r, o, vs, e1, e2, e3, e4, e5⟩ => ⟨r, o, vs, e1, by unfold St.cells at e2 ⊢; rw [hs.2 r (h.lt r e5) (hF r e5)]; exact e2, e3, e4, e5⟩, fun q hq => by have := h.lt q hq; have := hs.1; omega⟩
theorem Bytes.lds {σ : St} {ad : Option Addr} {l : List UInt8} {F : List Nat} (h : Bytes σ ad l F) {m : Nat} (hm : m ≤ l.length) (h0 : m ≠ 0) : ∃ r o, ad = some ⟨r, o, none⟩ ∧ ∀ K : List Value → Res, σ.lds r o m K = K (by8 (l.take m)) := by
  rcases h.is with e | ⟨r, o, vs, e1, e2, e3, e4, _⟩
  · subst e; simp at hm; exact absurd hm h0
  · refine ⟨r, o, e1, fun K => ?_⟩
    rw [lds_cells K e2 (by omega)]
    congr 1
    rw [← by8_take, ← e4, List.take_take, Nat.min_eq_left hm]
theorem Bytes.row {σ : St} {ad : Option Addr} {l : List UInt8} {F : List Nat} (h : Bytes σ ad l F) (n : Nat) (hn : n = l.length) (K : List Value → Res) : σ.row ad n K = K (by8 l) := by
  subst hn
  unfold St.row
  by_cases h0 : l.length = 0
  · rw [if_pos h0, List.eq_nil_of_length_eq_zero h0]; rfl
  · obtain ⟨r, o, e, h1⟩ := h.lds (Nat.le_refl _) h0
    rw [if_neg h0, e, adr_some, h1, List.take_length]
theorem Bytes.at {σ : St} {ad : Option Addr} {l : List UInt8} {F : List Nat} (h : Bytes σ ad l F) {i : Nat} {b : UInt8} (hi : l[i]? = some b) : ∃ r o, ad = some ⟨r, o, none⟩ ∧ ∀ (p : Nat), p = o + i → ∀ K : Value → Res, σ.ld r p K = K (.int .u8 (b.toNat : Int)) := by
  obtain ⟨hil, _⟩ := List.getElem?_eq_some_iff.1 hi
  rcases h.is with e | ⟨r, o, vs, e1, e2, e3, e4, _⟩
  · subst e; simp at hi
  · refine ⟨r, o, e1, fun p hp K => ld_cells K e2 ?_⟩
    have h1 := by8_get hi
    rw [← e4, List.getElem?_take, if_pos hil, List.getElem?_drop, ← hp] at h1
    exact h1
theorem Bytes.own {σ : St} {r : Nat} {l : List UInt8} {e : TypeId} (h : σ.get r = some (.own (by8 l) e)) (hr : r < σ.next) : Bytes σ (some ⟨r, 0, none⟩) l [r] :=
  ⟨.inr ⟨r, 0, by8 l, rfl, by simp [St.cells, h, Blk.cells], by rw [by8_len]; omega, by rw [List.drop_zero, ← by8_len, List.take_length], by simp⟩, by simpa using hr⟩
theorem Bytes.ro {σ : St} {r : Nat} {l : List UInt8} (h : σ.get r = some (.ro (by8 l))) (hr : r < σ.next) : Bytes σ (some ⟨r, 0, none⟩) l [r] :=
  ⟨.inr ⟨r, 0, by8 l, rfl, by simp [St.cells, h, Blk.cells], by rw [by8_len]; omega, by rw [List.drop_zero, ← by8_len, List.take_length], by simp⟩, by simpa using hr⟩

theorem cpy_spec {σ : St} {ad : Option Addr} {l : List UInt8} {F : List Nat} (h : Bytes σ ad l F) {t o m : Nat} {vs : List Value} {e : TypeId} (ht : σ.get t = some (.own vs e)) (hm : m ≤ l.length) (hfit : o + m ≤ vs.length) :
    ∃ σ', (∀ K : St → Res, cpy 1 (some ⟨t, o, none⟩) ad m σ K = K σ') ∧ σ'.get t = some (.own (over vs o (by8 (l.take m))) e) ∧ Same σ σ' [t] ∧ σ'.next = σ.next := by
  by_cases h0 : m = 0
  · subst h0
    refine ⟨σ, fun K => by unfold cpy; rw [if_pos (by simp)], ?_, Same.refl _ _, rfl⟩
    rw [ht]
    simp [over, by8]
  · obtain ⟨r, p, e1, h1⟩ := h.lds hm h0
    have hl : (by8 (l.take m)).length = m := by rw [by8_len, List.length_take]; omega
    refine ⟨σ.set t (.own (over vs o (by8 (l.take m))) e), fun K => ?_, get_set_same _ _ _, Same.set _ _ _, rfl⟩
    unfold cpy
    rw [if_neg (by omega), e1, adr_some, Nat.mul_one, h1, adr_some, put_own _ ht (by rw [hl]; exact hfit) (by8_one _)]

/-! ### Rows -/
section
variable {α : Type} {cells : α → List Value} {sz : Nat} {e : TypeId} {σ : St} {ad : Option Addr} {z : Nat} {qs : List Nat} {l : List α}
theorem over_flat (hc : ∀ a, (cells a).length = sz) (rest : List Value) {i : Nat} (hi : i < l.length) (a : α) : over (l.flatMap cells ++ rest) (i * sz) (cells a) = (l.set i a).flatMap cells ++ rest := by
  have h1 := flat_length cells sz hc (l.take i)
  rw [List.length_take, Nat.min_eq_left (by omega)] at h1
  have h2 : l = l.take i ++ l[i] :: l.drop (i + 1) := by rw [← List.drop_eq_getElem_cons hi, List.take_append_drop]
  unfold over
  rw [List.set_eq_take_append_cons_drop, if_pos hi]
  conv => lhs; rw [h2]
  rw [List.flatMap_append, List.flatMap_append, List.flatMap_cons, List.flatMap_cons, hc, ← h1]
  rw [List.append_assoc, List.append_assoc, List.take_left, List.append_assoc, List.drop_append, List.drop_of_length_le (by omega), List.nil_append, Nat.add_sub_cancel_left, ← hc l[i], List.drop_left]
  simp
theorem Row.put (h : Row cells sz e σ ad z qs l) (hc : ∀ a, (cells a).length = sz) (h1 : ∀ a, (cells a).all oneCell = true) {i : Nat} (hi : i < l.length) (a : α) :
    ∃ q σ', qs = [q] ∧ ad = some ⟨q, 0, none⟩ ∧ (∀ o, o = i * sz → ∀ K : St → Res, σ.put q o (cells a) K = K σ') ∧ Row cells sz e σ' ad z qs (l.set i a) ∧ Same σ σ' qs ∧ σ'.next = σ.next := by
  rcases h.is with ⟨_, e2, _⟩ | ⟨q, rest, e0, e1, e2, e3⟩
  · subst e2; simp at hi
  · have hlen := flat_length cells sz hc l
    have hm : (i + 1) * sz ≤ l.length * sz := Nat.mul_le_mul_right _ hi
    rw [Nat.add_mul] at hm
    refine ⟨q, σ.set q (.own (over (l.flatMap cells ++ rest) (i * sz) (cells a)) e), e0, e1, fun o ho K => ?_, ⟨by simpa using h.lt, .inr ⟨q, rest, e0, e1, e2, ?_⟩⟩, by rw [e0]; exact Same.set _ _ _, rfl⟩
    · subst ho
      exact put_own K e3 (by rw [List.length_append, hc]; omega) (h1 a)
    · rw [get_set_same, over_flat hc rest hi]
end
theorem zerosN_flat {α : Type} (cells : α → List Value) (a : α) : ∀ n : Nat, zerosN (cells a) n = (List.replicate n a).flatMap cells
  | 0 => rfl
  | n + 1 => by rw [zerosN, zerosN_flat cells a n, List.replicate_succ, List.flatMap_cons]
theorem zerosN_one (v : Value) : ∀ n : Nat, zerosN [v] n = List.replicate n v
  | 0 => rfl
  | n + 1 => by rw [zerosN, zerosN_one v n, List.replicate_succ]; rfl
theorem Row.fresh {α : Type} (cells : α → List Value) (sz : Nat) (e : TypeId) (σ : St) (l : List α) : Row cells sz e (σ.new (.own (l.flatMap cells) e)) (some ⟨σ.next, 0, none⟩) sz [σ.next] l :=
  ⟨by simp, .inr ⟨σ.next, [], rfl, rfl, rfl, by rw [get_new_same, List.append_nil]⟩⟩

end Go.AM
