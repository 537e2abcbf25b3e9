/-
  PLAIN WORDS: how what is left of a function is read: the store's blocks, rows that are appended to.
-/
import Derived.Test.YtiiophkfecpbfaaDoorAm15
set_option linter.unusedVariables false
set_option linter.unusedSimpArgs false
set_option linter.unusedSectionVars false
namespace Go.AM

section
variable {α : Type}
@[simp] theorem asB_b (b : Bool) (K : Bool → Option α) : asB (.bool b) K = K b := id rfl
@[simp] theorem asI_i (k : IntKind) (n : Int) (K : Int → Option α) : asI k (.int k n) K = K n := by simp [asI]
@[simp] theorem asS_s (s : ByteArray) (K : ByteArray → Option α) : asS (.string s) K = K s := id rfl
@[simp] theorem asSl_s (a : Option Addr) (n z : Nat) (K : Option Addr → Nat → Nat → Option α) : asSl (.slice a n z) K = K a n z := id rfl
@[simp] theorem asP_p (a : Option Addr) (K : Option Addr → Option α) : asP (.pointer a) K = K a := id rfl
@[simp] theorem asT_t (A : Array Value) (K : List Value → Option α) : asT (.tuple A) K = K A.toList := id rfl
@[simp] theorem asAgL_a (A : Array Value) (K : List Value → Option α) : asAgL (.agg A) K = K A.toList := id rfl
@[simp] theorem uncons_c (x : Value) (l : List Value) (K : Value → List Value → Option α) : uncons (x :: l) K = K x l := id rfl
@[simp] theorem endl_n (K : Option α) : endl [] K = K := id rfl
@[simp] theorem asA_a (n : Nat) (A : Array Value) (K : List Value → Option α) : asA n (.agg A) K = need (Nat.beq A.toList.length n) (K A.toList) := rfl
@[simp] theorem adr_some (r o : Nat) (K : Nat → Nat → Option α) : adr (some ⟨r, o, none⟩) K = K r o := id rfl
@[simp] theorem need_true (K : Option α) : need true K = K := id rfl
@[simp] theorem br_true (x y : Option α) : br true x y = x := id rfl
@[simp] theorem br_false (x y : Option α) : br false x y = y := id rfl
@[simp] theorem bnd_some (v : Value) (σ : St) (K : Value → St → Option α) : bnd (some (v, σ)) K = K v σ := id rfl
@[simp] theorem chk_same (v : Value) (K : Option α) : chk v v K = K := by simp [chk]
end
theorem need_of {α : Type} {b : Bool} (h : b = true) (K : Option α) : need b K = K := by rw [h]; rfl

@[simp] theorem get_new_same (σ : St) (b : Blk) : (σ.new b).get σ.next = some b := by simp [St.new]
theorem get_new {σ : St} {b : Blk} {k : Nat} (h : k ≠ σ.next) : (σ.new b).get k = σ.get k := by simp [St.new, h]
@[simp] theorem next_new (σ : St) (b : Blk) : (σ.new b).next = σ.next + 1 := rfl
@[simp] theorem get_set_same (σ : St) (r : Nat) (b : Blk) : (σ.set r b).get r = some b := by simp [St.set]
theorem get_set {σ : St} {b : Blk} {k r : Nat} (h : k ≠ r) : (σ.set r b).get k = σ.get k := by simp [St.set, h]
@[simp] theorem next_set (σ : St) (r : Nat) (b : Blk) : (σ.set r b).next = σ.next := rfl
theorem get_del {σ : St} {k r : Nat} (h : k ≠ r) : (σ.del r).get k = σ.get k := by simp [St.del, h]
@[simp] theorem next_del (σ : St) (r : Nat) : (σ.del r).next = σ.next := rfl

theorem ld_own {σ : St} {r o : Nat} {vs : List Value} {e : TypeId} {v : Value} (K : Value → Res) (h : σ.get r = some (.own vs e)) (hv : vs[o]? = some v) : σ.ld r o K = K v := by
  simp [St.ld, St.cell, St.cells, h, Blk.cells, hv]
theorem ld_cells {σ : St} {r o : Nat} {vs : List Value} {v : Value} (K : Value → Res) (h : σ.cells r = some vs) (hv : vs[o]? = some v) : σ.ld r o K = K v := by
  simp [St.ld, St.cell, h, hv]
theorem lds_own {σ : St} {r o n : Nat} {vs : List Value} {e : TypeId} (K : List Value → Res) (h : σ.get r = some (.own vs e)) (hn : o + n ≤ vs.length) : σ.lds r o n K = K ((vs.drop o).take n) := by
  simp [St.lds, St.cells, h, Blk.cells, hn]
theorem lds_cells {σ : St} {r o n : Nat} {vs : List Value} (K : List Value → Res) (h : σ.cells r = some vs) (hn : o + n ≤ vs.length) : σ.lds r o n K = K ((vs.drop o).take n) := by
  simp [St.lds, h, hn]
theorem put_own {σ : St} {r o : Nat} {vs new : List Value} {e : TypeId} (K : St → Res) (h : σ.get r = some (.own vs e)) (hn : o + new.length ≤ vs.length) (h1 : new.all oneCell = true) : σ.put r o new K = K (σ.set r (.own (over vs o new) e)) := by
  simp only [St.put, h, hn, h1, and_self, if_true]

theorem wrap_in (n : Int) (h0 : -9223372036854775808 ≤ n) (h1 : n ≤ 9223372036854775807) : IntKind.wrap .i64 n = n := by
  rw [IntKind.wrap_i64]; omega

/-! ### Rows that are appended to -/
/-- A slice (address, length, cells an element) is the list l: it is nil, or a block of the call's own (qs: its number) holds it from its first cell on (what lies behind it is nobody's). -/
structure Row {α : Type} (cells : α → List Value) (sz : Nat) (e : TypeId) (σ : St) (ad : Option Addr) (z : Nat) (qs : List Nat) (l : List α) : Prop where
  lt : ∀ q ∈ qs, q < σ.next
  is : (ad = none ∧ l = [] ∧ z = 0 ∧ qs = []) ∨ ∃ q rest, qs = [q] ∧ ad = some ⟨q, 0, none⟩ ∧ z = sz ∧ σ.get q = some (.own (l.flatMap cells ++ rest) e)

/-- Nothing else has turned. -/
def Same (σ σ' : St) (S : List Nat) : Prop := σ.next ≤ σ'.next ∧ ∀ k, k < σ.next → k ∉ S → σ'.get k = σ.get k
theorem Same.refl (σ : St) (S : List Nat) : Same σ σ S := ⟨Nat.le_refl _, fun _ _ _ => rfl⟩
theorem Same.trans {a b c : St} {S : List Nat} (h : Same a b S) (k : Same b c S) : Same a c S :=
  ⟨Nat.le_trans h.1 k.1, fun i hi hS => by rw [k.2 i (by have := h.1; omega) hS, h.2 i hi hS]⟩
theorem Same.mono {a b : St} {S T : List Nat} (h : Same a b S) (hs : ∀ k ∈ S, k ∈ T) : Same a b T := ⟨h.1, fun k hk hT => h.2 k hk (fun hS => hT (hs k hS))⟩
theorem Same.new (σ : St) (b : Blk) (S : List Nat) : Same σ (σ.new b) S := ⟨by simp, fun k hk _ => get_new (by omega)⟩
/-- What lies ahead of what was new may be forgotten. -/
theorem Same.fresh {a b c : St} {S T : List Nat} (h : Same a b S) (k : Same b c T) (hT : ∀ x ∈ T, x ∈ S ∨ a.next ≤ x) : Same a c S :=
  ⟨Nat.le_trans h.1 k.1, fun i hi hS => by rw [k.2 i (by have := h.1; omega) (fun hx => by rcases hT i hx with h | h; exact hS h; omega), h.2 i hi hS]⟩

theorem flat_length {α : Type} (cells : α → List Value) (sz : Nat) (hc : ∀ a, (cells a).length = sz) : ∀ l : List α, (l.flatMap cells).length = l.length * sz
  | [] => by simp
  | a :: l => by simp [flat_length cells sz hc l, hc, Nat.add_mul, Nat.add_comm]
theorem flat_one {α : Type} (cells : α → List Value) (hc : ∀ a, (cells a).all oneCell = true) : ∀ l : List α, (l.flatMap cells).all oneCell = true
  | [] => rfl
  | a :: l => by rw [List.flatMap_cons, List.all_append, hc a, flat_one cells hc l]; rfl
theorem flat_get {α : Type} (cells : α → List Value) (sz : Nat) (hc : ∀ a, (cells a).length = sz) : ∀ (l : List α) (i j : Nat) (a : α), l[i]? = some a → j < sz → (l.flatMap cells)[i * sz + j]? = (cells a)[j]?
  | [], i, j, a, h, _ => by simp at h
  | x :: l, 0, j, a, h, hj => by
    simp at h; subst h
    rw [List.flatMap_cons, Nat.zero_mul, Nat.zero_add, List.getElem?_append_left (by rw [hc]; exact hj)]
  | x :: l, i + 1, j, a, h, hj => by
    rw [List.flatMap_cons, Nat.add_mul, Nat.one_mul, List.getElem?_append_right (by rw [hc]; omega), hc, show i * sz + sz + j - sz = i * sz + j by omega]
    exact flat_get cells sz hc l i j a (by simpa using h) hj

theorem grow_row {α : Type} {cells : α → List Value} {sz by_ : Nat} {e : TypeId} {σ : St} {ad : Option Addr} {z : Nat} {qs : List Nat} {l : List α} (hr : Row cells sz e σ ad z qs l) (hc : ∀ a, (cells a).length = sz) (h1 : ∀ a, (cells a).all oneCell = true) (hsz : 0 < sz)
    (news : List α) (vs : List Value) (hvs : vs = news.flatMap cells) (m : Nat) (hm : m = news.length) (hby : (l.length + m) * by_ ≤ roomTop) (htop : l.length + m ≤ sizeTop) :
    ∃ ad' z' qs' σ', (∀ K, grow e sz by_ ad l.length z m vs σ K = K ad' (l.length + m) z' σ') ∧ Row cells sz e σ' ad' z' qs' (l ++ news) ∧ Same σ σ' qs ∧ (∀ q ∈ qs', q ∈ qs ∨ σ.next ≤ q) := by
  subst hvs
  by_cases h0 : m = 0
  · have hn : news = [] := List.eq_nil_of_length_eq_zero (by omega)
    subst hn
    exact ⟨ad, z, qs, σ, fun K => by simp [grow, h0], by simpa using hr, Same.refl _ _, fun q hq => .inl hq⟩
  · have hcond : (l.length + m) * by_ ≤ roomTop ∧ l.length + m ≤ sizeTop ∧ 0 < sz ∧ (news.flatMap cells).all oneCell = true := ⟨hby, htop, hsz, flat_one cells h1 news⟩
    rcases hr.is with ⟨e1, e2, e3, e4⟩ | ⟨q, rest, e4, e1, e2, e3⟩
    · subst e1; subst e2
      refine ⟨some ⟨σ.next, 0, none⟩, sz, [σ.next], σ.new (.own (news.flatMap cells) e), fun K => ?_, ⟨by simp, .inr ⟨_, [], rfl, rfl, rfl, by simp⟩⟩, Same.new _ _ _, fun q hq => .inr (by simp at hq; omega)⟩
      simp only [grow, h0, if_false, hcond, if_true, and_self]
      simp
    · subst e1; subst e2; subst e4
      have hlen := flat_length cells _ hc l
      refine ⟨some ⟨σ.next, 0, none⟩, _, [σ.next], (σ.del q).new (.own ((l ++ news).flatMap cells) e), fun K => ?_, ⟨by simp, .inr ⟨_, [], rfl, rfl, rfl, ?_⟩⟩, ⟨by simp, fun k hk hS => ?_⟩, fun q hq => .inr (by simp at hq; omega)⟩
      · simp only [grow, h0, if_false, hcond, if_true, and_self, e3, Nat.zero_add, List.length_append, hlen, Nat.le_add_right, List.drop_zero, List.flatMap_append]
        rw [← hlen, List.take_left]
      · have := get_new_same (σ.del q) (.own ((l ++ news).flatMap cells) e)
        simpa using this
      · simp only [List.mem_singleton] at hS
        rw [get_new (by simp; omega), get_del hS]

theorem Row.same {α : Type} {cells : α → List Value} {sz : Nat} {e : TypeId} {σ σ' : St} {ad : Option Addr} {z : Nat} {qs : List Nat} {l : List α} {S : List Nat} (h : Row cells sz e σ ad z qs l) (hs : Same σ σ' S) (hq : ∀ q ∈ qs, q ∉ S) : Row cells sz e σ' ad z qs l :=
  ⟨fun q hq => by have := hs.1; have := h.lt q hq; omega, h.is.imp id (fun ⟨q, rest, e1, a, b, c⟩ => ⟨q, rest, e1, a, b, by rw [hs.2 q (h.lt q (by rw [e1]; simp)) (hq q (by rw [e1]; simp))]; exact c⟩)⟩
/-- All of it, or its first ones, read. -/
theorem Row.read {α : Type} {cells : α → List Value} {sz : Nat} {e : TypeId} {σ : St} {ad : Option Addr} {z : Nat} {qs : List Nat} {l : List α} (h : Row cells sz e σ ad z qs l) (hc : ∀ a, (cells a).length = sz) (n : Nat) (hn : n = l.length * sz) (K : List Value → Res) : σ.row ad n K = K (l.flatMap cells) := by
  subst hn
  rcases h.is with ⟨_, e2, _⟩ | ⟨q, rest, _, e1, _, e3⟩
  · subst e2; simp [St.row]
  · subst e1
    have hlen := flat_length cells sz hc l
    unfold St.row
    split
    · rename_i h0
      rw [h0] at hlen
      rw [List.eq_nil_of_length_eq_zero hlen]
    · rw [adr_some, lds_own _ e3 (by rw [List.length_append]; omega), List.drop_zero, ← hlen, List.take_left]
/-- One element's cell, read. -/
theorem Row.at {α : Type} {cells : α → List Value} {sz : Nat} {e : TypeId} {σ : St} {ad : Option Addr} {z : Nat} {qs : List Nat} {l : List α} (h : Row cells sz e σ ad z qs l) (hc : ∀ a, (cells a).length = sz) {i : Nat} {a : α} (hi : l[i]? = some a) :
    ∃ q, ad = some ⟨q, 0, none⟩ ∧ ∀ (j : Nat) (v : Value) (o : Nat), j < sz → (cells a)[j]? = some v → o = i * sz + j → ∀ K : Value → Res, σ.ld q o K = K v := by
  rcases h.is with ⟨_, e2, _⟩ | ⟨q, rest, _, e1, _, e3⟩
  · subst e2; simp at hi
  · exact ⟨q, e1, fun j v o hj hv ho K => ld_own K e3 (by
      have h1 := flat_get cells sz hc l i j a hi hj
      rw [hv] at h1
      rw [ho, List.getElem?_append_left (List.getElem?_eq_some_iff.1 h1).1]; exact h1)⟩

end Go.AM
