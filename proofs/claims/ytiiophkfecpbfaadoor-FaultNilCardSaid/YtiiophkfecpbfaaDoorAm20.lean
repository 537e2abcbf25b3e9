/-
  PLAIN WORDS (more): what a call leaves of a thing: the thing's blocks before and after; blocks that are read and written whole.
-/
import Derived.Test.YtiiophkfecpbfaaDoorAm19
set_option linter.unusedVariables false
set_option linter.unusedSimpArgs false
set_option linter.unusedSectionVars false
namespace Go.AM

theorem row_all {σ : St} {b n : Nat} {vs : List Value} {e : TypeId} (h : σ.get b = some (.own vs e)) (hn : n = vs.length) (h0 : n ≠ 0) (K : List Value → Res) : σ.row (some ⟨b, 0, none⟩) n K = K vs := by
  simp only [St.row, adr_some]
  rw [if_neg h0, lds_own _ h (by omega), List.drop_zero, hn, List.take_length]
theorem lds_all {σ : St} {b n : Nat} {vs : List Value} {e : TypeId} (h : σ.get b = some (.own vs e)) (hn : n = vs.length) (K : List Value → Res) : σ.lds b 0 n K = K vs := by
  rw [lds_own _ h (by omega), List.drop_zero, hn, List.take_length]
theorem put_all {σ : St} {b : Nat} {vs ws : List Value} {e : TypeId} (h : σ.get b = some (.own vs e)) (hn : ws.length = vs.length) (h1 : ws.all oneCell = true) (K : St → Res) : σ.put b 0 ws K = K (σ.set b (.own ws e)) := by
  rw [put_own _ h (by omega) h1]
  simp [over, hn]

/-- A thing's blocks before, and after: nothing else has turned; what is new lay nowhere before. -/
structure Turn (σ σ' : St) (F F' : List Nat) : Prop where
  same : Same σ σ' F
  sub : ∀ q ∈ F', (q ∈ F ∨ σ.next ≤ q) ∧ q < σ'.next
theorem Turn.idle {σ σ' : St} {F : List Nat} (hs : Same σ σ' []) (hF : ∀ q ∈ F, q < σ.next) : Turn σ σ' F F :=
  ⟨hs.mono (by simp), fun q hq => ⟨.inl hq, by have := hF q hq; have := hs.1; omega⟩⟩
theorem Turn.trans {a b c : St} {F G H : List Nat} (h : Turn a b F G) (k : Turn b c G H) : Turn a c F H :=
  ⟨h.same.fresh k.same (fun x hx => (h.sub x hx).1), fun q hq => by
    obtain ⟨h1, h2⟩ := k.sub q hq
    refine ⟨?_, h2⟩
    rcases h1 with h1 | h1
    · exact (h.sub q h1).1
    · exact .inr (by have := h.same.1; omega)⟩
theorem Turn.after {a b c : St} {F G : List Nat} (h : Turn a b F G) (k : Same b c []) : Turn a c F G :=
  h.trans (.idle k (fun q hq => (h.sub q hq).2))
theorem Turn.before {a b c : St} {F G : List Nat} (h : Same a b []) (k : Turn b c F G) (hF : ∀ q ∈ F, q < a.next) : Turn a c F G :=
  (Turn.idle h hF).trans k
theorem Owns.turned {σ0 σ σ' : St} {Fs : List (List Nat)} {F F' : List Nat} (h : Owns σ0 σ Fs) (i : Nat) (hi : Fs[i]? = some F) (ht : Turn σ σ' F F') : Owns σ0 σ' (Fs.set i F') := h.turn i hi ht.same ht.sub

/-- What an answer, and the state behind it, are. -/
def Ends (Q : Value → St → Prop) (r : Res) : Prop := ∃ v σ, r = some (v, σ) ∧ Q v σ
theorem Ends.br {Q : Value → St → Prop} {b : Bool} {x y : Res} (hx : b = true → Ends Q x) (hy : b = false → Ends Q y) : Ends Q (br b x y) := by
  cases b
  · exact hy rfl
  · exact hx rfl
theorem Ends.leaf {Q : Value → St → Prop} {v : Value} {σ : St} (h : Q v σ) : Ends Q (some (v, σ)) := ⟨v, σ, rfl, h⟩

/-- A cell of a block of the call's own, read. -/
theorem ld_at {σ : St} {r : Nat} {vs : List Value} {e : TypeId} (h : σ.get r = some (.own vs e)) (o : Nat) (v : Value) (hv : vs[o]? = some v) (K : Value → Res) : σ.ld r o K = K v := ld_own K h hv
theorem put_at {σ : St} {r : Nat} {vs : List Value} {e : TypeId} (h : σ.get r = some (.own vs e)) (o : Nat) (v : Value) (ho : o < vs.length) (h1 : oneCell v = true) (K : St → Res) : σ.put r o [v] K = K (σ.set r (.own (vs.set o v) e)) := by
  rw [put_own _ h (by simp; omega) (by simp [h1])]
  congr 3
  unfold over
  rw [List.set_eq_take_append_cons_drop, if_pos ho]
  simp
theorem put_int {σ : St} {r : Nat} {vs : List Value} {e : TypeId} (h : σ.get r = some (.own vs e)) (o : Nat) (k : IntKind) (n : Int) (ho : o < vs.length) (K : St → Res) : σ.put r o [.int k n] K = K (σ.set r (.own (vs.set o (.int k n)) e)) := put_at h o _ ho rfl K
theorem put_sl {σ : St} {r : Nat} {vs : List Value} {e : TypeId} (h : σ.get r = some (.own vs e)) (o : Nat) (a : Option Addr) (n z : Nat) (ho : o < vs.length) (K : St → Res) : σ.put r o [.slice a n z] K = K (σ.set r (.own (vs.set o (.slice a n z)) e)) := put_at h o _ ho rfl K
theorem put_bool {σ : St} {r : Nat} {vs : List Value} {e : TypeId} (h : σ.get r = some (.own vs e)) (o : Nat) (b : Bool) (ho : o < vs.length) (K : St → Res) : σ.put r o [.bool b] K = K (σ.set r (.own (vs.set o (.bool b)) e)) := put_at h o _ ho rfl K
theorem Row.take {α : Type} {cells : α → List Value} {sz : Nat} {e : TypeId} {σ : St} {ad : Option Addr} {z : Nat} {qs : List Nat} {l : List α} (h : Row cells sz e σ ad z qs l) (n : Nat) : Row cells sz e σ ad z qs (l.take n) := by
  refine ⟨h.lt, ?_⟩
  rcases h.is with ⟨e1, e2, e3, e4⟩ | ⟨q, rest, e1, e2, e3, e4⟩
  · exact .inl ⟨e1, by rw [e2]; simp, e3, e4⟩
  · refine .inr ⟨q, (l.drop n).flatMap cells ++ rest, e1, e2, e3, ?_⟩
    rw [← List.append_assoc, ← List.flatMap_append, List.take_append_drop]; exact e4
theorem Row.sub0 {α : Type} {cells : α → List Value} {sz : Nat} {e : TypeId} {σ : St} {ad : Option Addr} {z : Nat} {qs : List Nat} {l : List α} (h : Row cells sz e σ ad z qs l) : subA ad 0 = ad := by
  rcases h.is with ⟨e1, _⟩ | ⟨q, rest, _, e2, _⟩
  · rw [e1]; rfl
  · rw [e2]; rfl
theorem Row.z {α : Type} {cells : α → List Value} {sz : Nat} {e : TypeId} {σ : St} {ad : Option Addr} {z : Nat} {qs : List Nat} {l : List α} (h : Row cells sz e σ ad z qs l) : z = 0 ∨ z = sz := by
  rcases h.is with ⟨_, _, e, _⟩ | ⟨_, _, _, _, e, _⟩
  · exact .inl e
  · exact .inr e
theorem Row.nil {α : Type} (cells : α → List Value) (sz : Nat) (e : TypeId) (σ : St) : Row cells sz e σ none 0 [] [] := ⟨by simp, .inl ⟨rfl, rfl, rfl, rfl⟩⟩
theorem Same.set (σ : St) (r : Nat) (b : Blk) : Same σ (σ.set r b) [r] := ⟨by simp, fun k _ hS => get_set (by simpa using hS)⟩

/-- Some cells of an argument's element, read. -/
theorem Holds.lds {α : Type} {σ0 σ : St} {sz : Nat} {cells : α → List Value} {ad : Option Addr} {l : List α} (h : Holds σ0 sz cells ad l) (hk : Kept' σ0.next σ0 σ) (hc : ∀ a, (cells a).length = sz) {i : Nat} {a : α} (hi : l[i]? = some a) :
    ∃ q, ad = some ⟨q, 0, none⟩ ∧ ∀ (off n o : Nat), off + n ≤ sz → o = i * sz + off → ∀ K : List Value → Res, σ.lds q o n K = K (((cells a).drop off).take n) := by
  obtain ⟨hil, _⟩ := List.getElem?_eq_some_iff.1 hi
  obtain ⟨q, vs, e, hcs, hq, hv, hg⟩ := h (List.ne_nil_of_length_pos (by omega))
  refine ⟨q, e, fun off n o hn ho K => ?_⟩
  have hcs' : σ.cells q = some vs := by
    unfold St.cells at hcs ⊢
    rw [hk.2 q hq]; exact hcs
  have hm : (i + 1) * sz ≤ l.length * sz := Nat.mul_le_mul_right _ hil
  rw [Nat.add_mul] at hm
  rw [lds_cells K hcs' (by omega)]
  congr 1
  apply List.ext_getElem?
  intro j
  rw [List.getElem?_take, List.getElem?_take]
  by_cases hj : j < n
  · rw [if_pos hj, if_pos hj, List.getElem?_drop, List.getElem?_drop]
    obtain ⟨v, hv'⟩ : ∃ v, (cells a)[off + j]? = some v := ⟨_, List.getElem?_eq_getElem (by rw [hc]; omega)⟩
    rw [hv', ho, Nat.add_assoc]
    exact hg i a hi (off + j) v (by omega) hv'
  · rw [if_neg hj, if_neg hj]

/-- A new block, written at once. -/
theorem tmp_put (σ : St) (vs ws : List Value) (e : TypeId) (hn : ws.length = vs.length) (h1 : ws.all oneCell = true) :
    ∃ σ', (∀ K : St → Res, (σ.new (.own vs e)).put σ.next 0 ws K = K σ') ∧ σ'.get σ.next = some (.own ws e) ∧ Same σ σ' [] ∧ σ'.next = σ.next + 1 :=
  ⟨_, fun K => put_all (get_new_same σ _) hn h1 K, get_set_same _ _ _, ⟨by simp, fun k hk _ => by rw [get_set (by omega), get_new (by omega)]⟩, rfl⟩
theorem toList2 (x y : Value) : (#[x, y] : Array Value).toList = [x, y] := rfl
theorem toList0 : (#[] : Array Value).toList = [] := rfl
theorem not_true : (!true) = false := rfl
theorem not_false : (!false) = true := rfl

end Go.AM
