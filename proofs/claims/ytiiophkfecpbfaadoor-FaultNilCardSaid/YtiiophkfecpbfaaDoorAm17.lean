/-
  THE LAST STEP OF A LAW: from what the abstract machine answers to what the call does; what an argument holds.
-/
import Derived.Test.YtiiophkfecpbfaaDoorAm16
set_option linter.unusedVariables false
set_option linter.unusedSimpArgs false
set_option linter.unusedSectionVars false
namespace Go.AM
open Go.RowKit Go.ChangeShapes

/-- What lay below B lies there as it did. -/
def Kept' (B : Nat) (σ0 σ : St) : Prop := B ≤ σ.next ∧ ∀ k, k < B → σ.get k = σ0.get k
theorem Kept'.step {B : Nat} {σ0 σ σ' : St} {S : List Nat} (h : Kept' B σ0 σ) (hs : Same σ σ' S) (hS : ∀ x ∈ S, B ≤ x) : Kept' B σ0 σ' :=
  ⟨by have := h.1; have := hs.1; omega, fun k hk => by rw [hs.2 k (by have := h.1; omega) (fun hx => by have := hS k hx; omega), h.2 k hk]⟩
/-- Of an argument: a list of what the elements say, in memory that is only read. -/
def Holds {α : Type} (σ : St) (sz : Nat) (cells : α → List Value) (ad : Option Addr) (l : List α) : Prop :=
  l ≠ [] → ∃ q vs, ad = some ⟨q, 0, none⟩ ∧ σ.cells q = some vs ∧ q < σ.next ∧ l.length * sz ≤ vs.length ∧ ∀ (i : Nat) (a : α), l[i]? = some a → ∀ j v, j < sz → (cells a)[j]? = some v → vs[i * sz + j]? = some v
theorem Holds.ld {α : Type} {σ0 σ : St} {sz : Nat} {cells : α → List Value} {ad : Option Addr} {l : List α} (h : Holds σ0 sz cells ad l) (hk : Kept' σ0.next σ0 σ) {i : Nat} {a : α} (hi : l[i]? = some a) :
    ∃ q, ad = some ⟨q, 0, none⟩ ∧ ∀ (j : Nat) (v : Value) (o : Nat), j < sz → (cells a)[j]? = some v → o = i * sz + j → ∀ K : Value → Res, σ.ld q o K = K v := by
  obtain ⟨q, vs, e, hc, hq, _, hg⟩ := h (fun h0 => by rw [h0] at hi; simp at hi)
  refine ⟨q, e, fun j v o hj hv ho K => ?_⟩
  refine ld_cells K (vs := vs) ?_ (by rw [ho]; exact hg i a hi j v hj hv)
  unfold St.cells at hc ⊢
  rw [hk.2 q hq]; exact hc

section
variable {P : Program}

theorem stOf_lt {ads : List Addr} {W : World} {q : Nat} {vs : List Value} (h : (stOf ads W).cells q = some vs) : q < (stOf ads W).next := by
  simp only [St.cells, stOf] at h
  cases hq : ads[q]? with
  | none => rw [hq] at h; simp at h
  | some a => exact (List.getElem?_eq_some_iff.1 hq).1

/-- An argument's slice, as a list. -/
theorem Img.holds {α : Type} {ads : List Addr} {W : World} {t e : TypeId} {v : Value} {sz : Nat} (hu : P.underlying t = some (.slice e)) (h : Img P (stOf ads W) t [v]) (cells : α → List Value) (dec : ∀ row, Img P (stOf ads W) e row → ∃ a, row = cells a) (hz : ∀ a, (cells a).length = sz) (hc : P.cellsOf e = sz) :
    ∃ (l : List α) (ad : Option Addr), v = .slice ad l.length 0 ∧ l.length ≤ maxLen ∧ Holds (stOf ads W) sz cells ad l := by
  obtain ⟨l, ad, h1, h2, h3⟩ := h.list hu cells dec (fun a => by rw [hz, hc])
  refine ⟨l, ad, h1, h2, fun hne => ?_⟩
  obtain ⟨q, vs, g1, g2, g3, g4⟩ := h3 hne
  rw [hc] at g3 g4
  refine ⟨q, vs, g1, g2, stOf_lt g2, g3, fun i a hi j w hj hw => ?_⟩
  have h5 := g4 i a hi
  have h6 : (((vs.drop (i * sz)).take sz))[j]? = some w := by rw [h5]; exact hw
  rw [List.getElem?_take, if_pos hj, List.getElem?_drop] at h6
  exact h6

theorem wf_u8 {n : Int} (h : (Lit.int .u8 n).wf = true) : 0 ≤ n ∧ n ≤ 255 := by simpa [Lit.wf, IntKind.min, IntKind.max, IntKind.bits, IntKind.signed] using h
theorem wf_u16 {n : Int} (h : (Lit.int .u16 n).wf = true) : 0 ≤ n ∧ n ≤ 65535 := by simpa [Lit.wf, IntKind.min, IntKind.max, IntKind.bits, IntKind.signed] using h
theorem wf_u64 {n : Int} (h : (Lit.int .u64 n).wf = true) : 0 ≤ n ∧ n ≤ 18446744073709551615 := by simpa [Lit.wf, IntKind.min, IntKind.max, IntKind.bits, IntKind.signed] using h
theorem wf_i64 {n : Int} (h : (Lit.int .i64 n).wf = true) : -9223372036854775808 ≤ n ∧ n ≤ 9223372036854775807 := by simpa [Lit.wf, IntKind.min, IntKind.max, IntKind.bits, IntKind.signed] using h

theorem Img.int_inv {σ : St} {t : TypeId} {k : IntKind} {row : List Value} (hu : P.underlying t = some (.int k)) (h : Img P σ t row) : ∃ n, row = [.int k n] ∧ (Lit.int k n).wf = true := by
  cases h with
  | bool b h => rw [hu] at h; cases h
  | int n h hw => rw [hu] at h; cases h; exact ⟨n, rfl, hw⟩
  | str s h => rw [hu] at h; cases h
  | nil h => rw [hu] at h; cases h
  | slice h => rw [hu] at h; cases h
  | struct h => rw [hu] at h; cases h
  | array h => rw [hu] at h; cases h
theorem Img.bool_inv {σ : St} {t : TypeId} {row : List Value} (hu : P.underlying t = some .bool) (h : Img P σ t row) : ∃ b, row = [.bool b] := by
  cases h with
  | bool b h => exact ⟨b, rfl⟩
  | int n h hw => rw [hu] at h; cases h
  | str s h => rw [hu] at h; cases h
  | nil h => rw [hu] at h; cases h
  | slice h => rw [hu] at h; cases h
  | struct h => rw [hu] at h; cases h
  | array h => rw [hu] at h; cases h
theorem Img.str_inv {σ : St} {t : TypeId} {row : List Value} (hu : P.underlying t = some .string) (h : Img P σ t row) : ∃ s, row = [.string s] ∧ s.size ≤ maxLen := by
  cases h with
  | bool b h => rw [hu] at h; cases h
  | int n h hw => rw [hu] at h; cases h
  | str s h hs => exact ⟨s, rfl, hs⟩
  | nil h => rw [hu] at h; cases h
  | slice h => rw [hu] at h; cases h
  | struct h => rw [hu] at h; cases h
  | array h => rw [hu] at h; cases h
theorem Img.struct_inv {σ : St} {t : TypeId} {fs : Array Field} {row : List Value} (hu : P.underlying t = some (.struct fs)) (h : Img P σ t row) : row.length = P.cellsOf t ∧ ∀ f ∈ fs.toList, Img P σ f.type ((row.drop f.offset).take (P.cellsOf f.type)) := by
  cases h with
  | bool b h => rw [hu] at h; cases h
  | int n h hw => rw [hu] at h; cases h
  | str s h => rw [hu] at h; cases h
  | nil h => rw [hu] at h; cases h
  | slice h => rw [hu] at h; cases h
  | struct h hl hf => rw [hu] at h; cases h; exact ⟨hl, hf⟩
  | array h => rw [hu] at h; cases h
theorem Img.array_inv {σ : St} {t e : TypeId} {n : Nat} {row : List Value} (hu : P.underlying t = some (.array n e)) (h : Img P σ t row) : row.length = P.cellsOf t ∧ ∀ i, i < n → Img P σ e ((row.drop (i * P.cellsOf e)).take (P.cellsOf e)) := by
  cases h with
  | bool b h => rw [hu] at h; cases h
  | int n h hw => rw [hu] at h; cases h
  | str s h => rw [hu] at h; cases h
  | nil h => rw [hu] at h; cases h
  | slice h => rw [hu] at h; cases h
  | struct h => rw [hu] at h; cases h
  | array h hl hf => rw [hu] at h; cases h; exact ⟨hl, hf⟩

/-- The call, out of what the abstract machine answers. -/
theorem ends [Laid] {env : FuncId → Def} (henv : EnvOK P env) {L n : Nat} {f : FuncId} {ads : List Addr} {W : World} {args args' : List Value} {σ' : St} (h : evCall P env L n f args (stOf ads W) = some (.bool true, σ')) (hl : LRel (mpOf ads) args args') (hI : Laid.I W := by trivial) :
    Calls P f args'.toArray W fun e W' => e = .returned (.bool true) ∧ Below W.heap.size W W' := by
  refine Calls.mono ((call_sound henv n f args (stOf ads W) (.bool true) σ' h).2 (Base.of W) (mpOf ads) W args' hl (rel_stOf ads W hI)) (fun e W' he => ?_)
  cases e with
  | returned v' =>
    obtain ⟨μ', _, h2, h3⟩ := he
    rw [h2.bool_inv]
    exact ⟨rfl, h3.below⟩
  | panicked ch => exact he.elim
  | outgrown => exact he.elim
end

end Go.AM
