/-
  THE ABSTRACT MACHINE AND THE REAL ONE: how values, frames and stores stand to each other; what a new block, a store into a block, an append leave of that.
-/
import Derived.Test.YtiiophkfecpbfaaDoorAm0
import Derived.Laws.AppendOwn
import Derived.Laws.MakeOwn
import Derived.Deep.Draws
set_option linter.unusedVariables false
set_option linter.unusedSimpArgs false
set_option linter.unusedSectionVars false
namespace Go.AM
open Go.RowKit

/-- Where a block of the store lies: the real block, from which cell on, how many cells the real block has. -/
structure Pl where
  b : Nat
  s : Nat
  n : Nat
abbrev Mp := Nat → Option Pl
def Mp.le (μ μ' : Mp) : Prop := ∀ r p, μ r = some p → μ' r = some p
theorem Mp.le.refl (μ : Mp) : μ.le μ := fun _ _ h => h
theorem Mp.le.trans {a b c : Mp} (h : a.le b) (k : b.le c) : a.le c := fun r p e => k r p (h r p e)
def Mp.put (μ : Mp) (r : Nat) (p : Pl) : Mp := fun k => if k = r then some p else μ k

inductive VRel (μ : Mp) : Value → Value → Prop
  | bool (b : Bool) : VRel μ (.bool b) (.bool b)
  | int (k : IntKind) (n : Int) : VRel μ (.int k n) (.int k n)
  | string (s : ByteArray) : VRel μ (.string s) (.string s)
  | ptr0 : VRel μ (.pointer none) (.pointer none)
  | ptr {r o : Nat} {p : Pl} (h : μ r = some p) : VRel μ (.pointer (some ⟨r, o, none⟩)) (.pointer (some ⟨p.b, p.s + o, none⟩))
  | sl0 : VRel μ (.slice none 0 0) (.slice none 0 0)
  | slw {r o o' n z c : Nat} {sp : Option Nat} {p : Pl} (h : μ r = some p) (hn : n ≤ c) (hc : c = 0 ∨ o' = p.s + o) (hz : z = 0 ∨ o' + c * z ≤ p.n) (hm : c ≤ maxLen) (hs : sp = none ∨ c = 0) :
      VRel μ (.slice (some ⟨r, o, none⟩) n z) (.slice (some ⟨p.b, o', sp⟩) n c)
  | nilIface : VRel μ .nilIface .nilIface
  | iface (t : TypeId) {v v' : Value} (h : VRel μ v v') : VRel μ (.iface t v) (.iface t v')
  | agg {A B : Array Value} (hs : A.toList.length = B.toList.length) (h : ∀ (i : Nat) (x y : Value), A.toList[i]? = some x → B.toList[i]? = some y → VRel μ x y) : VRel μ (.agg A) (.agg B)
  | tuple {A B : Array Value} (hs : A.toList.length = B.toList.length) (h : ∀ (i : Nat) (x y : Value), A.toList[i]? = some x → B.toList[i]? = some y → VRel μ x y) : VRel μ (.tuple A) (.tuple B)
  | nilFunc : VRel μ .nilFunc .nilFunc
  | func (f : Fn) {A B C D : Array Value} (hs : A.toList.length = B.toList.length) (h : ∀ (i : Nat) (x y : Value), A.toList[i]? = some x → B.toList[i]? = some y → VRel μ x y)
      (hs2 : C.toList.length = D.toList.length) (h2 : ∀ (i : Nat) (x y : Value), C.toList[i]? = some x → D.toList[i]? = some y → VRel μ x y) : VRel μ (.func f A C) (.func f B D)
  | map0 : VRel μ (.map none) (.map none)
  | map {r : Nat} {p : Pl} (h : μ r = some p) : VRel μ (.map (some r)) (.map (some p.b))

theorem VRel.mono {μ μ' : Mp} (hl : μ.le μ') {v v' : Value} (h : VRel μ v v') : VRel μ' v v' := by
  induction h with
  | bool b => exact .bool b
  | int k n => exact .int k n
  | string s => exact .string s
  | ptr0 => exact .ptr0
  | ptr h => exact .ptr (hl _ _ h)
  | sl0 => exact .sl0
  | slw h hn hc hz hm hs => exact .slw (hl _ _ h) hn hc hz hm hs
  | nilIface => exact .nilIface
  | iface t _ ih => exact .iface t ih
  | agg hs _ ih => exact .agg hs ih
  | tuple hs _ ih => exact .tuple hs ih
  | nilFunc => exact .nilFunc
  | func f hs _ hs2 _ ih ih2 => exact .func f hs ih hs2 ih2
  | map0 => exact .map0
  | map h => exact .map (hl _ _ h)

/-- Lists of values, one by one. -/
def LRel (μ : Mp) (l l' : List Value) : Prop := l.length = l'.length ∧ ∀ (i : Nat) (x y : Value), l[i]? = some x → l'[i]? = some y → VRel μ x y

theorem LRel.nil (μ : Mp) : LRel μ [] [] := ⟨rfl, fun i x y h => by simp at h⟩
theorem LRel.cons {μ : Mp} {x y : Value} {l l' : List Value} (h : VRel μ x y) (hl : LRel μ l l') : LRel μ (x :: l) (y :: l') := by
  refine ⟨by simp [hl.1], fun i u v hu hv => ?_⟩
  cases i with
  | zero => simp at hu hv; subst hu; subst hv; exact h
  | succ i => simp at hu hv; exact hl.2 i u v hu hv
theorem LRel.inv {μ : Mp} {x : Value} {l l' : List Value} (h : LRel μ (x :: l) l') : ∃ y m, l' = y :: m ∧ VRel μ x y ∧ LRel μ l m := by
  cases l' with
  | nil => have := h.1; simp at this
  | cons y m => exact ⟨y, m, rfl, h.2 0 x y rfl rfl, by have := h.1; simp at this; exact this, fun i u v hu hv => h.2 (i + 1) u v (by simpa using hu) (by simpa using hv)⟩
theorem LRel.inv_nil {μ : Mp} {l' : List Value} (h : LRel μ [] l') : l' = [] := by have := h.1; simp at this; exact List.eq_nil_of_length_eq_zero this.symm
theorem LRel.mono {μ μ' : Mp} (hl : μ.le μ') {l l' : List Value} (h : LRel μ l l') : LRel μ' l l' := ⟨h.1, fun i x y hx hy => (h.2 i x y hx hy).mono hl⟩
theorem LRel.append {μ : Mp} {a a' b b' : List Value} (h : LRel μ a a') (k : LRel μ b b') : LRel μ (a ++ b) (a' ++ b') := by
  refine ⟨by simp [h.1, k.1], fun i x y hx hy => ?_⟩
  by_cases hi : i < a.length
  · rw [List.getElem?_append_left hi] at hx
    rw [List.getElem?_append_left (by rw [← h.1]; exact hi)] at hy
    exact h.2 i x y hx hy
  · rw [List.getElem?_append_right (by omega)] at hx
    rw [List.getElem?_append_right (by rw [← h.1]; omega)] at hy
    rw [← h.1] at hy
    exact k.2 _ x y hx hy
theorem LRel.take {μ : Mp} {a a' : List Value} (h : LRel μ a a') (n : Nat) : LRel μ (a.take n) (a'.take n) := by
  refine ⟨by simp [h.1], fun i x y hx hy => ?_⟩
  rw [List.getElem?_take] at hx hy
  split at hx
  · rename_i hi; rw [if_pos hi] at hy; exact h.2 i x y hx hy
  · cases hx
theorem LRel.drop {μ : Mp} {a a' : List Value} (h : LRel μ a a') (n : Nat) : LRel μ (a.drop n) (a'.drop n) := by
  refine ⟨by simp [h.1], fun i x y hx hy => ?_⟩
  rw [List.getElem?_drop] at hx hy
  exact h.2 _ x y hx hy
/-- One side is enough: the other has a value at the same place. -/
theorem LRel.get {μ : Mp} {a a' : List Value} (h : LRel μ a a') {i : Nat} {x : Value} (hx : a[i]? = some x) : ∃ y, a'[i]? = some y ∧ VRel μ x y := by
  have hi : i < a.length := (List.getElem?_eq_some_iff.1 hx).1
  have hi' : i < a'.length := by rw [← h.1]; exact hi
  have hy : a'[i]? = some a'[i] := List.getElem?_eq_getElem hi'
  exact ⟨_, hy, h.2 i x _ hx hy⟩
theorem LRel.of {μ : Mp} {a a' : List Value} (hl : a.length = a'.length) (h : ∀ (i : Nat) (x : Value), a[i]? = some x → ∃ y, a'[i]? = some y ∧ VRel μ x y) : LRel μ a a' :=
  ⟨hl, fun i x y hx hy => by obtain ⟨y', hy', hr⟩ := h i x hx; rw [hy] at hy'; cases hy'; exact hr⟩
theorem LRel.agg {μ : Mp} {A B : Array Value} (h : LRel μ A.toList B.toList) : VRel μ (.agg A) (.agg B) := .agg h.1 h.2
theorem LRel.tuple {μ : Mp} {A B : Array Value} (h : LRel μ A.toList B.toList) : VRel μ (.tuple A) (.tuple B) := .tuple h.1 h.2
theorem VRel.agg_inv {μ : Mp} {A : Array Value} {v : Value} (h : VRel μ (.agg A) v) : ∃ B, v = .agg B ∧ LRel μ A.toList B.toList := by
  cases h with | agg hs h => exact ⟨_, rfl, hs, h⟩
theorem VRel.tuple_inv {μ : Mp} {A : Array Value} {v : Value} (h : VRel μ (.tuple A) v) : ∃ B, v = .tuple B ∧ LRel μ A.toList B.toList := by
  cases h with | tuple hs h => exact ⟨_, rfl, hs, h⟩
theorem VRel.func_inv {μ : Mp} {f : Fn} {A C : Array Value} {v : Value} (h : VRel μ (.func f A C) v) : ∃ B D, v = .func f B D ∧ LRel μ A.toList B.toList ∧ LRel μ C.toList D.toList := by
  cases h with | func _ hs h hs2 h2 => exact ⟨_, _, rfl, ⟨hs, h⟩, hs2, h2⟩
theorem VRel.undef (μ : Mp) : VRel μ undef undef := .tuple rfl fun i x y h => by simp at h

theorem VRel.int_inv {μ : Mp} {k : IntKind} {n : Int} {v : Value} (h : VRel μ (.int k n) v) : v = .int k n := by cases h; rfl
theorem VRel.bool_inv {μ : Mp} {b : Bool} {v : Value} (h : VRel μ (.bool b) v) : v = .bool b := by cases h; rfl
theorem VRel.string_inv {μ : Mp} {s : ByteArray} {v : Value} (h : VRel μ (.string s) v) : v = .string s := by cases h; rfl
theorem VRel.ptr_inv {μ : Mp} {r o : Nat} {v : Value} (h : VRel μ (.pointer (some ⟨r, o, none⟩)) v) : ∃ p, μ r = some p ∧ v = .pointer (some ⟨p.b, p.s + o, none⟩) := by
  cases h with | ptr h => exact ⟨_, h, rfl⟩
theorem VRel.ptr0_inv {μ : Mp} {v : Value} (h : VRel μ (.pointer none) v) : v = .pointer none := by cases h; rfl
theorem VRel.sl {μ : Mp} {r o o' n z c : Nat} {p : Pl} (h : μ r = some p) (hn : n ≤ c) (hc : c = 0 ∨ o' = p.s + o) (hz : z = 0 ∨ o' + c * z ≤ p.n) (hm : c ≤ maxLen) :
    VRel μ (.slice (some ⟨r, o, none⟩) n z) (.slice (some ⟨p.b, o', none⟩) n c) := .slw h hn hc hz hm (.inl rfl)
theorem VRel.slw_inv {μ : Mp} {r o n z : Nat} {v : Value} (h : VRel μ (.slice (some ⟨r, o, none⟩) n z) v) :
    ∃ p o' c sp, μ r = some p ∧ v = .slice (some ⟨p.b, o', sp⟩) n c ∧ n ≤ c ∧ (c = 0 ∨ o' = p.s + o) ∧ (z = 0 ∨ o' + c * z ≤ p.n) ∧ c ≤ maxLen ∧ (sp = none ∨ c = 0) := by
  cases h with | slw h hn hc hz hm hs => exact ⟨_, _, _, _, h, rfl, hn, hc, hz, hm, hs⟩
theorem VRel.sl_inv {μ : Mp} {r o n z : Nat} {v : Value} (h : VRel μ (.slice (some ⟨r, o, none⟩) n z) v) (h0 : 0 < n) :
    ∃ p o' c, μ r = some p ∧ v = .slice (some ⟨p.b, o', none⟩) n c ∧ n ≤ c ∧ (c = 0 ∨ o' = p.s + o) ∧ (z = 0 ∨ o' + c * z ≤ p.n) ∧ c ≤ maxLen := by
  obtain ⟨p, o', c, sp, h1, h2, h3, h4, h5, h6, h7⟩ := h.slw_inv
  have : sp = none := by rcases h7 with h | h; exact h; omega
  subst this
  exact ⟨p, o', c, h1, h2, h3, h4, h5, h6⟩
theorem VRel.slice_inv {μ : Mp} {a : Option Addr} {n z : Nat} {v : Value} (h : VRel μ (.slice a n z) v) :
    (a = none ∧ n = 0 ∧ z = 0 ∧ v = .slice none 0 0) ∨ ∃ r o p o' c sp, a = some ⟨r, o, none⟩ ∧ μ r = some p ∧ v = .slice (some ⟨p.b, o', sp⟩) n c ∧ n ≤ c ∧ (c = 0 ∨ o' = p.s + o) ∧ (z = 0 ∨ o' + c * z ≤ p.n) ∧ c ≤ maxLen ∧ (sp = none ∨ c = 0) := by
  cases h with
  | sl0 => exact .inl ⟨rfl, rfl, rfl, rfl⟩
  | slw h hn hc hz hm hs => exact .inr ⟨_, _, _, _, _, _, rfl, h, rfl, hn, hc, hz, hm, hs⟩
theorem VRel.iface_inv {μ : Mp} {t : TypeId} {u v : Value} (h : VRel μ (.iface t u) v) : ∃ u', v = .iface t u' ∧ VRel μ u u' := by cases h with | iface _ h => exact ⟨_, rfl, h⟩
theorem VRel.nilIface_inv {μ : Mp} {v : Value} (h : VRel μ .nilIface v) : v = .nilIface := by cases h; rfl
theorem VRel.map_inv {μ : Mp} {a : Option Nat} {v : Value} (h : VRel μ (.map a) v) : (a = none ∧ v = .map none) ∨ ∃ r p, a = some r ∧ μ r = some p ∧ v = .map (some p.b) := by
  cases h with
  | map0 => exact .inl ⟨rfl, rfl⟩
  | map h => exact .inr ⟨_, _, rfl, h, rfl⟩

/-- Cells: a value's cells stand to each other as the values do. -/
theorem VRel.cells {μ : Mp} {v v' : Value} (h : VRel μ v v') : LRel μ (Value.cellsL v) v'.cells.toList := by
  cases h with
  | agg hs h => exact ⟨hs, h⟩
  | _ => exact .cons (by constructor <;> assumption) (.nil μ)
theorem VRel.oneCell {μ : Mp} {v v' : Value} (h : VRel μ v v') : oneCell v = v'.oneCell' := by cases h <;> rfl
theorem LRel.oneCells {μ : Mp} {l l' : List Value} (h : LRel μ l l') (hb : l.all oneCell = true) : ∀ u ∈ l', u.oneCell' = true := by
  intro u hu
  obtain ⟨i, hi, rfl⟩ := List.getElem_of_mem hu
  have hi' : i < l.length := by rw [h.1]; exact hi
  have := h.2 i l[i] l'[i] (List.getElem?_eq_getElem hi') (List.getElem?_eq_getElem hi)
  rw [← this.oneCell]
  exact List.all_eq_true.1 hb _ (List.getElem_mem hi')

theorem nbeq_ne {a b : Nat} (h : a ≠ b) : Nat.beq a b = false := by
  cases h' : Nat.beq a b with
  | false => rfl
  | true => exact absurd (Nat.eq_of_beq_eq_true h') h

/-- A frame of the abstract machine and one of the real one. -/
def FrOn (μ : Mp) (fr : Fr) (a : Act) (S : List Nat) : Prop := ∀ t ∈ S, ∀ v, fr.get t = some v → ∃ v', a.tmps[t]? = some v' ∧ VRel μ v v'
def FrRel (μ : Mp) (fr : Fr) (a : Act) : Prop := ∀ t v, fr.get t = some v → ∃ v', a.tmps[t]? = some v' ∧ VRel μ v v'

theorem FrRel.mono {μ μ' : Mp} (hl : μ.le μ') {fr : Fr} {a : Act} (h : FrRel μ fr a) : FrRel μ' fr a := fun t v e => let ⟨v', h1, h2⟩ := h t v e; ⟨v', h1, h2.mono hl⟩
theorem FrOn.mono {μ μ' : Mp} (hl : μ.le μ') {fr : Fr} {a : Act} {S : List Nat} (h : FrOn μ fr a S) : FrOn μ' fr a S := fun t ht v e => let ⟨v', h1, h2⟩ := h t ht v e; ⟨v', h1, h2.mono hl⟩
theorem FrRel.on {μ : Mp} {fr : Fr} {a : Act} (h : FrRel μ fr a) (S : List Nat) : FrOn μ fr a S := fun t _ v e => h t v e
theorem FrRel.put {μ : Mp} {fr : Fr} {a : Act} {d : Option Nat} {v v' : Value} (h : FrRel μ fr a) (hv : VRel μ v v') (hd : ∀ t, d = some t → t < a.tmps.size) : FrRel μ (fr.put d v) (a.put d v') := by
  intro t u e
  cases d with
  | none => exact h t u e
  | some d =>
    simp only [Fr.put, Fr.get] at e
    by_cases hdt : d = t
    · subst hdt
      have : Nat.beq d d = true := by simp
      rw [this] at e
      simp at e
      subst e
      exact ⟨v', by simp [Act.put, hd d rfl], hv⟩
    · have : Nat.beq d t = false := nbeq_ne hdt
      rw [this] at e
      obtain ⟨u', h1, h2⟩ := h t u (by simpa using e)
      exact ⟨u', by simp only [Act.put]; rw [Array.getElem?_setIfInBounds_ne hdt]; exact h1, h2⟩

theorem Fr.cut_get {fr : Fr} {keep : Option (List Nat)} {t : Nat} {v : Value} (h : (fr.cut keep).get t = some v) : fr.get t = some v := by
  cases keep with
  | none => exact h
  | some l =>
    simp only [Fr.cut] at h
    induction l with
    | nil => simp [Fr.get] at h
    | cons x l ih =>
      simp only [List.filterMap_cons] at h
      cases hx : fr.get x with
      | none => rw [hx] at h; exact ih h
      | some u =>
        rw [hx] at h
        simp only [Option.map_some, Fr.get] at h
        by_cases hxt : x = t
        · subst hxt
          have : Nat.beq x x = true := by simp
          rw [this] at h
          simp at h
          rw [hx, h]
        · have : Nat.beq x t = false := nbeq_ne hxt
          rw [this] at h
          exact ih (by simpa using h)
theorem FrRel.cut {μ : Mp} {fr : Fr} {a : Act} (h : FrRel μ fr a) (keep : Option (List Nat)) : FrRel μ (fr.cut keep) a := fun t v e => h t v (Fr.cut_get e)

/-- What is known of the world in which a call begins (of package variables, say): nothing, where nobody says more. -/
class Laid where
  I : World → Prop
instance (priority := low) noLaid : Laid := ⟨fun _ => True⟩

variable [Laid]

/-- The world in which the call began; blocks besides that nobody touches. -/
structure Base where
  w : World
  ex : Nat → Option Obj
abbrev Base.heap (B : Base) := B.w.heap
def Base.of (W : World) : Base := ⟨W, fun _ => none⟩
/-- A block's number that is nobody's but the call's. -/
def Base.free (B : Base) (b : Nat) : Prop := B.w.heap.size ≤ b ∧ B.ex b = none

/-- A store of the abstract machine and a world, behind the world W in which the call began. -/
structure Rel (W : Base) (μ : Mp) (σ : St) (w : World) : Prop where
  below : Below W.w.heap.size W.w w
  fresh : ∀ r, σ.next ≤ r → μ r = none ∧ σ.get r = none
  lt : ∀ r p B, μ r = some p → σ.get r = some B → p.b < w.heap.size
  own : ∀ r vs e, σ.get r = some (.own vs e) → ∃ p cur, μ r = some p ∧ W.free p.b ∧ w.heap[p.b]? = some (.cells cur e (0, 0)) ∧ cur.size = p.n ∧ p.s + vs.length ≤ p.n ∧
    ∀ (i : Nat) (v : Value), vs[i]? = some v → ∃ v', cur[p.s + i]? = some v' ∧ VRel μ v v'
  ro : ∀ r vs, σ.get r = some (.ro vs) → ∃ p, μ r = some p ∧ ∀ (i : Nat) (v : Value), vs[i]? = some v → ∃ v', w.cell? ⟨p.b, p.s + i, none⟩ = some v' ∧ VRel μ v v'
  mp : ∀ r kv, σ.get r = some (.mp kv) → ∃ p es clock, μ r = some p ∧ W.free p.b ∧ w.heap[p.b]? = some (.map es clock) ∧ kv.length = es.toList.length ∧
    ∀ (i : Nat) k v e, kv[i]? = some (k, v) → es.toList[i]? = some e → e.key = .int .i64 k ∧ VRel μ v e.val ∧ oneCell v = true
  inj : ∀ r r' B B' p p', σ.get r = some B → B.wr = true → σ.get r' = some B' → μ r = some p → μ r' = some p' → p.b = p'.b → r = r'
  laid : Laid.I W.w
  extra : ∀ b o, W.ex b = some o → w.heap[b]? = some o
  apart : ∀ r p B, μ r = some p → σ.get r = some B → W.ex p.b = none

variable {W : Base} {μ : Mp} {σ : St} {w : World}

theorem Rel.freeNew (h : Rel W μ σ w) : W.free w.heap.size := by
  refine ⟨h.below.size, ?_⟩
  cases he : W.ex w.heap.size with
  | none => rfl
  | some o => have := h.extra _ o he; rw [Array.getElem?_eq_none (Nat.le_refl _)] at this; cases this
theorem Rel.exLt (h : Rel W μ σ w) {b : Nat} {o : Obj} (he : W.ex b = some o) : b < w.heap.size := (Array.getElem?_eq_some_iff.1 (h.extra b o he)).1

theorem Rel.alive (h : Rel W μ σ w) {r : Nat} {B : Blk} (hr : σ.get r = some B) : ∃ p, μ r = some p := by
  cases B with
  | own vs e => obtain ⟨p, _, hp, _⟩ := h.own r vs e hr; exact ⟨p, hp⟩
  | ro vs => obtain ⟨p, hp, _⟩ := h.ro r vs hr; exact ⟨p, hp⟩
  | mp kv => obtain ⟨p, _, _, hp, _⟩ := h.mp r kv hr; exact ⟨p, hp⟩
theorem Rel.ltNext (h : Rel W μ σ w) {r : Nat} {B : Blk} (hr : σ.get r = some B) : r < σ.next := by
  by_cases hlt : r < σ.next
  · exact hlt
  · have := (h.fresh r (by omega)).2; rw [this] at hr; cases hr
theorem Rel.mapLt (h : Rel W μ σ w) {r : Nat} {p : Pl} (hr : μ r = some p) : r < σ.next := by
  by_cases hlt : r < σ.next
  · exact hlt
  · have := (h.fresh r (by omega)).1; rw [this] at hr; cases hr

/-- The cells of a block. -/
theorem Rel.cells (h : Rel W μ σ w) {r : Nat} {vs : List Value} (hr : σ.cells r = some vs) : ∃ p, μ r = some p ∧ ∀ (i : Nat) (v : Value), vs[i]? = some v → ∃ v', w.cell? ⟨p.b, p.s + i, none⟩ = some v' ∧ VRel μ v v' := by
  unfold St.cells at hr
  cases hB : σ.get r with
  | none => rw [hB] at hr; cases hr
  | some B =>
    rw [hB] at hr
    simp only [Option.map_some, Option.some.injEq] at hr
    subst hr
    cases B with
    | own vs e =>
      obtain ⟨p, cur, hp, _, hc, _, _, hv⟩ := h.own r vs e hB
      exact ⟨p, hp, fun i v hi => by obtain ⟨v', h1, h2⟩ := hv i v hi; exact ⟨v', by simp only [World.cell?, hc]; exact h1, h2⟩⟩
    | ro vs => exact h.ro r vs hB
    | mp kv => obtain ⟨p, _, _, hp, _⟩ := h.mp r kv hB; exact ⟨p, hp, fun i v hi => by simp [Blk.cells] at hi⟩

/-- The same store, another world with the same memory. -/
theorem Rel.heap {w' : World} (h : Rel W μ σ w) (hh : w'.heap = w.heap) (ho : w'.os = w.os) (ht : w'.tape = w.tape) (hu : w'.output = w.output) : Rel W μ σ w' := by
  have hc : ∀ a, w'.cell? a = w.cell? a := fun a => by simp [World.cell?, hh]
  exact ⟨⟨ho.trans h.below.os, ht.trans h.below.tape, hu.trans h.below.output, by rw [hh]; exact h.below.size, fun k hk => by rw [hh]; exact h.below.block k hk⟩, h.fresh,
    fun r p B hp hB => by rw [hh]; exact h.lt r p B hp hB, fun r vs e hr => by rw [hh]; exact h.own r vs e hr, fun r vs hr => by simp only [hc]; exact h.ro r vs hr, fun r kv hr => by rw [hh]; exact h.mp r kv hr, h.inj, h.laid, fun b o he => by rw [hh]; exact h.extra b o he, h.apart⟩
theorem Rel.drew (h : Rel W μ σ w) : Rel W μ σ w.drew := h.heap rfl rfl rfl rfl

theorem Mp.put_le {μ : Mp} {r : Nat} {p : Pl} (h : μ r = none) : μ.le (μ.put r p) := fun k q hk => by
  unfold Mp.put
  split
  · rename_i e; subst e; rw [h] at hk; cases hk
  · exact hk

/-- A new block. -/
theorem Rel.new (h : Rel W μ σ w) (cur : Array Value) (e : TypeId) (vs : List Value) (hl : vs.length ≤ cur.size) (hv : ∀ (i : Nat) (v : Value), vs[i]? = some v → ∃ v', cur[i]? = some v' ∧ VRel μ v v') :
    μ.le (μ.put σ.next ⟨w.heap.size, 0, cur.size⟩) ∧ Rel W (μ.put σ.next ⟨w.heap.size, 0, cur.size⟩) (σ.new (.own vs e)) (w.alloc (.cells cur e)) := by
  have hle : μ.le (μ.put σ.next ⟨w.heap.size, 0, cur.size⟩) := Mp.put_le (h.fresh _ (Nat.le_refl _)).1
  have hput : (μ.put σ.next ⟨w.heap.size, 0, cur.size⟩) σ.next = some ⟨w.heap.size, 0, cur.size⟩ := by simp [Mp.put]
  have hold : ∀ b, b < w.heap.size → (w.alloc (.cells cur e)).heap[b]? = w.heap[b]? := fun b hb => heap_alloc_old w _ b hb
  have hcell : ∀ a : Addr, a.block < w.heap.size → (w.alloc (.cells cur e)).cell? a = w.cell? a := fun a ha => World.cell?_alloc_lt w _ a ha
  refine ⟨hle, ?_, ?_, ?_, ?_, ?_, ?_, ?_, h.laid, fun b o he => by rw [hold b (h.exLt he)]; exact h.extra b o he, fun r q B hq hB => by
    simp only [Mp.put] at hq
    simp only [St.new] at hB
    split at hq
    · cases hq; exact h.freeNew.2
    · rename_i hne
      rw [if_neg hne] at hB
      exact h.apart r q B hq hB⟩
  · exact h.below.alloc h.below.size _
  · intro r hr
    have hr' : σ.next + 1 ≤ r := hr
    have hne : r ≠ σ.next := by omega
    have := h.fresh r (by omega)
    exact ⟨by simp [Mp.put, hne, this.1], by simp [St.new, hne, this.2]⟩
  · intro r p B hp hB
    simp only [Mp.put] at hp
    simp only [St.new] at hB
    split at hp
    · cases hp; simp
    · rename_i hne
      rw [if_neg hne] at hB
      have := h.lt r p B hp hB; simp; omega
  · intro r us e' hr
    simp only [St.new] at hr
    split at hr
    · rename_i hrn
      subst hrn
      cases hr
      exact ⟨_, cur, hput, h.freeNew, heap_alloc_new w _, rfl, by simpa using hl, fun i v hi => by obtain ⟨v', h1, h2⟩ := hv i v hi; exact ⟨v', by simpa using h1, h2.mono hle⟩⟩
    · obtain ⟨p, c, hp, hb, hc, hs, hn, hvs⟩ := h.own r us e' hr
      exact ⟨p, c, hle _ _ hp, hb, by rw [hold _ (h.lt _ _ _ hp hr)]; exact hc, hs, hn, fun i v hi => by obtain ⟨v', h1, h2⟩ := hvs i v hi; exact ⟨v', h1, h2.mono hle⟩⟩
  · intro r us hr
    simp only [St.new] at hr
    split at hr
    · cases hr
    · obtain ⟨p, hp, hvs⟩ := h.ro r us hr
      exact ⟨p, hle _ _ hp, fun i v hi => by obtain ⟨v', h1, h2⟩ := hvs i v hi; exact ⟨v', by rw [hcell _ (h.lt _ _ _ hp hr)]; exact h1, h2.mono hle⟩⟩
  · intro r kv hr
    simp only [St.new] at hr
    split at hr
    · cases hr
    · obtain ⟨p, es, ck, hp, hb, hm, hlen, hk⟩ := h.mp r kv hr
      exact ⟨p, es, ck, hle _ _ hp, hb, by rw [hold _ (h.lt _ _ _ hp hr)]; exact hm, hlen, fun i k v e hi he => by obtain ⟨h1, h2, h3⟩ := hk i k v e hi he; exact ⟨h1, h2.mono hle, h3⟩⟩
  · intro r r' B B' p p' hr hw hr' hp hp' hb
    simp only [St.new] at hr hr'
    simp only [Mp.put] at hp hp'
    split at hp <;> split at hp'
    · rename_i h1 h2; rw [h1, h2]
    · rename_i h1 h2; cases hp; have := h.lt r' p' _ hp' (by rw [if_neg h2] at hr'; exact hr'); simp only at hb; omega
    · rename_i h1 h2; cases hp'; have := h.lt r p _ hp (by rw [if_neg h1] at hr; exact hr); simp only at hb; omega
    · rename_i h1 h2
      rw [if_neg h1] at hr
      rw [if_neg h2] at hr'
      exact h.inj r r' B B' p p' hr hw hr' hp hp' hb

/-- A new block that is only read, whatever it is frozen at. -/
theorem Rel.newRo (h : Rel W μ σ w) (cur : Array Value) (e : TypeId) (fz : Nat × Nat) (vs : List Value) (w' : World) (hw : w' = { w with heap := w.heap.push (.cells cur e fz) })
    (hv : ∀ (i : Nat) (v : Value), vs[i]? = some v → ∃ v', cur[i]? = some v' ∧ VRel μ v v') :
    μ.le (μ.put σ.next ⟨w.heap.size, 0, cur.size⟩) ∧ Rel W (μ.put σ.next ⟨w.heap.size, 0, cur.size⟩) (σ.new (.ro vs)) w' := by
  subst hw
  have hle : μ.le (μ.put σ.next ⟨w.heap.size, 0, cur.size⟩) := Mp.put_le (h.fresh _ (Nat.le_refl _)).1
  have hput : (μ.put σ.next ⟨w.heap.size, 0, cur.size⟩) σ.next = some ⟨w.heap.size, 0, cur.size⟩ := by simp [Mp.put]
  have hold : ∀ b, b < w.heap.size → (w.alloc (.cells cur e fz)).heap[b]? = w.heap[b]? := fun b hb => heap_alloc_old w _ b hb
  have hcell : ∀ a : Addr, a.block < w.heap.size → (w.alloc (.cells cur e fz)).cell? a = w.cell? a := fun a ha => World.cell?_alloc_lt w _ a ha
  refine ⟨hle, ?_, ?_, ?_, ?_, ?_, ?_, ?_, h.laid, fun b o he => (hold b (h.exLt he)).trans (h.extra b o he), fun r q B hq hB => by
    simp only [Mp.put] at hq
    simp only [St.new] at hB
    split at hq
    · cases hq; exact h.freeNew.2
    · rename_i hne
      rw [if_neg hne] at hB
      exact h.apart r q B hq hB⟩
  · exact h.below.alloc h.below.size _
  · intro r hr
    have hr' : σ.next + 1 ≤ r := hr
    have hne : r ≠ σ.next := by omega
    have := h.fresh r (by omega)
    exact ⟨by simp [Mp.put, hne, this.1], by simp [St.new, hne, this.2]⟩
  · intro r p B hp hB
    simp only [Mp.put] at hp
    simp only [St.new] at hB
    split at hp
    · cases hp; simp
    · rename_i hne
      rw [if_neg hne] at hB
      have := h.lt r p B hp hB; simp; omega
  · intro r us e' hr
    simp only [St.new] at hr
    split at hr
    · cases hr
    · obtain ⟨p, c, hp, hb, hc, hs, hn, hvs⟩ := h.own r us e' hr
      exact ⟨p, c, hle _ _ hp, hb, by have := hold _ (h.lt _ _ _ hp hr); simp only [World.alloc] at this; rw [this]; exact hc, hs, hn, fun i v hi => by obtain ⟨v', h1, h2⟩ := hvs i v hi; exact ⟨v', h1, h2.mono hle⟩⟩
  · intro r us hr
    simp only [St.new] at hr
    split at hr
    · rename_i hrn
      subst hrn
      cases hr
      refine ⟨_, hput, fun i v hi => ?_⟩
      obtain ⟨v', h1, h2⟩ := hv i v hi
      exact ⟨v', by simp [World.cell?, h1], h2.mono hle⟩
    · obtain ⟨p, hp, hvs⟩ := h.ro r us hr
      exact ⟨p, hle _ _ hp, fun i v hi => by obtain ⟨v', h1, h2⟩ := hvs i v hi; exact ⟨v', by have := hcell ⟨p.b, p.s + i, none⟩ (h.lt _ _ _ hp hr); simp only [World.alloc] at this; rw [this]; exact h1, h2.mono hle⟩⟩
  · intro r kv hr
    simp only [St.new] at hr
    split at hr
    · cases hr
    · obtain ⟨p, es, ck, hp, hb, hm, hlen, hk⟩ := h.mp r kv hr
      exact ⟨p, es, ck, hle _ _ hp, hb, by have := hold _ (h.lt _ _ _ hp hr); simp only [World.alloc] at this; rw [this]; exact hm, hlen, fun i k v e hi he => by obtain ⟨h1, h2, h3⟩ := hk i k v e hi he; exact ⟨h1, h2.mono hle, h3⟩⟩
  · intro r r' B B' p p' hr hw hr' hp hp' hb
    simp only [St.new] at hr hr'
    simp only [Mp.put] at hp hp'
    split at hp <;> split at hp'
    · rename_i h1 h2; rw [h1, h2]
    · rename_i h1 h2; cases hp; have := h.lt r' p' _ hp' (by rw [if_neg h2] at hr'; exact hr'); simp only at hb; omega
    · rename_i h1 h2; cases hp'; have := h.lt r p _ hp (by rw [if_neg h1] at hr; exact hr); simp only at hb; omega
    · rename_i h1 h2
      rw [if_neg h1] at hr
      rw [if_neg h2] at hr'
      exact h.inj r r' B B' p p' hr hw hr' hp hp' hb

/-- A block that is no more. -/
theorem Rel.del (h : Rel W μ σ w) (r : Nat) : Rel W μ (σ.del r) w := by
  have hg : ∀ k B, (σ.del r).get k = some B → σ.get k = some B := fun k B hk => by
    simp only [St.del] at hk
    split at hk
    · cases hk
    · exact hk
  exact ⟨h.below, fun k hk => ⟨(h.fresh k hk).1, by simp only [St.del]; split; rfl; exact (h.fresh k hk).2⟩, fun k p B hp hk => h.lt k p B hp (hg _ _ hk), fun k vs e hk => h.own k vs e (hg _ _ hk), fun k vs hk => h.ro k vs (hg _ _ hk),
    fun k kv hk => h.mp k kv (hg _ _ hk), fun k k' B B' p p' hk hw hk' => h.inj k k' B B' p p' (hg _ _ hk) hw (hg _ _ hk'), h.laid, h.extra, fun k p B hp hk => h.apart k p B hp (hg _ _ hk)⟩

theorem setRow_below {w w' : World} {b : Nat} {B : Nat} (h : Below B w w') (hb : B ≤ b) (cs : Array Value) : Below B w (w'.setRow b cs) :=
  ⟨h.os, h.tape, h.output, by have := h.size; simp [World.setRow]; omega, fun k hk => by rw [setRow_other w' b k cs (by omega)]; exact h.block k hk⟩

theorem heap_size_setRow (w : World) (b : Nat) (cs : Array Value) : (w.setRow b cs).heap.size = w.heap.size := by simp [World.setRow]

/-- One of the call's own blocks has other cells. -/
theorem Rel.setRow (h : Rel W μ σ w) {r : Nat} {B : Blk} {e : TypeId} {p : Pl} {cur : Array Value} (hr : σ.get r = some B) (hB : B.wr = true) (hp : μ r = some p) (hWb : W.free p.b) (hc : w.heap[p.b]? = some (.cells cur e (0, 0)))
    (vs : List Value) (cur' : Array Value) (hs : cur'.size = p.n) (hl : p.s + vs.length ≤ p.n) (hv : ∀ (i : Nat) (v : Value), vs[i]? = some v → ∃ v', cur'[p.s + i]? = some v' ∧ VRel μ v v') :
    Rel W μ (σ.set r (.own vs e)) (w.setRow p.b cur') := by
  have hother : ∀ k B' q, k ≠ r → σ.get k = some B' → μ k = some q → q.b ≠ p.b := fun k B' q hk hB' hq hb => hk (h.inj r k _ _ p q hr hB hB' hp hq hb.symm).symm
  refine ⟨setRow_below h.below hWb.1 _, ?_, ?_, ?_, ?_, ?_, ?_, h.laid, fun b o he => by rw [setRow_other w p.b b _ (fun e => by subst e; rw [hWb.2] at he; cases he)]; exact h.extra b o he, fun k q C hq hC => by
    simp only [St.set] at hC
    split at hC
    · rename_i e1; subst e1; exact h.apart k q _ hq hr
    · exact h.apart k q C hq hC⟩
  · intro k hk
    have hk' : σ.next ≤ k := hk
    have hlt := h.ltNext hr
    have hne : k ≠ r := by omega
    have := h.fresh k hk'
    exact ⟨this.1, by simp [St.set, hne, this.2]⟩
  · intro k q C hq hC
    rw [heap_size_setRow]
    simp only [St.set] at hC
    split at hC
    · rename_i e1; subst e1; exact h.lt k q B hq hr
    · exact h.lt k q C hq hC
  · intro k us e' hk
    simp only [St.set] at hk
    split at hk
    · rename_i hkr
      subst hkr
      cases hk
      exact ⟨p, cur', hp, hWb, setRow_heap w p.b cur cur' e (0, 0) hc, hs, hl, hv⟩
    · rename_i hkr
      obtain ⟨q, c, hq, hb, hcc, hss, hn, hvs⟩ := h.own k us e' hk
      exact ⟨q, c, hq, hb, by rw [setRow_other w p.b q.b _ (hother k _ q hkr hk hq)]; exact hcc, hss, hn, hvs⟩
  · intro k us hk
    simp only [St.set] at hk
    split at hk
    · cases hk
    · rename_i hkr
      obtain ⟨q, hq, hvs⟩ := h.ro k us hk
      refine ⟨q, hq, fun i v hi => ?_⟩
      obtain ⟨v', h1, h2⟩ := hvs i v hi
      refine ⟨v', ?_, h2⟩
      rw [World.cell?_of_block (setRow_other w p.b q.b _ (hother k _ q hkr hk hq))]
      exact h1
  · intro k kv hk
    simp only [St.set] at hk
    split at hk
    · cases hk
    · rename_i hkr
      obtain ⟨q, es, ck, hq, hb, hm, hlen, hkk⟩ := h.mp k kv hk
      exact ⟨q, es, ck, hq, hb, by rw [setRow_other w p.b q.b _ (hother k _ q hkr hk hq)]; exact hm, hlen, hkk⟩
  · intro k k' C C' q q' hk hw hk' hq hq' hb
    simp only [St.set] at hk hk'
    have hk1 : ∃ C0, σ.get k = some C0 ∧ (C.wr = true → C0.wr = true) := by
      split at hk
      · rename_i e1; subst e1; exact ⟨B, hr, fun _ => hB⟩
      · exact ⟨C, hk, id⟩
    have hk2 : ∃ C0, σ.get k' = some C0 := by
      split at hk'
      · rename_i e1; subst e1; exact ⟨B, hr⟩
      · exact ⟨C', hk'⟩
    obtain ⟨C0, g1, g2⟩ := hk1
    obtain ⟨C1, g3⟩ := hk2
    exact h.inj k k' C0 C1 q q' g1 (g2 hw) g3 hq hq' hb

/-- One of the call's own blocks goes on under another number, with other cells, from another place on. -/
theorem Rel.move (h : Rel W μ σ w) {q : Nat} {B : Blk} {e : TypeId} {p : Pl} {cur : Array Value} (hq : σ.get q = some B) (hB : B.wr = true) (hp : μ q = some p) (hWb : W.free p.b) (hc : w.heap[p.b]? = some (.cells cur e (0, 0)))
    (vs : List Value) (cur' : Array Value) (s' : Nat) (hs : cur'.size = p.n) (hl : s' + vs.length ≤ p.n) (hv : ∀ (i : Nat) (v : Value), vs[i]? = some v → ∃ v', cur'[s' + i]? = some v' ∧ VRel μ v v') :
    μ.le (μ.put σ.next ⟨p.b, s', p.n⟩) ∧ Rel W (μ.put σ.next ⟨p.b, s', p.n⟩) ((σ.del q).new (.own vs e)) (w.setRow p.b cur') := by
  have hle : μ.le (μ.put σ.next ⟨p.b, s', p.n⟩) := Mp.put_le (h.fresh _ (Nat.le_refl _)).1
  have hput : (μ.put σ.next ⟨p.b, s', p.n⟩) σ.next = some ⟨p.b, s', p.n⟩ := by simp [Mp.put]
  have hother : ∀ k B' x, k ≠ q → σ.get k = some B' → μ k = some x → x.b ≠ p.b := fun k B' x hk hB' hx hb => hk (h.inj q k _ _ p x hq hB hB' hp hx hb.symm).symm
  have hget : ∀ k C, ((σ.del q).new (.own vs e)).get k = some C → (k = σ.next ∧ C = .own vs e) ∨ (k ≠ σ.next ∧ k ≠ q ∧ σ.get k = some C) := by
    intro k C hk
    replace hk : (if k = σ.next then some (Blk.own vs e) else if k = q then none else σ.get k) = some C := hk
    by_cases e1 : k = σ.next
    · rw [if_pos e1] at hk; cases hk; exact .inl ⟨e1, rfl⟩
    · rw [if_neg e1] at hk
      by_cases e2 : k = q
      · rw [if_pos e2] at hk; cases hk
      · rw [if_neg e2] at hk; exact .inr ⟨e1, e2, hk⟩
  refine ⟨hle, setRow_below h.below hWb.1 _, ?_, ?_, ?_, ?_, ?_, ?_, h.laid, fun b o he => by rw [setRow_other w p.b b _ (fun e => by subst e; rw [hWb.2] at he; cases he)]; exact h.extra b o he, fun k x C hx hC => by
    simp only [Mp.put] at hx
    rcases hget k C hC with ⟨e1, _⟩ | ⟨e1, _, e3⟩
    · rw [if_pos e1] at hx; cases hx; exact hWb.2
    · rw [if_neg e1] at hx; exact h.apart k x C hx e3⟩
  · intro k hk
    have hk' : σ.next + 1 ≤ k := hk
    have hne : k ≠ σ.next := by omega
    have := h.fresh k (by omega)
    exact ⟨by simp [Mp.put, hne, this.1], by simp [St.new, St.del, hne, this.2]⟩
  · intro k x C hx hC
    rw [heap_size_setRow]
    simp only [Mp.put] at hx
    rcases hget k C hC with ⟨e1, _⟩ | ⟨e1, _, e3⟩
    · rw [if_pos e1] at hx; cases hx; exact h.lt q p B hp hq
    · rw [if_neg e1] at hx; exact h.lt k x C hx e3
  · intro k us e' hk
    rcases hget k _ hk with ⟨e1, e2⟩ | ⟨e1, e2, e3⟩
    · subst e1
      cases e2
      exact ⟨_, cur', hput, hWb, setRow_heap w p.b cur cur' e (0, 0) hc, hs, hl, fun i v hi => by obtain ⟨v', h1, h2⟩ := hv i v hi; exact ⟨v', h1, h2.mono hle⟩⟩
    · obtain ⟨x, c, hx, hb, hcc, hss, hn, hvs⟩ := h.own k us e' e3
      exact ⟨x, c, hle _ _ hx, hb, by rw [setRow_other w p.b x.b _ (hother k _ x e2 e3 hx)]; exact hcc, hss, hn, fun i v hi => by obtain ⟨v', h1, h2⟩ := hvs i v hi; exact ⟨v', h1, h2.mono hle⟩⟩
  · intro k us hk
    rcases hget k _ hk with ⟨e1, e2⟩ | ⟨e1, e2, e3⟩
    · cases e2
    · obtain ⟨x, hx, hvs⟩ := h.ro k us e3
      refine ⟨x, hle _ _ hx, fun i v hi => ?_⟩
      obtain ⟨v', h1, h2⟩ := hvs i v hi
      refine ⟨v', ?_, h2.mono hle⟩
      rw [World.cell?_of_block (setRow_other w p.b x.b _ (hother k _ x e2 e3 hx))]
      exact h1
  · intro k kv hk
    rcases hget k _ hk with ⟨e1, e2⟩ | ⟨e1, e2, e3⟩
    · cases e2
    · obtain ⟨x, es, ck, hx, hb, hm, hlen, hkk⟩ := h.mp k kv e3
      exact ⟨x, es, ck, hle _ _ hx, hb, by rw [setRow_other w p.b x.b _ (hother k _ x e2 e3 hx)]; exact hm, hlen, fun i k v e hi he => by obtain ⟨h1, h2, h3⟩ := hkk i k v e hi he; exact ⟨h1, h2.mono hle, h3⟩⟩
  · intro k k' C C' x x' hk hw hk' hx hx' hb
    have hmu : ∀ k x, (μ.put σ.next ⟨p.b, s', p.n⟩) k = some x → (k = σ.next ∧ x.b = p.b) ∨ (k ≠ σ.next ∧ μ k = some x) := by
      intro k x hx
      simp only [Mp.put] at hx
      split at hx
      · rename_i e1; cases hx; exact .inl ⟨e1, rfl⟩
      · exact .inr ⟨‹_›, hx⟩
    rcases hget k _ hk with ⟨e1, e2⟩ | ⟨e1, e2, e3⟩ <;> rcases hget k' _ hk' with ⟨f1, f2⟩ | ⟨f1, f2, f3⟩
    · rw [e1, f1]
    · rcases hmu k x hx with ⟨_, g1⟩ | ⟨g0, _⟩
      · rcases hmu k' x' hx' with ⟨g2, _⟩ | ⟨_, g3⟩
        · exact absurd g2 f1
        · exact absurd (hb.symm.trans g1) (hother k' _ x' f2 f3 g3)
      · exact absurd e1 g0
    · rcases hmu k' x' hx' with ⟨_, g1⟩ | ⟨g0, _⟩
      · rcases hmu k x hx with ⟨g2, _⟩ | ⟨_, g3⟩
        · exact absurd g2 e1
        · exact absurd (hb.trans g1) (hother k _ x e2 e3 g3)
      · exact absurd f1 g0
    · rcases hmu k x hx with ⟨g2, _⟩ | ⟨_, g3⟩
      · exact absurd g2 e1
      · rcases hmu k' x' hx' with ⟨g2, _⟩ | ⟨_, g4⟩
        · exact absurd g2 f1
        · exact h.inj k k' C C' x x' e3 hw f3 g3 g4 hb

end Go.AM
