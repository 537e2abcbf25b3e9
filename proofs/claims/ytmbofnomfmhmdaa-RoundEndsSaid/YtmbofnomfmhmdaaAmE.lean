/-
  THE ABSTRACT MACHINE IS SOUND: '==' of structs of whole numbers, texts, bools.
-/
import Derived.Test.YtmbofnomfmhmdaaAmM
import Derived.Laws.StructEq
set_option linter.unusedVariables false
set_option linter.unusedSimpArgs false
set_option linter.unusedSectionVars false
namespace Go.AM
open Go.RowKit
variable [Laid]

section
variable {P : Program} {r : Value × St}

/-- What kind a field is of, if it is one that '==' is told of here. -/
def kdOf (P : Program) (t : TypeId) : Option Kd := match P.underlying t with | some (.int k) => some (.i k) | some .string => some .s | some .bool => some .b | _ => none
/-- A struct whose fields are whole numbers, texts, bools, one cell each, one behind the other. -/
def intStruct (P : Program) (t : TypeId) : Bool :=
  match P.underlying t with
  | some (.struct fs) => ((List.range fs.toList.length).all fun i => match fs.toList[i]? with | some f => Nat.beq f.offset i && (f.name != "_") && (kdOf P f.type).isSome | none => false) && !P.stoodInHeld t && !P.eqGuardType P.depth t
  | _ => false
theorem intStruct_inv {t : TypeId} (h : intStruct P t = true) : ∃ fs, P.underlying t = some (.struct fs) ∧ P.stoodInHeld t = false ∧ P.eqGuardType P.depth t = false ∧ ∀ (i : Nat) f, fs.toList[i]? = some f → f.offset = i ∧ f.name ≠ "_" ∧ ∃ k, kdOf P f.type = some k := by
  unfold intStruct at h
  split at h
  · rename_i fs hu
    simp only [Bool.and_eq_true, Bool.not_eq_true'] at h
    obtain ⟨⟨h1, h2⟩, h3⟩ := h
    refine ⟨fs, hu, h2, h3, fun i f hf => ?_⟩
    have h4 := List.all_eq_true.1 h1 i (List.mem_range.2 (List.getElem?_eq_some_iff.1 hf).1)
    rw [hf] at h4
    simp only [Bool.and_eq_true] at h4
    obtain ⟨⟨a1, a2⟩, a3⟩ := h4
    exact ⟨Nat.eq_of_beq_eq_true a1, by simpa using a2, Option.isSome_iff_exists.1 a3⟩
  · cases h

/-- Two values of a kind, compared. -/
inductive Cmp : Kd → Value → Value → Bool → Prop where
  | i (k : IntKind) (a b : Int) : Cmp (.i k) (.int k a) (.int k b) (a == b)
  | s (a b : ByteArray) : Cmp .s (.string a) (.string b) (a == b)
  | b (a b : Bool) : Cmp .b (.bool a) (.bool b) (a == b)
inductive Cmps : List Kd → List Value → List Value → Bool → Prop where
  | nil : Cmps [] [] [] true
  | cons {k : Kd} {x y : Value} {q : Bool} {ks : List Kd} {X Y : List Value} {q' : Bool} : Cmp k x y q → Cmps ks X Y q' → Cmps (k :: ks) (x :: X) (y :: Y) (q && q')

theorem eqCells_inv {α : Type} {r : α} : ∀ (ks : List Kd) (X Y : List Value) (K : Bool → Option α), eqCells ks X Y K = some r → ∃ q, Cmps ks X Y q ∧ K q = some r := by
  intro ks X Y K h
  fun_induction eqCells ks X Y K
  · exact ⟨true, .nil, h⟩
  · rename_i ih
    obtain ⟨a, ea, h4⟩ := asB_inv h
    obtain ⟨b, eb, h5⟩ := asB_inv h4
    subst ea
    subst eb
    obtain ⟨q, h1, h2⟩ := ih a b h5
    exact ⟨_, .cons (.b a b) h1, h2⟩
  · rename_i ih
    obtain ⟨a, ea, h4⟩ := asI_inv h
    obtain ⟨b, eb, h5⟩ := asI_inv h4
    subst ea
    subst eb
    obtain ⟨q, h1, h2⟩ := ih a b h5
    exact ⟨_, .cons (.i _ a b) h1, h2⟩
  · rename_i ih
    obtain ⟨a, ea, h4⟩ := asS_inv h
    obtain ⟨b, eb, h5⟩ := asS_inv h4
    subst ea
    subst eb
    obtain ⟨q, h1, h2⟩ := ih a b h5
    exact ⟨_, .cons (.s a b) h1, h2⟩
  · cases h

theorem Cmps.same {ks : List Kd} {X Y : List Value} {q : Bool} (h : Cmps ks X Y q) {μ : Mp} : (∀ {Z : List Value}, LRel μ X Z → Z = X) ∧ (∀ {Z : List Value}, LRel μ Y Z → Z = Y) := by
  induction h with
  | nil => exact ⟨fun h => h.inv_nil, fun h => h.inv_nil⟩
  | cons hc _ ih =>
    refine ⟨fun hz => ?_, fun hz => ?_⟩
    · obtain ⟨y, m, rfl, h1, h2⟩ := hz.inv
      rw [ih.1 h2]
      cases hc with
      | i => rw [h1.int_inv]
      | s => rw [h1.string_inv]
      | b => rw [h1.bool_inv]
    · obtain ⟨y, m, rfl, h1, h2⟩ := hz.inv
      rw [ih.2 h2]
      cases hc with
      | i => rw [h1.int_inv]
      | s => rw [h1.string_inv]
      | b => rw [h1.bool_inv]

theorem run_part_kd {t : TypeId} {k : Kd} {cs : Array Value} {off : Nat} {v : Value} (w : World) (hu : kdOf P t = some k) (h : cs[off]? = some v) : (part t cs off).run P w = .ok v w := by
  unfold kdOf at hu
  split at hu
  · rename_i e; simp [part, isAgg, run_underlying e, h]
  · rename_i e; simp [part, isAgg, run_underlying e, h]
  · rename_i e; simp [part, isAgg, run_underlying e, h]
  · cases hu

theorem run_equalIn_kd {t : TypeId} {k : Kd} {x y : Value} {q : Bool} (w : World) (d : Nat) (hu : kdOf P t = some k) (h : Cmp k x y q) : (Op.equalIn (d + 1) t x y).run P w = .ok q w := by
  unfold kdOf at hu
  split at hu
  · rename_i k' e
    cases hu
    cases h
    exact run_equalIn_int w d t _ _ _ _ e
  · rename_i e
    cases hu
    cases h
    rw [run_equalIn_string w d t _ _ e, beq_toListBytes]
  · rename_i e
    cases hu
    cases h
    exact run_equalIn_bool' w d t _ _ e
  · cases hu

theorem eqFields_cmps (w : World) (d : Nat) {A B : Array Value} {ks : List Kd} {X Y : List Value} {q : Bool} (h : Cmps ks X Y q) : ∀ (fs : List Field) (i : Nat), A.toList.drop i = X → B.toList.drop i = Y → fs.length = ks.length →
    (∀ (j : Nat) f k, fs[j]? = some f → ks[j]? = some k → f.offset = i + j ∧ f.name ≠ "_" ∧ kdOf P f.type = some k) → (Op.eqFields (d + 1) A B fs).run P w = .ok q w := by
  induction h with
  | nil =>
    intro fs i _ _ hl _
    have : fs = [] := List.length_eq_zero_iff.1 (by simpa using hl)
    subst this
    simp [Op.eqFields]
  | @cons k x y q ks X Y q' hc _ ih =>
    intro fs i hA hB hl hf
    cases fs with
    | nil => simp at hl
    | cons f fs =>
      obtain ⟨h1, h2, h3⟩ := hf 0 f k rfl rfl
      have ha : A[i]? = some x := by rw [← Array.getElem?_toList, ← Nat.add_zero i, ← List.getElem?_drop, hA]; rfl
      have hb : B[i]? = some y := by rw [← Array.getElem?_toList, ← Nat.add_zero i, ← List.getElem?_drop, hB]; rfl
      have pa := run_part_kd (P := P) (cs := A) (off := f.offset) (v := x) w h3 (by rw [h1]; exact ha)
      have pb := run_part_kd (P := P) (cs := B) (off := f.offset) (v := y) w h3 (by rw [h1]; exact hb)
      have ih' := ih fs (i + 1) (by rw [← List.drop_drop, hA]; rfl) (by rw [← List.drop_drop, hB]; rfl) (by simpa using hl) (fun j g k' hg hk => by
        obtain ⟨g1, g2, g3⟩ := hf (j + 1) g k' (by simpa using hg) (by simpa using hk)
        exact ⟨by omega, g2, g3⟩)
      simp only [Op.eqFields, if_pos h2, Sem.run_bind, pa, pb, Result.andThen_ok, run_equalIn_kd w d h3 hc]
      cases q with
      | true =>
        simp only [Bool.not_true, Bool.false_eq_true, if_false, Bool.true_and]
        exact ih'
      | false => simp

theorem eqKds_kd : ∀ (fs : List Field), (∀ f ∈ fs, f.name ≠ "_" ∧ ∃ k, kdOf P f.type = some k) → ∀ n, ∃ ks, fs.foldr (fun f acc => match f.name == "_", eqKds P (n + 1) f.type, acc with | false, some a, some b => some (a ++ b) | _, _, _ => none) (some []) = some ks ∧
    fs.length = ks.length ∧ ∀ (j : Nat) f k, fs[j]? = some f → ks[j]? = some k → kdOf P f.type = some k
  | [], _, n => ⟨[], rfl, rfl, fun j f k h => by simp at h⟩
  | f :: fs, h, n => by
    obtain ⟨h1, k, h2⟩ := h f (by simp)
    obtain ⟨ks, e, hl, hk⟩ := eqKds_kd fs (fun g hg => h g (by simp [hg])) n
    have hn : (f.name == "_") = false := by simpa using h1
    have hkd : eqKds P (n + 1) f.type = some [k] := by
      unfold kdOf at h2
      unfold eqKds
      split at h2 <;> (rename_i e1; first | (cases h2; rw [e1]) | cases h2)
    refine ⟨k :: ks, ?_, by simp [hl], fun j g k' hg hk' => ?_⟩
    · rw [List.foldr_cons, e, hn, hkd]; rfl
    · cases j with
      | zero => simp at hg hk'; subst hg; subst hk'; exact h2
      | succ j => exact hk j g k' (by simpa using hg) (by simpa using hk')

theorem agg_ints {op : BinOp} {t : TypeId} {cy : Bool} {x y : Operand} {K : Value → Res} (hi : intStruct P t = true) (A B : Array Value) (h : aBin P op t cy (.agg A) (.agg B) K = some r) :
    ∃ v, K v = some r ∧ (∀ μ, VRel μ v v) ∧ ∀ (μ : Mp) (A' B' : Array Value) (w : World), LRel μ A.toList A'.toList → LRel μ B.toList B'.toList →
      (eqGuard op t x y (.agg A') (.agg B')).run P w = .ok () w ∧ (binOp op t (.agg A') (.agg B')).run P w = .ok v w := by
  obtain ⟨fs, hu, hst, hgd, hfs⟩ := intStruct_inv hi
  simp only [aBin, asAgL] at h
  obtain ⟨h1, h2⟩ := need_inv h
  simp only [Bool.and_eq_true] at h1
  obtain ⟨ks, hk, hkl, hks⟩ := eqKds_kd (P := P) fs.toList (fun f hf => by
      obtain ⟨j, hj, rfl⟩ := List.getElem_of_mem hf
      exact (hfs j _ (List.getElem?_eq_getElem hj)).2) 18
  have hk : eqKds P 20 t = some ks := by
    unfold eqKds
    rw [hu]
    exact hk
  rw [hk] at h2
  obtain ⟨q, hc, h3⟩ := eqCells_inv _ _ _ _ h2
  refine ⟨_, h3, fun μ => .bool _, fun μ A' B' w hA hB => ⟨run_eqGuard_agg w op t x y A' B' hgd, ?_⟩⟩
  have hA' : A'.toList = A.toList := hc.same.1 hA
  have hB' : B'.toList = B.toList := hc.same.2 hB
  have hf : P.fieldsOf t = fs := by unfold Program.fieldsOf; rw [hu]
  have heq : (Op.equalIn 10000 t (.agg A') (.agg B')).run P w = .ok q w := by
    have h9 := run_equalIn_agg (P := P) w 9999 t A' B' (by rw [hf]; exact hu) hst
    rw [show (9999 + 1 : Nat) = 10000 from rfl] at h9
    rw [h9, hf]
    exact eqFields_cmps (P := P) w 9998 hc fs.toList 0 (by simpa using hA') (by simpa using hB') hkl (fun j f k hj hkj => by
      obtain ⟨g1, g2, _⟩ := hfs j f hj
      exact ⟨by omega, g2, hks j f k hj hkj⟩)
  rcases isEq_cases h1.1 with rfl | rfl
  · rw [run_eql_struct, heq]; rfl
  · rw [run_neq_struct, heq]; rfl
end
end Go.AM
