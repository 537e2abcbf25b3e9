/-
  THE ABSTRACT MACHINE IS SOUND: '==' of structs of whole numbers, texts, bools.
-/
import Derived.Test.YtiiophkfecpbfaaDoorAmM
import Derived.Laws.StructEq
import Derived.ChangeKeysEq
set_option linter.unusedVariables false
set_option linter.unusedSimpArgs false
set_option linter.unusedSectionVars false
namespace Go.AM
open Go.RowKit
variable [Laid]

section
variable {P : Program} {r : Value × St}

/-- What kind a field is of, if it is one that '==' is told of here. -/
def kdOf (P : Program) (t : TypeId) : Option Kd := match P.underlying t with | some (.int k) => some (.i k) | some .string => some .s | some .bool => some .b | _ => none
/-- A struct whose fields are whole numbers, texts, bools, one cell each, one behind the other. -/
def intStruct (P : Program) (t : TypeId) : Bool :=
  match P.underlying t with
  | some (.struct fs) => ((List.range fs.toList.length).all fun i => match fs.toList[i]? with | some f => Nat.beq f.offset i && (f.name != "_") && (kdOf P f.type).isSome | none => false) && !P.stoodInHeld t && !P.eqGuardType P.depth t
  | _ => false
theorem intStruct_inv {t : TypeId} (h : intStruct P t = true) : ∃ fs, P.underlying t = some (.struct fs) ∧ P.stoodInHeld t = false ∧ P.eqGuardType P.depth t = false ∧ ∀ (i : Nat) f, fs.toList[i]? = some f → f.offset = i ∧ f.name ≠ "_" ∧ ∃ k, kdOf P f.type = some k := by
  unfold intStruct at h
  split at h
  · rename_i fs hu
    simp only [Bool.and_eq_true, Bool.not_eq_true'] at h
    obtain ⟨⟨h1, h2⟩, h3⟩ := h
    refine ⟨fs, hu, h2, h3, fun i f hf => ?_⟩
    have h4 := List.all_eq_true.1 h1 i (List.mem_range.2 (List.getElem?_eq_some_iff.1 hf).1)
    rw [hf] at h4
    simp only [Bool.and_eq_true] at h4
    obtain ⟨⟨a1, a2⟩, a3⟩ := h4
    exact ⟨Nat.eq_of_beq_eq_true a1, by simpa using a2, Option.isSome_iff_exists.1 a3⟩
  · cases h

/-- Two values of a kind, compared. -/
inductive Cmp : Kd → Value → Value → Bool → Prop where
  | i (k : IntKind) (a b : Int) : Cmp (.i k) (.int k a) (.int k b) (a == b)
  | s (a b : ByteArray) : Cmp .s (.string a) (.string b) (a == b)
  | b (a b : Bool) : Cmp .b (.bool a) (.bool b) (a == b)
inductive Cmps : List Kd → List Value → List Value → Bool → Prop where
  | nil : Cmps [] [] [] true
  | cons {k : Kd} {x y : Value} {q : Bool} {ks : List Kd} {X Y : List Value} {q' : Bool} : Cmp k x y q → Cmps ks X Y q' → Cmps (k :: ks) (x :: X) (y :: Y) (q && q')

theorem eqCells_inv {α : Type} {r : α} : ∀ (ks : List Kd) (X Y : List Value) (K : Bool → Option α), eqCells ks X Y K = some r → ∃ q, Cmps ks X Y q ∧ K q = some r := by
  intro ks X Y K h
  fun_induction eqCells ks X Y K
  · exact ⟨true, .nil, h⟩
  · rename_i ih
    obtain ⟨a, ea, h4⟩ := asB_inv h
    obtain ⟨b, eb, h5⟩ := asB_inv h4
    subst ea
    subst eb
    obtain ⟨q, h1, h2⟩ := ih a b h5
    exact ⟨_, .cons (.b a b) h1, h2⟩
  · rename_i ih
    obtain ⟨a, ea, h4⟩ := asI_inv h
    obtain ⟨b, eb, h5⟩ := asI_inv h4
    subst ea
    subst eb
    obtain ⟨q, h1, h2⟩ := ih a b h5
    exact ⟨_, .cons (.i _ a b) h1, h2⟩
  · rename_i ih
    obtain ⟨a, ea, h4⟩ := asS_inv h
    obtain ⟨b, eb, h5⟩ := asS_inv h4
    subst ea
    subst eb
    obtain ⟨q, h1, h2⟩ := ih a b h5
    exact ⟨_, .cons (.s a b) h1, h2⟩
  · cases h

theorem Cmps.same {ks : List Kd} {X Y : List Value} {q : Bool} (h : Cmps ks X Y q) {μ : Mp} : (∀ {Z : List Value}, LRel μ X Z → Z = X) ∧ (∀ {Z : List Value}, LRel μ Y Z → Z = Y) := by
  induction h with
  | nil => exact ⟨fun h => h.inv_nil, fun h => h.inv_nil⟩
  | cons hc _ ih =>
    refine ⟨fun hz => ?_, fun hz => ?_⟩
    · obtain ⟨y, m, rfl, h1, h2⟩ := hz.inv
      rw [ih.1 h2]
      cases hc with
      | i => rw [h1.int_inv]
      | s => rw [h1.string_inv]
      | b => rw [h1.bool_inv]
    · obtain ⟨y, m, rfl, h1, h2⟩ := hz.inv
      rw [ih.2 h2]
      cases hc with
      | i => rw [h1.int_inv]
      | s => rw [h1.string_inv]
      | b => rw [h1.bool_inv]

theorem run_part_kd {t : TypeId} {k : Kd} {cs : Array Value} {off : Nat} {v : Value} (w : World) (hu : kdOf P t = some k) (h : cs[off]? = some v) : (part t cs off).run P w = .ok v w := by
  unfold kdOf at hu
  split at hu
  · rename_i e; simp [part, isAgg, run_underlying e, h]
  · rename_i e; simp [part, isAgg, run_underlying e, h]
  · rename_i e; simp [part, isAgg, run_underlying e, h]
  · cases hu

theorem run_equalIn_kd {t : TypeId} {k : Kd} {x y : Value} {q : Bool} (w : World) (d : Nat) (hu : kdOf P t = some k) (h : Cmp k x y q) : (Op.equalIn (d + 1) t x y).run P w = .ok q w := by
  unfold kdOf at hu
  split at hu
  · rename_i k' e
    cases hu
    cases h
    exact run_equalIn_int w d t _ _ _ _ e
  · rename_i e
    cases hu
    cases h
    rw [run_equalIn_string w d t _ _ e, beq_toListBytes]
  · rename_i e
    cases hu
    cases h
    exact run_equalIn_bool' w d t _ _ e
  · cases hu

theorem eqFields_cmps (w : World) (d : Nat) {A B : Array Value} {ks : List Kd} {X Y : List Value} {q : Bool} (h : Cmps ks X Y q) : ∀ (fs : List Field) (i : Nat), A.toList.drop i = X → B.toList.drop i = Y → fs.length = ks.length →
    (∀ (j : Nat) f k, fs[j]? = some f → ks[j]? = some k → f.offset = i + j ∧ f.name ≠ "_" ∧ kdOf P f.type = some k) → (Op.eqFields (d + 1) A B fs).run P w = .ok q w := by
  induction h with
  | nil =>
    intro fs i _ _ hl _
    have : fs = [] := List.length_eq_zero_iff.1 (by simpa using hl)
    subst this
    simp [Op.eqFields]
  | @cons k x y q ks X Y q' hc _ ih =>
    intro fs i hA hB hl hf
    cases fs with
    | nil => simp at hl
    | cons f fs =>
      obtain ⟨h1, h2, h3⟩ := hf 0 f k rfl rfl
      have ha : A[i]? = some x := by rw [← Array.getElem?_toList, ← Nat.add_zero i, ← List.getElem?_drop, hA]; rfl
      have hb : B[i]? = some y := by rw [← Array.getElem?_toList, ← Nat.add_zero i, ← List.getElem?_drop, hB]; rfl
      have pa := run_part_kd (P := P) (cs := A) (off := f.offset) (v := x) w h3 (by rw [h1]; exact ha)
      have pb := run_part_kd (P := P) (cs := B) (off := f.offset) (v := y) w h3 (by rw [h1]; exact hb)
      have ih' := ih fs (i + 1) (by rw [← List.drop_drop, hA]; rfl) (by rw [← List.drop_drop, hB]; rfl) (by simpa using hl) (fun j g k' hg hk => by
        obtain ⟨g1, g2, g3⟩ := hf (j + 1) g k' (by simpa using hg) (by simpa using hk)
        exact ⟨by omega, g2, g3⟩)
      simp only [Op.eqFields, if_pos h2, Sem.run_bind, pa, pb, Result.andThen_ok, run_equalIn_kd w d h3 hc]
      cases q with
      | true =>
        simp only [Bool.not_true, Bool.false_eq_true, if_false, Bool.true_and]
        exact ih'
      | false => simp

theorem eqKds_kd : ∀ (fs : List Field), (∀ f ∈ fs, f.name ≠ "_" ∧ ∃ k, kdOf P f.type = some k) → ∀ n, ∃ ks, fs.foldr (fun f acc => match f.name == "_", eqKds P (n + 1) f.type, acc with | false, some a, some b => some (a ++ b) | _, _, _ => none) (some []) = some ks ∧
    fs.length = ks.length ∧ ∀ (j : Nat) f k, fs[j]? = some f → ks[j]? = some k → kdOf P f.type = some k
  | [], _, n => ⟨[], rfl, rfl, fun j f k h => by simp at h⟩
  | f :: fs, h, n => by
    obtain ⟨h1, k, h2⟩ := h f (by simp)
    obtain ⟨ks, e, hl, hk⟩ := eqKds_kd fs (fun g hg => h g (by simp [hg])) n
    have hn : (f.name == "_") = false := by simpa using h1
    have hkd : eqKds P (n + 1) f.type = some [k] := by
      unfold kdOf at h2
      unfold eqKds
      split at h2 <;> (rename_i e1; first | (cases h2; rw [e1]) | cases h2)
    refine ⟨k :: ks, ?_, by simp [hl], fun j g k' hg hk' => ?_⟩
    · rw [List.foldr_cons, e, hn, hkd]; rfl
    · cases j with
      | zero => simp at hg hk'; subst hg; subst hk'; exact h2
      | succ j => exact hk j g k' (by simpa using hg) (by simpa using hk')

theorem agg_ints {op : BinOp} {t : TypeId} {cy : Bool} {x y : Operand} {K : Value → Res} (hi : intStruct P t = true) (A B : Array Value) (h : aBin P op t cy (.agg A) (.agg B) K = some r) :
    ∃ v, K v = some r ∧ (∀ μ, VRel μ v v) ∧ ∀ (μ : Mp) (A' B' : Array Value) (w : World), LRel μ A.toList A'.toList → LRel μ B.toList B'.toList →
      (eqGuard op t x y (.agg A') (.agg B')).run P w = .ok () w ∧ (binOp op t (.agg A') (.agg B')).run P w = .ok v w := by
  obtain ⟨fs, hu, hst, hgd, hfs⟩ := intStruct_inv hi
  simp only [aBin, asAgL] at h
  obtain ⟨h1, h2⟩ := need_inv h
  simp only [Bool.and_eq_true] at h1
  obtain ⟨ks, hk, hkl, hks⟩ := eqKds_kd (P := P) fs.toList (fun f hf => by
      obtain ⟨j, hj, rfl⟩ := List.getElem_of_mem hf
      exact (hfs j _ (List.getElem?_eq_getElem hj)).2) 18
  have hk : eqKds P 20 t = some ks := by
    unfold eqKds
    rw [hu]
    exact hk
  rw [hk] at h2
  obtain ⟨q, hc, h3⟩ := eqCells_inv _ _ _ _ h2
  refine ⟨_, h3, fun μ => .bool _, fun μ A' B' w hA hB => ⟨run_eqGuard_agg w op t x y A' B' hgd, ?_⟩⟩
  have hA' : A'.toList = A.toList := hc.same.1 hA
  have hB' : B'.toList = B.toList := hc.same.2 hB
  have hf : P.fieldsOf t = fs := by unfold Program.fieldsOf; rw [hu]
  have heq : (Op.equalIn 10000 t (.agg A') (.agg B')).run P w = .ok q w := by
    have h9 := run_equalIn_agg (P := P) w 9999 t A' B' (by rw [hf]; exact hu) hst
    rw [show (9999 + 1 : Nat) = 10000 from rfl] at h9
    rw [h9, hf]
    exact eqFields_cmps (P := P) w 9998 hc fs.toList 0 (by simpa using hA') (by simpa using hB') hkl (fun j f k hj hkj => by
      obtain ⟨g1, g2, _⟩ := hfs j f hj
      exact ⟨by omega, g2, hks j f k hj hkj⟩)
  rcases isEq_cases h1.1 with rfl | rfl
  · rw [run_eql_struct, heq]; rfl
  · rw [run_neq_struct, heq]; rfl
/-! '==' of arrays of arrays of such. -/
/-- An array of arrays of whole numbers, texts, bools. -/
def arrEq (P : Program) (t : TypeId) : Bool :=
  match P.underlying t with
  | some (.array _ e) => (match P.underlying e with
    | some (.array n' e') => (kdOf P e').isSome && (Nat.beq (P.cellsOf e) n' && (Nat.beq (P.cellsOf e') 1 && ((P.info? e).isSome && (P.info? e').isSome))) && !P.eqGuardType P.depth t
    | _ => false)
  | _ => false
theorem arrEq_inv {t : TypeId} (h : arrEq P t = true) : ∃ n e n' e' k, P.underlying t = some (.array n e) ∧ P.underlying e = some (.array n' e') ∧ kdOf P e' = some k ∧ P.cellsOf e = n' ∧ P.cellsOf e' = 1 ∧ (∃ i, P.info? e = some i) ∧ (∃ i, P.info? e' = some i) ∧ P.eqGuardType P.depth t = false := by
  unfold arrEq at h
  split at h
  · rename_i n e hu
    split at h
    · rename_i n' e' hu'
      simp only [Bool.and_eq_true, Bool.not_eq_true'] at h
      obtain ⟨⟨h1, h2, h3, h4, h5⟩, h6⟩ := h
      obtain ⟨k, hk⟩ := Option.isSome_iff_exists.1 h1
      exact ⟨n, e, n', e', k, hu, hu', hk, Nat.eq_of_beq_eq_true h2, Nat.eq_of_beq_eq_true h3, Option.isSome_iff_exists.1 h4, Option.isSome_iff_exists.1 h5, h6⟩
    · cases h
  · cases h

theorem Cmps.len {ks : List Kd} {X Y : List Value} {q : Bool} (h : Cmps ks X Y q) : X.length = ks.length ∧ Y.length = ks.length := by
  induction h with
  | nil => exact ⟨rfl, rfl⟩
  | cons _ _ ih => exact ⟨by simp [ih.1], by simp [ih.2]⟩
theorem Cmps.split : ∀ {ks ks' : List Kd} {X Y : List Value} {q : Bool}, Cmps (ks ++ ks') X Y q → ∃ X1 X2 Y1 Y2 q1 q2, X = X1 ++ X2 ∧ Y = Y1 ++ Y2 ∧ q = (q1 && q2) ∧ Cmps ks X1 Y1 q1 ∧ Cmps ks' X2 Y2 q2
  | [], ks', X, Y, q, h => ⟨[], X, [], Y, true, q, rfl, rfl, by simp, .nil, h⟩
  | k :: ks, ks', _, _, _, .cons hc h => by
    obtain ⟨X1, X2, Y1, Y2, q1, q2, rfl, rfl, rfl, h1, h2⟩ := Cmps.split h
    exact ⟨_ :: X1, X2, _ :: Y1, Y2, _, q2, rfl, rfl, by rw [Bool.and_assoc], .cons hc h1, h2⟩

theorem eqItems_cmps (w : World) (d : Nat) {e : TypeId} {k : Kd} (hk : kdOf P e = some k) {A B : Array Value} : ∀ (m j : Nat) {X Y X' Y' : List Value} {q : Bool}, A.toList.drop j = X ++ X' → B.toList.drop j = Y ++ Y' → Cmps (List.replicate m k) X Y q →
    (Op.eqItems (d + 1) e 1 A B (List.range' j m)).run P w = .ok q w
  | 0, j, X, Y, X', Y', q, hA, hB, h => by
    cases h
    simp [Op.eqItems]
  | m + 1, j, X, Y, X', Y', q, hA, hB, h => by
    rw [List.replicate_succ] at h
    cases h with
    | @cons _ x y q1 _ X Y q2 hc h =>
      have ha : A[j]? = some x := by rw [← Array.getElem?_toList, ← Nat.add_zero j, ← List.getElem?_drop, hA]; rfl
      have hb : B[j]? = some y := by rw [← Array.getElem?_toList, ← Nat.add_zero j, ← List.getElem?_drop, hB]; rfl
      have pa := run_part_kd (P := P) (cs := A) (off := j * 1) (v := x) w hk (by rw [Nat.mul_one]; exact ha)
      have pb := run_part_kd (P := P) (cs := B) (off := j * 1) (v := y) w hk (by rw [Nat.mul_one]; exact hb)
      have ih := eqItems_cmps w d hk (A := A) (B := B) m (j + 1) (X := X) (Y := Y) (X' := X') (Y' := Y') (by rw [← List.drop_drop, hA]; rfl) (by rw [← List.drop_drop, hB]; rfl) h
      rw [List.range'_succ]
      simp only [Op.eqItems, Sem.run_bind, pa, pb, Result.andThen_ok, run_equalIn_kd w d hk hc]
      cases q1 with
      | true => simpa using ih
      | false => simp

theorem run_part_arr {t e : TypeId} {n : Nat} {i : TypeInfo} {cs : Array Value} {off : Nat} {X Z : List Value} (w : World) (hu : P.underlying t = some (.array n e)) (hi : P.info? t = some i) (hc : P.cellsOf t = n) (h : cs.toList.drop off = X ++ Z) (hX : X.length = n) : (part t cs off).run P w = .ok (.agg X.toArray) w := by
  have hl : cs.extract off (off + n) = X.toArray := by
    apply Array.toList_inj.1
    rw [Array.toList_extract]
    simp only [List.extract, Nat.add_sub_cancel_left]
    rw [h, List.take_left' hX]
  simp [part, isAgg, run_underlying hu, run_sizeOf w hi, hc, hl, hX]

theorem eqItems2_cmps (w : World) (d : Nat) {e e' : TypeId} {n' : Nat} {k : Kd} {i i' : TypeInfo} (hu : P.underlying e = some (.array n' e')) (hk : kdOf P e' = some k) (hc : P.cellsOf e = n') (hc' : P.cellsOf e' = 1) (hi : P.info? e = some i) (hi' : P.info? e' = some i') {A B : Array Value} :
    ∀ (m j : Nat) {X Y X' Y' : List Value} {q : Bool}, A.toList.drop (j * n') = X ++ X' → B.toList.drop (j * n') = Y ++ Y' → Cmps (List.replicate m (List.replicate n' k)).flatten X Y q →
    (Op.eqItems (d + 2) e n' A B (List.range' j m)).run P w = .ok q w
  | 0, j, X, Y, X', Y', q, hA, hB, h => by
    cases h
    simp [Op.eqItems]
  | m + 1, j, X, Y, X', Y', q, hA, hB, h => by
    rw [List.replicate_succ, List.flatten_cons] at h
    obtain ⟨X1, X2, Y1, Y2, q1, q2, rfl, rfl, rfl, h1, h2⟩ := h.split
    have l1 := h1.len
    rw [List.length_replicate] at l1
    have pa := run_part_arr (P := P) (cs := A) (off := j * n') (X := X1) (Z := X2 ++ X') w hu hi hc (by rw [hA, List.append_assoc]) l1.1
    have pb := run_part_arr (P := P) (cs := B) (off := j * n') (X := Y1) (Z := Y2 ++ Y') w hu hi hc (by rw [hB, List.append_assoc]) l1.2
    have ih := eqItems2_cmps w d hu hk hc hc' hi hi' (A := A) (B := B) m (j + 1) (X := X2) (Y := Y2) (X' := X') (Y' := Y') (by rw [Nat.add_mul, Nat.one_mul, ← List.drop_drop, hA, List.append_assoc, List.drop_left' l1.1]) (by rw [Nat.add_mul, Nat.one_mul, ← List.drop_drop, hB, List.append_assoc, List.drop_left' l1.2]) h2
    have he : (Op.equalIn (d + 2) e (.agg X1.toArray) (.agg Y1.toArray)).run P w = .ok q1 w := by
      rw [run_equalIn_array (P := P) w (d + 1) X1.toArray Y1.toArray hu hi', hc', List.range_eq_range']
      exact eqItems_cmps w d hk n' 0 (X' := []) (Y' := []) (by simp) (by simp) h1
    rw [List.range'_succ]
    simp only [Op.eqItems, Sem.run_bind, pa, pb, Result.andThen_ok, he]
    cases q1 with
    | true => simpa using ih
    | false => simp

theorem agg_arr {op : BinOp} {t : TypeId} {cy : Bool} {x y : Operand} {K : Value → Res} (hi : arrEq P t = true) (A B : Array Value) (h : aBin P op t cy (.agg A) (.agg B) K = some r) :
    ∃ v, K v = some r ∧ (∀ μ, VRel μ v v) ∧ ∀ (μ : Mp) (A' B' : Array Value) (w : World), LRel μ A.toList A'.toList → LRel μ B.toList B'.toList →
      (eqGuard op t x y (.agg A') (.agg B')).run P w = .ok () w ∧ (binOp op t (.agg A') (.agg B')).run P w = .ok v w := by
  obtain ⟨n, e, n', e', k, hu, hu', hk, hc, hc', ⟨i, hie⟩, ⟨i', hie'⟩, hgd⟩ := arrEq_inv hi
  simp only [aBin, asAgL] at h
  obtain ⟨h1, h2⟩ := need_inv h
  simp only [Bool.and_eq_true] at h1
  have hkd : eqKds P 18 e' = some [k] := by
    unfold kdOf at hk
    unfold eqKds
    split at hk <;> (rename_i e1; first | (cases hk; rw [e1]) | cases hk)
  have hfl : (List.replicate n' [k]).flatten = List.replicate n' k := by
    clear hu' hc hkd h2 h1 hu hie
    induction n' with
    | zero => rfl
    | succ n ih => rw [List.replicate_succ, List.flatten_cons, ih, List.replicate_succ]; rfl
  have hkds : eqKds P 20 t = some (List.replicate n (List.replicate n' k)).flatten := by
    unfold eqKds
    rw [hu]
    simp only
    unfold eqKds
    rw [hu']
    simp only [hkd, hfl]
  rw [hkds] at h2
  obtain ⟨q, hcm, h3⟩ := eqCells_inv _ _ _ _ h2
  refine ⟨_, h3, fun μ => .bool _, fun μ A' B' w hA hB => ⟨run_eqGuard_agg w op t x y A' B' hgd, ?_⟩⟩
  have hA' : A'.toList = A.toList := hcm.same.1 hA
  have hB' : B'.toList = B.toList := hcm.same.2 hB
  have heq : (Op.equalIn 10000 t (.agg A') (.agg B')).run P w = .ok q w := by
    have h9 := run_equalIn_array (P := P) w 9999 A' B' hu hie
    rw [show (9999 + 1 : Nat) = 10000 from rfl] at h9
    rw [h9, hc, List.range_eq_range']
    exact eqItems2_cmps (P := P) w 9997 hu' hk hc hc' hie hie' n 0 (X' := []) (Y' := []) (by rw [Nat.zero_mul, List.drop_zero, List.append_nil]; exact hA') (by rw [Nat.zero_mul, List.drop_zero, List.append_nil]; exact hB') hcm
  rcases isEq_cases h1.1 with rfl | rfl
  · rw [run_eql_struct, heq]; rfl
  · rw [run_neq_struct, heq]; rfl
/-! '==' of arrays of whole numbers, texts, bools. -/
def flatEq (P : Program) (t : TypeId) : Bool :=
  match P.underlying t with
  | some (.array _ e) => (kdOf P e).isSome && (Nat.beq (P.cellsOf e) 1 && (P.info? e).isSome) && !P.eqGuardType P.depth t
  | _ => false
theorem flatEq_inv {t : TypeId} (h : flatEq P t = true) : ∃ n e k, P.underlying t = some (.array n e) ∧ kdOf P e = some k ∧ P.cellsOf e = 1 ∧ (∃ i, P.info? e = some i) ∧ P.eqGuardType P.depth t = false := by
  unfold flatEq at h
  split at h
  · rename_i n e hu
    simp only [Bool.and_eq_true, Bool.not_eq_true'] at h
    obtain ⟨⟨h1, h2, h3⟩, h6⟩ := h
    obtain ⟨k, hk⟩ := Option.isSome_iff_exists.1 h1
    exact ⟨n, e, k, hu, hk, Nat.eq_of_beq_eq_true h2, Option.isSome_iff_exists.1 h3, h6⟩
  · cases h
theorem agg_flat {op : BinOp} {t : TypeId} {cy : Bool} {x y : Operand} {K : Value → Res} (hi : flatEq P t = true) (A B : Array Value) (h : aBin P op t cy (.agg A) (.agg B) K = some r) :
    ∃ v, K v = some r ∧ (∀ μ, VRel μ v v) ∧ ∀ (μ : Mp) (A' B' : Array Value) (w : World), LRel μ A.toList A'.toList → LRel μ B.toList B'.toList →
      (eqGuard op t x y (.agg A') (.agg B')).run P w = .ok () w ∧ (binOp op t (.agg A') (.agg B')).run P w = .ok v w := by
  obtain ⟨n, e, k, hu, hk, hc, ⟨i, hie⟩, hgd⟩ := flatEq_inv hi
  simp only [aBin, asAgL] at h
  obtain ⟨h1, h2⟩ := need_inv h
  simp only [Bool.and_eq_true] at h1
  have hkd : eqKds P 19 e = some [k] := by
    unfold kdOf at hk
    unfold eqKds
    split at hk <;> (rename_i e1; first | (cases hk; rw [e1]) | cases hk)
  have hfl : ∀ n : Nat, (List.replicate n [k]).flatten = List.replicate n k := by
    intro n
    induction n with
    | zero => rfl
    | succ n ih => rw [List.replicate_succ, List.flatten_cons, ih, List.replicate_succ]; rfl
  have hkds : eqKds P 20 t = some (List.replicate n k) := by
    unfold eqKds
    rw [hu]
    simp only [hkd, hfl]
  rw [hkds] at h2
  obtain ⟨q, hcm, h3⟩ := eqCells_inv _ _ _ _ h2
  refine ⟨_, h3, fun μ => .bool _, fun μ A' B' w hA hB => ⟨run_eqGuard_agg w op t x y A' B' hgd, ?_⟩⟩
  have hA' : A'.toList = A.toList := hcm.same.1 hA
  have hB' : B'.toList = B.toList := hcm.same.2 hB
  have heq : (Op.equalIn 10000 t (.agg A') (.agg B')).run P w = .ok q w := by
    have h9 := run_equalIn_array (P := P) w 9999 A' B' hu hie
    rw [show (9999 + 1 : Nat) = 10000 from rfl] at h9
    rw [h9, hc, List.range_eq_range']
    exact eqItems_cmps (P := P) w 9998 hk n 0 (X' := []) (Y' := []) (by rw [List.drop_zero, List.append_nil]; exact hA') (by rw [List.drop_zero, List.append_nil]; exact hB') hcm
  rcases isEq_cases h1.1 with rfl | rfl
  · rw [run_eql_struct, heq]; rfl
  · rw [run_neq_struct, heq]; rfl
end
end Go.AM
