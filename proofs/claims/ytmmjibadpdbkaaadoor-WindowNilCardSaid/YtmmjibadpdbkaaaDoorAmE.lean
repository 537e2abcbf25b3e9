/-
  THE ABSTRACT MACHINE IS SOUND: '==' of structs of whole numbers.
-/
import Derived.Test.YtmmjibadpdbkaaaDoorAmM
import Derived.Laws.StructEq
set_option linter.unusedVariables false
set_option linter.unusedSimpArgs false
set_option linter.unusedSectionVars false
namespace Go.AM
open Go.RowKit
variable [Laid]

section
variable {P : Program} {r : Value × St}

/-- A struct whose fields are whole numbers, one cell each, one behind the other. -/
def intStruct (P : Program) (t : TypeId) : Bool :=
  match P.underlying t with
  | some (.struct fs) => ((List.range fs.toList.length).all fun i => match fs.toList[i]? with | some f => Nat.beq f.offset i && (f.name != "_") && (match P.underlying f.type with | some (.int .i64) => true | _ => false) | none => false) && !P.stoodInHeld t && !P.eqGuardType P.depth t
  | _ => false
theorem intStruct_inv {t : TypeId} (h : intStruct P t = true) : ∃ fs, P.underlying t = some (.struct fs) ∧ P.stoodInHeld t = false ∧ P.eqGuardType P.depth t = false ∧ ∀ (i : Nat) f, fs.toList[i]? = some f → f.offset = i ∧ f.name ≠ "_" ∧ P.underlying f.type = some (.int .i64) := by
  unfold intStruct at h
  split at h
  · rename_i fs hu
    simp only [Bool.and_eq_true, Bool.not_eq_true'] at h
    obtain ⟨⟨h1, h2⟩, h3⟩ := h
    refine ⟨fs, hu, h2, h3, fun i f hf => ?_⟩
    have h4 := List.all_eq_true.1 h1 i (List.mem_range.2 (List.getElem?_eq_some_iff.1 hf).1)
    rw [hf] at h4
    simp only [Bool.and_eq_true] at h4
    obtain ⟨⟨a1, a2⟩, a3⟩ := h4
    refine ⟨Nat.eq_of_beq_eq_true a1, by simpa using a2, ?_⟩
    split at a3
    · assumption
    · cases a3
  · cases h

theorem eqCells_inv {α : Type} {r : α} : ∀ (n : Nat) (X Y : List Value) (K : Bool → Option α), eqCells (List.replicate n (.i .i64)) X Y K = some r →
    ∃ la lb : List Int, X = la.map (Value.int .i64) ∧ Y = lb.map (Value.int .i64) ∧ la.length = n ∧ lb.length = n ∧ K (la == lb) = some r
  | 0, X, Y, K, h => by
    cases X <;> cases Y <;> simp [eqCells] at h
    exact ⟨[], [], rfl, rfl, rfl, rfl, h⟩
  | n + 1, X, Y, K, h => by
    cases X with
    | nil => simp [List.replicate_succ, eqCells] at h
    | cons x X =>
      cases Y with
      | nil => simp [List.replicate_succ, eqCells] at h
      | cons y Y =>
        have h0 : (asI .i64 x fun a => asI .i64 y fun b => eqCells (List.replicate n (.i .i64)) X Y fun r => K (a == b && r)) = some r := h
        obtain ⟨a, ea, h4⟩ := asI_inv h0
        obtain ⟨b, eb, h5⟩ := asI_inv h4
        subst ea
        subst eb
        obtain ⟨la, lb, rfl, rfl, h1, h2, h3⟩ := eqCells_inv n X Y _ h5
        exact ⟨a :: la, b :: lb, rfl, rfl, by simp [h1], by simp [h2], h3⟩

theorem LRel.ints {μ : Mp} : ∀ {la : List Int} {Y : List Value}, LRel μ (la.map (Value.int .i64)) Y → Y = la.map (Value.int .i64)
  | [], Y, h => h.inv_nil
  | a :: la, Y, h => by
    obtain ⟨y, m, rfl, h1, h2⟩ := h.inv
    rw [h1.int_inv, h2.ints]; rfl

theorem run_part_int {t : TypeId} {k : IntKind} {cs : Array Value} {off : Nat} {v : Value} (w : World) (hu : P.underlying t = some (.int k)) (h : cs[off]? = some v) : (part t cs off).run P w = .ok v w := by
  simp [part, isAgg, run_underlying hu, h]

theorem eqFields_ints (w : World) (d : Nat) {la lb : List Int} (hab : la.length = lb.length) : ∀ (fs : List Field) (i : Nat), i + fs.length = la.length → (∀ (j : Nat) f, fs[j]? = some f → f.offset = i + j ∧ f.name ≠ "_" ∧ P.underlying f.type = some (.int .i64)) →
    (Op.eqFields (d + 1) (la.map (Value.int .i64)).toArray (lb.map (Value.int .i64)).toArray fs).run P w = .ok (la.drop i == lb.drop i) w
  | [], i, hi, _ => by
    simp only [List.length_nil] at hi
    rw [List.drop_of_length_le (by omega), List.drop_of_length_le (by omega)]
    simp [Op.eqFields]
  | f :: fs, i, hi, hf => by
    simp only [List.length_cons] at hi
    obtain ⟨h1, h2, h3⟩ := hf 0 f rfl
    have ha : la[i]? = some la[i] := List.getElem?_eq_getElem (by omega)
    have hb : lb[i]? = some lb[i] := List.getElem?_eq_getElem (by omega)
    have hda : la.drop i = la[i] :: la.drop (i + 1) := List.drop_eq_getElem_cons (by omega)
    have hdb : lb.drop i = lb[i] :: lb.drop (i + 1) := List.drop_eq_getElem_cons (by omega)
    have ih := eqFields_ints w d hab fs (i + 1) (by omega) (fun j g hg => by
      obtain ⟨g1, g2, g3⟩ := hf (j + 1) g (by simpa using hg)
      exact ⟨by omega, g2, g3⟩)
    have pa : (part f.type (la.map (Value.int .i64)).toArray f.offset).run P w = .ok (.int .i64 la[i]) w := run_part_int w h3 (by rw [h1]; simp [ha])
    have pb : (part f.type (lb.map (Value.int .i64)).toArray f.offset).run P w = .ok (.int .i64 lb[i]) w := run_part_int w h3 (by rw [h1]; simp [hb])
    rw [hda, hdb]
    simp only [Op.eqFields, if_pos h2, Sem.run_bind, pa, pb, Result.andThen_ok, run_equalIn_int w d f.type .i64 .i64 _ _ h3]
    show _ = Result.ok (la[i] == lb[i] && (la.drop (i + 1) == lb.drop (i + 1))) w
    by_cases he : la[i] = lb[i]
    · rw [show (la[i] == lb[i]) = true by simpa using he]
      simp only [Bool.not_true, Bool.false_eq_true, if_false, Bool.true_and]
      exact ih
    · rw [show (la[i] == lb[i]) = false by simpa using he]
      simp

theorem eqKds_ints : ∀ (fs : List Field), (∀ f ∈ fs, f.name ≠ "_" ∧ P.underlying f.type = some (.int .i64)) → ∀ n, fs.foldr (fun f acc => match f.name == "_", eqKds P (n + 1) f.type, acc with | false, some a, some b => some (a ++ b) | _, _, _ => none) (some []) = some (List.replicate fs.length (.i .i64))
  | [], _, n => rfl
  | f :: fs, h, n => by
    obtain ⟨h1, h2⟩ := h f (by simp)
    rw [List.foldr_cons, eqKds_ints fs (fun g hg => h g (by simp [hg])) n]
    have hn : (f.name == "_") = false := by simpa using h1
    have hk : eqKds P (n + 1) f.type = some [.i .i64] := by unfold eqKds; rw [h2]
    rw [hn, hk]
    simp [List.replicate_succ]

theorem agg_ints {op : BinOp} {t : TypeId} {cy : Bool} {x y : Operand} {K : Value → Res} (hi : intStruct P t = true) (A B : Array Value) (h : aBin P op t cy (.agg A) (.agg B) K = some r) :
    ∃ v, K v = some r ∧ (∀ μ, VRel μ v v) ∧ ∀ (μ : Mp) (A' B' : Array Value) (w : World), LRel μ A.toList A'.toList → LRel μ B.toList B'.toList →
      (eqGuard op t x y (.agg A') (.agg B')).run P w = .ok () w ∧ (binOp op t (.agg A') (.agg B')).run P w = .ok v w := by
  obtain ⟨fs, hu, hst, hgd, hfs⟩ := intStruct_inv hi
  simp only [aBin, asAgL] at h
  obtain ⟨h1, h2⟩ := need_inv h
  simp only [Bool.and_eq_true] at h1
  have hk : eqKds P 20 t = some (List.replicate fs.toList.length (.i .i64)) := by
    unfold eqKds
    rw [hu]
    exact eqKds_ints fs.toList (fun f hf => by
      obtain ⟨j, hj, rfl⟩ := List.getElem_of_mem hf
      exact (hfs j _ (List.getElem?_eq_getElem hj)).2) 18
  rw [hk] at h2
  obtain ⟨la, lb, ha, hb, la1, lb1, h3⟩ := eqCells_inv _ _ _ _ h2
  refine ⟨_, h3, fun μ => .bool _, fun μ A' B' w hA hB => ⟨run_eqGuard_agg w op t x y A' B' hgd, ?_⟩⟩
  rw [ha] at hA
  rw [hb] at hB
  have hA' : A' = (la.map (Value.int .i64)).toArray := by rw [← hA.ints]
  have hB' : B' = (lb.map (Value.int .i64)).toArray := by rw [← hB.ints]
  have hf : P.fieldsOf t = fs := by unfold Program.fieldsOf; rw [hu]
  have heq : (Op.equalIn 10000 t (.agg A') (.agg B')).run P w = .ok (la == lb) w := by
    have h9 := run_equalIn_agg (P := P) w 9999 t A' B' (by rw [hf]; exact hu) hst
    rw [show (9999 + 1 : Nat) = 10000 from rfl] at h9
    rw [h9, hf, hA', hB']
    have := eqFields_ints (P := P) w 9998 (la := la) (lb := lb) (by omega) fs.toList 0 (by omega) (fun j f hj => by
      obtain ⟨g1, g2, g3⟩ := hfs j f hj
      exact ⟨by omega, g2, g3⟩)
    rw [List.drop_zero, List.drop_zero] at this
    exact this
  rcases isEq_cases h1.1 with rfl | rfl
  · rw [run_eql_struct, heq]; rfl
  · rw [run_neq_struct, heq]; rfl
end
end Go.AM
