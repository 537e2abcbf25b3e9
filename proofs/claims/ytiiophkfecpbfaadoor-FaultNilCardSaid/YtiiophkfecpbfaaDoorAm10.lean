/-
  THE ABSTRACT MACHINE IS SOUND, OPERATION BY OPERATION (last part): every operation.
-/
import Derived.Test.YtiiophkfecpbfaaDoorAmE
set_option linter.unusedVariables false
set_option linter.unusedSimpArgs false
set_option linter.unusedSectionVars false
namespace Go.AM
open Go.RowKit
variable [Laid]

def okOp (P : Program) (o : Oper) : Bool :=
  okOper o && match o.op with
  | .build t _ => (match P.underlying t with | some (.struct fs) => fs.toList.all (fun f => (P.info? f.type).isSome) | some (.array _ e) => (P.info? e).isSome | _ => true)
  | .store t _ _ => (P.info? t).isSome
  | .binOp _ t _ _ _ => !isAg P t || (intStruct P t || (arrEq P t || flatEq P t))
  | .lookup t _ _ _ => isI64Map P t
  | .mapUpdate t _ _ _ => isI64Map P t
  | _ => true

section
variable {P : Program} {o : Oper} {fr : Fr} {r : Value × St}

/-- What one operation of the abstract machine tells of the real one. -/
def Told (P : Program) (o : Oper) (fr : Fr) (σ : St) (v : Value) (σ' : St) : Prop :=
  Sound P o fr σ v σ' ∧ (acts P o = false → σ' = σ ∧ (looks P o = false → Reckons P o fr v))
theorem Reckons.told {v : Value} (h : Reckons P o fr v) (σ : St) : Told P o fr σ v σ := ⟨(h.ran σ).sound, fun _ => ⟨rfl, fun _ => h⟩⟩
theorem told_r {K : Value → St → Res} {σ : St} (h : ∃ v, K v σ = some r ∧ Reckons P o fr v) : ∃ v σ', K v σ' = some r ∧ Told P o fr σ v σ' := by
  obtain ⟨v, h1, h2⟩ := h
  exact ⟨v, σ, h1, h2.told σ⟩
theorem told_a {K : Value → St → Res} {σ : St} (ha : acts P o = true) (h : ∃ v σ', K v σ' = some r ∧ Ran P o fr σ v σ') : ∃ v σ', K v σ' = some r ∧ Told P o fr σ v σ' := by
  obtain ⟨v, σ', h1, h2⟩ := h
  exact ⟨v, σ', h1, h2.sound, fun h => by rw [ha] at h; cases h⟩

theorem aOp_inv {call : FuncId → List Value → St → Res} (hcall : CallOK P call) {σ : St} {K : Value → St → Res} (hok : okOp P o = true) (h : aOp P call o fr σ K = some r) :
    ∃ v σ', K v σ' = some r ∧ Told P o fr σ v σ' := by
  unfold okOp at hok
  rw [Bool.and_eq_true] at hok
  obtain ⟨hop, hok⟩ := hok
  unfold okOper at hop
  unfold aOp at h
  split at h
  · rename_i x ho
    rw [ho] at hop; simp only [Op.operands, List.all_cons, List.all_nil, Bool.and_true] at hop
    exact told_r (op_move (K := fun v => K v σ) (.inl ho) hop h)
  · rename_i x ho
    rw [ho] at hop; simp only [Op.operands, List.all_cons, List.all_nil, Bool.and_true] at hop
    exact told_r (op_move (K := fun v => K v σ) (.inr ho) hop h)
  · rename_i c a b ho
    rw [ho] at hop; simp only [Op.operands, List.all_cons, List.all_nil, Bool.and_true, Bool.and_eq_true] at hop
    exact told_r (op_pick (K := fun v => K v σ) ho hop.1 hop.2.1 hop.2.2 h)
  · rename_i t ho
    exact told_a (by simp [acts, ho]) (op_alloc ho h)
  · rename_i t x ho
    rw [ho] at hop; simp only [Op.operands, List.all_cons, List.all_nil, Bool.and_true] at hop
    exact told_a (by simp [acts, ho]) (op_box ho hop h)
  · rename_i t ps ho
    rw [ho] at hop hok
    refine told_r (op_build (K := fun v => K v σ) ho (by simpa [Op.operands] using hop) (fun fs hu i f hf => ?_) (fun n e hu => ?_) h)
    · simp only [hu] at hok
      have := List.all_eq_true.1 hok f (List.mem_of_getElem? (by rw [Array.getElem?_toList]; exact hf))
      exact this
    · simpa only [hu] using hok
  · rename_i t n ps ho
    rw [ho] at hop
    exact told_a (by simp [acts, ho]) (op_buildSlice ho (by simpa [Op.operands] using hop) h)
  · rename_i t x ho
    rw [ho] at hop; simp only [Op.operands, List.all_cons, List.all_nil, Bool.and_true] at hop
    obtain ⟨v, h1, h2⟩ := op_load (K := fun v => K v σ) ho hop h
    exact ⟨v, σ, h1, h2.sound, fun _ => ⟨rfl, fun hl => by simp [looks, ho] at hl⟩⟩
  · rename_i t x y ho
    rw [ho] at hop hok; simp only [Op.operands, List.all_cons, List.all_nil, Bool.and_true, Bool.and_eq_true] at hop
    exact told_a (by simp [acts, ho]) (op_store ho hop.1 hop.2 hok h)
  · rename_i x ho
    rw [ho] at hop; simp only [Op.operands, List.all_cons, List.all_nil, Bool.and_true] at hop
    exact told_r (op_nilCheck ho hop h)
  · rename_i op t x y yt ho
    rw [ho] at hop hok; simp only [Op.operands, List.all_cons, List.all_nil, Bool.and_true, Bool.and_eq_true] at hop
    refine told_r (op_binOp (K := fun v => K v σ) ho hop.1 hop.2 (fun A B hb => ?_) h)
    have hb' := hb
    simp only [aBin, asAgL] at hb
    obtain ⟨h1, _⟩ := need_inv hb
    simp only [Bool.and_eq_true] at h1
    simp only [h1.2, Bool.not_true, Bool.false_or, Bool.or_eq_true] at hok
    rcases hok with hok | hok | hok
    · exact agg_ints hok A B hb'
    · exact agg_arr hok A B hb'
    · exact agg_flat hok A B hb'
  · rename_i op t x ho
    rw [ho] at hop; simp only [Op.operands, List.all_cons, List.all_nil, Bool.and_true] at hop
    exact told_r (op_unOp (K := fun v => K v σ) ho hop h)
  · rename_i s d x ho
    rw [ho] at hop; simp only [Op.operands, List.all_cons, List.all_nil, Bool.and_true] at hop
    obtain ⟨v, σ', h1, h2, h3⟩ := op_convert ho hop h
    exact ⟨v, σ', h1, h2.sound, h3⟩
  · rename_i t x ho
    rw [ho] at hop; simp only [Op.operands, List.all_cons, List.all_nil, Bool.and_true] at hop
    exact told_r (op_makeInterface (K := fun v => K v σ) ho hop h)
  · rename_i fn fs cs ho
    rw [ho] at hop; simp only [Op.operands, Array.toList_append, List.all_append, Bool.and_eq_true] at hop
    exact told_r (op_makeFunc (K := fun v => K v σ) ho hop.1 hop.2 h)
  · rename_i t ho; exact told_a (by simp [acts, ho]) (op_makeMap ho h)
  · rename_i t x y ho
    rw [ho] at hop; simp only [Op.operands, List.all_cons, List.all_nil, Bool.and_true, Bool.and_eq_true] at hop
    exact told_a (by simp [acts, ho]) (op_makeSlice ho hop.1 hop.2 h)
  · rename_i t x lo hi m ho
    rw [ho] at hop
    have hop2 : okOpnd x = true ∧ lo.toList.all okOpnd = true ∧ hi.toList.all okOpnd = true ∧ m.toList.all okOpnd = true := by
      cases lo <;> cases hi <;> cases m <;> simp_all [Op.operands]
    exact told_r (op_slice (K := fun v => K v σ) ho hop2.1 hop2.2.1 hop2.2.2.1 hop2.2.2.2 h)
  · rename_i t x f ho
    rw [ho] at hop; simp only [Op.operands, List.all_cons, List.all_nil, Bool.and_true] at hop
    exact told_r (op_fieldAddr (K := fun v => K v σ) ho hop h)
  · rename_i t x f ho
    rw [ho] at hop; simp only [Op.operands, List.all_cons, List.all_nil, Bool.and_true] at hop
    exact told_r (op_field (K := fun v => K v σ) ho hop h)
  · rename_i t x i ho
    rw [ho] at hop; simp only [Op.operands, List.all_cons, List.all_nil, Bool.and_true, Bool.and_eq_true] at hop
    exact told_r (op_indexAddr (K := fun v => K v σ) ho hop.1 hop.2 h)
  · rename_i t x i ho
    rw [ho] at hop; simp only [Op.operands, List.all_cons, List.all_nil, Bool.and_true, Bool.and_eq_true] at hop
    exact told_r (op_index (K := fun v => K v σ) ho hop.1 hop.2 h)
  · rename_i t x i ho
    rw [ho] at hop hok; simp only [Op.operands, List.all_cons, List.all_nil, Bool.and_true, Bool.and_eq_true] at hop
    obtain ⟨v, h1, h2⟩ := op_lookup (K := fun v => K v σ) ho hop.1 hop.2 hok h
    exact ⟨v, σ, h1, h2.sound, fun _ => ⟨rfl, fun hl => by simp [looks, ho] at hl⟩⟩
  · rename_i t m k x ho
    rw [ho] at hop hok; simp only [Op.operands, List.all_cons, List.all_nil, Bool.and_true, Bool.and_eq_true] at hop
    exact told_a (by simp [acts, ho]) (op_mapUpdate ho hop.1 hop.2.1 hop.2.2 hok h)
  · rename_i x i ho
    rw [ho] at hop; simp only [Op.operands, List.all_cons, List.all_nil, Bool.and_true] at hop
    exact told_r (op_extract (K := fun v => K v σ) ho hop h)
  · rename_i c ho
    rw [ho] at hop
    split at h
    · rename_i f hc
      simp only [Op.operands, Call.operands, hc, Array.toList_append, List.all_append, Bool.and_eq_true] at hop
      obtain ⟨v, σ', h1, h2⟩ := op_go hcall ho hc (by simpa using hop.1) hop.2 h
      exact ⟨v, σ', h1, h2, fun ha => by simp [acts, ho, hc] at ha⟩
    · rename_i b hc
      have hargs : c.args.toList.all okOpnd = true := by
        simp only [Op.operands, Call.operands, hc, Array.toList_append, List.all_append, Bool.and_eq_true] at hop
        exact hop.2
      cases b <;> try (obtain ⟨vs, h1, _⟩ := opnds_inv hargs h; cases h1; done)
      case append => exact told_a (by simp [acts, ho, hc]) (op_append ho hc hargs h)
      case copy => exact told_a (by simp [acts, ho, hc]) (op_copy ho hc hargs h)
      case len => exact told_r (op_len ho hc hargs h)
      case cap => exact told_r (op_cap ho hc hargs h)
      case max => exact told_r (op_maxmin (.inl ⟨rfl, rfl⟩) ho hc hargs h)
      case min => exact told_r (op_maxmin (.inr ⟨rfl, rfl⟩) ho hc hargs h)
    · rename_i x m hc
      simp only [Op.operands, Call.operands, hc, Array.toList_append, List.all_append, Bool.and_eq_true] at hop
      obtain ⟨v, σ', h1, h2⟩ := op_invoke hcall ho hc (by simpa using hop.1) hop.2 h
      exact ⟨v, σ', h1, h2, fun ha => by simp [acts, ho, hc] at ha⟩
  · cases h

end
end Go.AM
