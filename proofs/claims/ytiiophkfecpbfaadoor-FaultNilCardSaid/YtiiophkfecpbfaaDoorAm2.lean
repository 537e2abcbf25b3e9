/-
  THE ABSTRACT MACHINE IS SOUND, OPERATION BY OPERATION (first part): what each word lets one conclude; operations that only reckon.
-/
import Derived.Test.YtiiophkfecpbfaaDoorAm1
import Derived.Laws.Tables
import Derived.Laws.Slices
import Derived.Laws.Strings
import Derived.Laws.Build
set_option linter.unusedVariables false
set_option linter.unusedSimpArgs false
set_option linter.unusedSectionVars false
namespace Go.AM
open Go.RowKit
variable [Laid]

section
variable {α : Type} {r : α}
theorem asB_inv {v : Value} {K : Bool → Option α} (h : asB v K = some r) : ∃ b, v = .bool b ∧ K b = some r := by
  unfold asB at h; split at h
  · exact ⟨_, rfl, h⟩
  · cases h
theorem asI_inv {k : IntKind} {v : Value} {K : Int → Option α} (h : asI k v K = some r) : ∃ n, v = .int k n ∧ K n = some r := by
  unfold asI at h; split at h
  · split at h
    · rename_i e; subst e; exact ⟨_, rfl, h⟩
    · cases h
  · cases h
theorem asS_inv {v : Value} {K : ByteArray → Option α} (h : asS v K = some r) : ∃ s, v = .string s ∧ K s = some r := by
  unfold asS at h; split at h
  · exact ⟨_, rfl, h⟩
  · cases h
theorem asSl_inv {v : Value} {K : Option Addr → Nat → Nat → Option α} (h : asSl v K = some r) : ∃ a n z, v = .slice a n z ∧ K a n z = some r := by
  unfold asSl at h; split at h
  · exact ⟨_, _, _, rfl, h⟩
  · cases h
theorem asP_inv {v : Value} {K : Option Addr → Option α} (h : asP v K = some r) : ∃ a, v = .pointer a ∧ K a = some r := by
  unfold asP at h; split at h
  · exact ⟨_, rfl, h⟩
  · cases h
theorem asM_inv {v : Value} {K : Option Nat → Option α} (h : asM v K = some r) : ∃ a, v = .map a ∧ K a = some r := by
  unfold asM at h; split at h
  · exact ⟨_, rfl, h⟩
  · cases h
theorem need_inv {b : Bool} {K : Option α} (h : need b K = some r) : b = true ∧ K = some r := by
  cases b
  · cases h
  · exact ⟨rfl, h⟩
theorem asA_inv {n : Nat} {v : Value} {K : List Value → Option α} (h : asA n v K = some r) : ∃ A, v = .agg A ∧ A.toList.length = n ∧ K A.toList = some r := by
  unfold asA at h; split at h
  · obtain ⟨h1, h2⟩ := need_inv h
    exact ⟨_, rfl, Nat.eq_of_beq_eq_true h1, h2⟩
  · cases h
theorem asT_inv {v : Value} {K : List Value → Option α} (h : asT v K = some r) : ∃ A, v = .tuple A ∧ K A.toList = some r := by
  unfold asT at h; split at h
  · exact ⟨_, rfl, h⟩
  · cases h
theorem asAgL_inv {v : Value} {K : List Value → Option α} (h : asAgL v K = some r) : ∃ A, v = .agg A ∧ K A.toList = some r := by
  unfold asAgL at h; split at h
  · exact ⟨_, rfl, h⟩
  · cases h
theorem uncons_inv {l : List Value} {K : Value → List Value → Option α} (h : uncons l K = some r) : ∃ x m, l = x :: m ∧ K x m = some r := by
  unfold uncons at h; split at h
  · exact ⟨_, _, rfl, h⟩
  · cases h
theorem endl_inv {l : List Value} {K : Option α} (h : endl l K = some r) : l = [] ∧ K = some r := by
  unfold endl at h; split at h
  · exact ⟨rfl, h⟩
  · cases h
theorem adr_inv {a : Option Addr} {K : Nat → Nat → Option α} (h : adr a K = some r) : ∃ q o, a = some ⟨q, o, none⟩ ∧ K q o = some r := by
  unfold adr at h; split at h
  · exact ⟨_, _, rfl, h⟩
  · cases h
theorem chk_inv {v u : Value} {K : Option α} (h : chk v u K = some r) : v = u ∧ K = some r := by
  unfold chk at h; split at h
  · exact ⟨‹_›, h⟩
  · cases h
theorem br_inv {b : Bool} {x y : Option α} (h : br b x y = some r) : (b = true ∧ x = some r) ∨ (b = false ∧ y = some r) := by
  cases b
  · exact .inr ⟨rfl, h⟩
  · exact .inl ⟨rfl, h⟩
theorem bnd_inv {x : Res} {K : Value → St → Option α} (h : bnd x K = some r) : ∃ v σ, x = some (v, σ) ∧ K v σ = some r := by
  unfold bnd at h; split at h
  · exact ⟨_, _, rfl, h⟩
  · cases h
theorem ld_inv {σ : St} {q o : Nat} {K : Value → Option α} (h : σ.ld q o K = some r) : ∃ v, σ.cell q o = some v ∧ K v = some r := by
  unfold St.ld at h; split at h
  · exact ⟨_, ‹_›, h⟩
  · cases h
theorem lds_inv {σ : St} {q o n : Nat} {K : List Value → Option α} (h : σ.lds q o n K = some r) : ∃ vs, σ.cells q = some vs ∧ o + n ≤ vs.length ∧ K ((vs.drop o).take n) = some r := by
  unfold St.lds at h; split at h
  · rename_i vs hv
    by_cases hn : o + n ≤ vs.length
    · rw [show decide (o + n ≤ vs.length) = true by simpa using hn] at h
      exact ⟨vs, hv, hn, h⟩
    · rw [show decide (o + n ≤ vs.length) = false by simpa using hn] at h
      cases h
  · cases h
theorem nth_inv {cs : List Value} {i : Nat} {K : Value → Option α} (h : nth cs i K = some r) : ∃ v, cs[i]? = some v ∧ K v = some r := by
  unfold nth at h; split at h
  · exact ⟨_, ‹_›, h⟩
  · cases h
theorem eqNil_inv {v : Value} {K : Bool → Option α} (h : eqNil v K = some r) : (v = .nilIface ∧ K true = some r) ∨ (∃ t u, v = .iface t u ∧ K false = some r) := by
  unfold eqNil at h; split at h
  · exact .inl ⟨rfl, h⟩
  · exact .inr ⟨_, _, rfl, h⟩
  · cases h
theorem eqErr_inv {v : Value} {t : TypeId} {k : IntKind} {c : Int} {K : Bool → Option α} (h : eqErr v t k c K = some r) :
    (v = .nilIface ∧ K false = some r) ∨ (∃ n, v = .iface t (.int k n) ∧ K (n == c) = some r) ∨ (∃ t' u, v = .iface t' u ∧ t' ≠ t ∧ K false = some r) := by
  unfold eqErr at h; split at h
  · exact .inl ⟨rfl, h⟩
  · rename_i t' u
    by_cases e : t' = t
    · subst e
      rw [show Nat.beq t' t' = true by simp] at h
      have h0 : asI k u (fun n => K (n == c)) = some r := by simpa using h
      obtain ⟨n, e, h1⟩ := asI_inv h0
      subst e
      exact .inr (.inl ⟨n, rfl, h1⟩)
    · rw [nbeq_ne e] at h
      exact .inr (.inr ⟨t', u, rfl, e, by simpa using h⟩)
  · cases h
theorem eqPtr_inv {v : Value} {t : TypeId} {b : Addr} {K : Bool → Option α} (h : eqPtr v t b K = some r) :
    (v = .nilIface ∧ K false = some r) ∨ (∃ q o, v = .iface t (.pointer (some ⟨q, o, none⟩)) ∧ b = ⟨q, o, none⟩ ∧ K true = some r) ∨ (∃ t' u, v = .iface t' u ∧ t' ≠ t ∧ K false = some r) := by
  unfold eqPtr at h; split at h
  · exact .inl ⟨rfl, h⟩
  · rename_i t' u
    by_cases e : t' = t
    · subst e
      rw [show Nat.beq t' t' = true by simp] at h
      simp only [cond_true] at h
      split at h
      · rename_i q o q' o'
        by_cases e2 : (Nat.beq q q' && Nat.beq o o') = true
        · rw [e2] at h
          simp at e2
          obtain ⟨rfl, rfl⟩ := e2
          exact .inr (.inl ⟨q, o, rfl, rfl, by simpa using h⟩)
        · simp only [Bool.not_eq_true] at e2
          rw [e2] at h
          cases h
      · cases h
    · rw [nbeq_ne e] at h
      exact .inr (.inr ⟨t', u, rfl, e, by simpa using h⟩)
  · cases h
theorem asBy_inv {cs : List Value} {K : List UInt8 → Option α} (h : asBy cs K = some r) : ∃ l, bytesIn cs = some l ∧ K l = some r := by
  unfold asBy at h; split at h
  · exact ⟨_, ‹_›, h⟩
  · cases h
end
theorem asF_inv {r : Value × St} {v : Value} {K : FuncId → List Value → List Value → Res} (h : asF v K = some r) : ∃ f A B, v = .func (.func f) A B ∧ K f A.toList B.toList = some r := by
  unfold asF at h; split at h
  · exact ⟨_, _, _, rfl, h⟩
  · cases h
theorem asAg_inv {r : Value × St} {v : Value} {K : List Value → Res} (h : asAg v K = some r) : ∃ A, v = .agg A ∧ K A.toList = some r := by
  unfold asAg at h; split at h
  · exact ⟨_, rfl, h⟩
  · cases h
theorem asTu_inv {r : Value × St} {v : Value} {K : List Value → Res} (h : asTu v K = some r) : ∃ A, v = .tuple A ∧ K A.toList = some r := by
  unfold asTu at h; split at h
  · exact ⟨_, rfl, h⟩
  · cases h
theorem elOf_inv {α : Type} {r : α} {P : Program} {t : TypeId} {K : TypeId → Option α} (h : elOf P t K = some r) : ∃ e, P.underlying t = some (.slice e) ∧ K e = some r := by
  unfold elOf at h; split at h
  · exact ⟨_, ‹_›, h⟩
  · cases h
theorem fieldOf_inv {α : Type} {r : α} {P : Program} {t : TypeId} {f : Nat} {K : Nat → TypeId → Option α} (h : fieldOf P t f K = some r) : ∃ fs x, P.underlying t = some (.struct fs) ∧ fs[f]? = some x ∧ K x.offset x.type = some r := by
  unfold fieldOf at h; split at h
  · split at h
    · exact ⟨_, _, ‹_›, ‹_›, h⟩
    · cases h
  · cases h

/-- A value that is laid open is itself. -/
theorem dstr0_inv {α : Type} {r : α} {k : Kd} {v : Value} {K : Value → Option α} (h : dstr0 k v K = some r) : K v = some r := by
  cases k <;> simp only [dstr0] at h
  case b => obtain ⟨_, rfl, h⟩ := asB_inv h; exact h
  case i => obtain ⟨_, e, h1⟩ := asI_inv h; subst e; exact h1
  case s => obtain ⟨_, rfl, h⟩ := asS_inv h; exact h
  case sl => obtain ⟨_, _, _, rfl, h⟩ := asSl_inv h; exact h
  case p => obtain ⟨_, rfl, h⟩ := asP_inv h; exact h
  case e => exact h
  case f => exact h
  case m => obtain ⟨_, rfl, h⟩ := asM_inv h; exact h
  all_goals cases h
theorem dstrC_inv {α : Type} {r : α} : ∀ {cs : List Nat} {vs : List Value} {K : List Value → Option α}, dstrC cs vs K = some r → K vs = some r
  | [], vs, K, h => by obtain ⟨rfl, h1⟩ := endl_inv h; exact h1
  | c :: cs, vs, K, h => by
    simp only [dstrC] at h
    obtain ⟨x, m, rfl, h1⟩ := uncons_inv h
    exact dstrC_inv (K := fun us => K (x :: us)) (dstr0_inv h1)
theorem dstrL_inv {α : Type} {r : α} {cs : List Nat} {vs : List Value} {K : List Value → Option α} (h : dstrL cs vs K = some r) : K vs = some r := by
  unfold dstrL at h
  cases hb : Nat.ble cs.length 12 with
  | true => rw [hb] at h; exact dstrC_inv h
  | false => rw [hb] at h; exact h
theorem dstr1_inv {α : Type} {r : α} {k : Kd} {v : Value} {K : Value → Option α} (h : dstr1 k v K = some r) : K v = some r := by
  unfold dstr1 at h
  split at h
  · obtain ⟨A, rfl, h1⟩ := asAgL_inv h
    have := dstrL_inv h1
    exact this
  · exact dstr0_inv h
theorem dstrs_inv {α : Type} {r : α} : ∀ {ts : List Kd} {vs : List Value} {K : List Value → Option α}, dstrs ts vs K = some r → K vs = some r
  | [], vs, K, h => by obtain ⟨rfl, h1⟩ := endl_inv h; exact h1
  | t :: ts, vs, K, h => by
    simp only [dstrs] at h
    obtain ⟨x, m, rfl, h1⟩ := uncons_inv h
    exact dstrs_inv (K := fun us => K (x :: us)) (dstr1_inv h1)
theorem dstr_inv {α : Type} {r : α} {P : Program} {t : TypeId} {v : Value} {K : Value → Option α} (h : dstr P t v K = some r) : K v = some r := by
  unfold dstr at h
  split at h
  · obtain ⟨A, rfl, h⟩ := asT_inv h
    have := dstrs_inv h
    exact this
  · exact dstr1_inv h

theorem plain1_rel (μ : Mp) : ∀ v, plain1 v = true → VRel μ v v := by
  intro v h
  cases v <;> simp only [plain1] at h <;> try (cases h; done)
  case bool b => exact .bool b
  case int k n => exact .int k n
  case string s => exact .string s
  case pointer a => cases a <;> simp at h; exact .ptr0
  case slice a n z =>
    cases a with
    | some a => simp at h
    | none =>
      cases n with
      | succ n => simp at h
      | zero => cases z with
        | zero => exact .sl0
        | succ z => simp at h
  case map r => cases r <;> simp at h; exact .map0
  case nilFunc => exact .nilFunc
  case nilIface => exact .nilIface
theorem plain_rel (μ : Mp) (v : Value) (h : plainV v = true) : VRel μ v v := by
  cases v
  case agg A =>
    refine .agg rfl fun i x y hx hy => ?_
    rw [hx] at hy
    cases hy
    exact plain1_rel μ x (List.all_eq_true.1 h x (List.mem_of_getElem? hx))
  all_goals exact plain1_rel μ _ h

/-! ### Operands -/
def opT (x : Operand) : List Nat := match x with | .tmp t => [t] | _ => []
def slots (o : Oper) : List Nat := o.op.operands.toList.flatMap opT
def okOpnd (x : Operand) : Bool := match x with | .const v => plainV v | .global _ => false | _ => true
def okOper (o : Oper) : Bool := o.op.operands.toList.all okOpnd

theorem eval_of {a : Act} {t : Nat} {v : Value} (h : a.tmps[t]? = some v) : a.eval (.tmp t) = v := by simp [Act.eval, h]

theorem opnd_inv {α : Type} {r : α} {fr : Fr} {x : Operand} {K : Value → Option α} (hx : okOpnd x = true) (h : opnd fr x K = some r) :
    ∃ v, K v = some r ∧ ∀ (μ : Mp) (a : Act) (S : List Nat), (∀ t ∈ opT x, t ∈ S) → FrOn μ fr a S → VRel μ v (a.eval x) := by
  cases x with
  | tmp t =>
    simp only [opnd] at h
    split at h
    · rename_i v hv
      refine ⟨v, h, fun μ a S hs hf => ?_⟩
      obtain ⟨v', h1, h2⟩ := hf t (hs t (by simp [opT])) v hv
      rw [eval_of h1]
      exact h2
    · cases h
  | const v => exact ⟨v, h, fun μ a S _ _ => plain_rel μ v hx⟩
  | global g => cases hx
  | func f => exact ⟨_, h, fun μ a S _ _ => .func _ rfl (fun i x y h => by simp at h) rfl (fun i x y h => by simp at h)⟩

theorem opnds_inv {α : Type} {r : α} {fr : Fr} : ∀ {l : List Operand} {K : List Value → Option α}, l.all okOpnd = true → opnds fr l K = some r →
    ∃ vs, K vs = some r ∧ ∀ (μ : Mp) (a : Act) (S : List Nat), (∀ t ∈ l.flatMap opT, t ∈ S) → FrOn μ fr a S → LRel μ vs (l.map a.eval)
  | [], K, _, h => ⟨[], h, fun μ a S _ _ => .nil μ⟩
  | x :: l, K, hx, h => by
    simp only [List.all_cons, Bool.and_eq_true] at hx
    simp only [opnds] at h
    obtain ⟨v, h, hv⟩ := opnd_inv hx.1 h
    obtain ⟨vs, h, hvs⟩ := opnds_inv hx.2 h
    exact ⟨v :: vs, h, fun μ a S hs hf => .cons (hv μ a S (fun t ht => hs t (by simp [ht])) hf) (hvs μ a S (fun t ht => hs t (by simp only [List.flatMap_cons, List.mem_append]; exact .inr ht)) hf)⟩

/-! ### What an operation must bring -/
/-- It runs, in every world that fits, to a value and a world that fit. -/
def Ran (P : Program) (o : Oper) (fr : Fr) (σ : St) (v : Value) (σ' : St) : Prop :=
  ∀ (W : Base) (μ : Mp) (a : Act) (w : World), FrOn μ fr a (slots o) → Rel W μ σ w →
    ∃ n v' w' μ', (execOp a.eval o).run P w = .ok n w' ∧ (n = .value v' ∨ (n = .skip ∧ v' = undef)) ∧ μ.le μ' ∧ VRel μ' v v' ∧ Rel W μ' σ' w'
/-- It only reckons. -/
def Reckons (P : Program) (o : Oper) (fr : Fr) (v : Value) : Prop :=
  ∀ (μ : Mp) (a : Act) (w : World), FrOn μ fr a (slots o) → ∃ v', (execOp a.eval o).run P w = .ok (.value v') w ∧ VRel μ v v'
theorem Reckons.ran {P : Program} {o : Oper} {fr : Fr} {v : Value} (h : Reckons P o fr v) (σ : St) : Ran P o fr σ v σ := by
  intro W μ a w hf hr
  obtain ⟨v', h1, h2⟩ := h μ a w hf
  exact ⟨_, v', w, μ, h1, .inl rfl, Mp.le.refl μ, h2, hr⟩
def Sound (P : Program) (o : Oper) (fr : Fr) (σ : St) (v : Value) (σ' : St) : Prop :=
  ∀ (W : Base) (μ : Mp) (a : Act) (w : World), FrOn μ fr a (slots o) → Rel W μ σ w → ∀ (next : Act → World → Prop) (Q : Exit → Act → World → Prop),
    (∀ v' w' μ', μ.le μ' → VRel μ' v v' → Rel W μ' σ' w' → next (a.put o.dst v') w') → o.wp P a w next Q
theorem Ran.sound {P : Program} {o : Oper} {fr : Fr} {σ σ' : St} {v : Value} (h : Ran P o fr σ v σ') : Sound P o fr σ v σ' := by
  intro W μ a w hf hr next Q hn
  obtain ⟨n, v', w', μ', h1, h2, h3, h4, h5⟩ := h W μ a w hf hr
  unfold Oper.wp
  rw [h1]
  rcases h2 with rfl | ⟨rfl, rfl⟩
  · exact hn v' w' μ' h3 h4 h5
  · exact hn undef w' μ' h3 h4 h5

theorem info_of {P : Program} {t : TypeId} {d : TypeDesc} (h : P.underlying t = some d) : ∃ i, P.info? t = some i := by
  unfold Program.underlying at h
  cases hi : P.info? t with
  | none => rw [hi] at h; cases h
  | some i => exact ⟨i, rfl⟩
theorem szOf_eq {P : Program} {t : TypeId} {i : TypeInfo} (h : P.info? t = some i) : szOf P t = i.size := by simp [szOf, h]
theorem bytesOf_eq {P : Program} {t : TypeId} {i : TypeInfo} (h : P.info? t = some i) : bytesOf P t = i.bytes := by simp [bytesOf, h]
theorem zeroOf_inv {P : Program} {t : TypeId} {z : Value} (h : zeroOf P t = some z) : ∃ i, P.info? t = some i ∧ i.zero = some z ∧ plainV z = true := by
  unfold zeroOf at h
  split at h
  · rename_i i hi
    split at h
    · rename_i z' hz
      cases hp : plainV z' with
      | true => rw [hp] at h; simp at h; subst h; exact ⟨i, hi, hz, hp⟩
      | false => rw [hp] at h; simp at h
    · cases h
  · cases h
theorem szOf_pos {P : Program} {t : TypeId} (h : 0 < szOf P t) : ∃ i, P.info? t = some i ∧ i.size = szOf P t := by
  unfold szOf at *
  split at h
  · rename_i i hi; exact ⟨i, hi, rfl⟩
  · omega

theorem execOp_eq {ρ : Operand → Value} {o : Oper} {op : Op} (h : o.op = op) : execOp ρ o = execOp ρ { o with op := op } := by subst h; rfl

end Go.AM
