/-
  THE ABSTRACT MACHINE IS SOUND, OPERATION BY OPERATION (second part): operations that only reckon.
-/
import Derived.Test.YtiiophkfecpbfaaDoorAm2
set_option linter.unusedVariables false
set_option linter.unusedSimpArgs false
set_option linter.unusedSectionVars false
namespace Go.AM
open Go.RowKit
variable [Laid]

section
variable {P : Program} {o : Oper} {fr : Fr} {r : Value × St}

theorem addr_add (b o n : Nat) : (⟨b, o, none⟩ : Addr).add n = ⟨b, o + n, none⟩ := by unfold Addr.add; split <;> simp_all

theorem op_move {x : Operand} {K : Value → Res} (ho : o.op = .move x ∨ o.op = .assign x) (hx : okOpnd x = true) (h : opnd fr x K = some r) :
    ∃ v, K v = some r ∧ Reckons P o fr v := by
  obtain ⟨v, h, hv⟩ := opnd_inv hx h
  refine ⟨v, h, fun μ a w hf => ⟨a.eval x, ?_, hv μ a (slots o) ?_ hf⟩⟩
  · rcases ho with ho | ho <;> simp [execOp, ho]
  · rcases ho with ho | ho <;> (intro t ht; simp only [slots, ho, Op.operands]; simpa using ht)

theorem op_pick {c x y : Operand} {K : Value → Res} (ho : o.op = .pick c x y) (hc : okOpnd c = true) (hx : okOpnd x = true) (hy : okOpnd y = true)
    (h : opnd fr c (fun cv => asB cv fun t => br t (opnd fr x K) (opnd fr y K)) = some r) : ∃ v, K v = some r ∧ Reckons P o fr v := by
  obtain ⟨cv, h, hcv⟩ := opnd_inv hc h
  obtain ⟨b, rfl, h⟩ := asB_inv h
  have hs : ∀ z, z = c ∨ z = x ∨ z = y → ∀ t ∈ opT z, t ∈ slots o := by
    intro z hz t ht
    simp only [slots, ho, Op.operands, List.flatMap_cons, List.flatMap_nil, List.append_nil, List.mem_append]
    rcases hz with rfl | rfl | rfl
    · exact .inl ht
    · exact .inr (.inl ht)
    · exact .inr (.inr ht)
  have hcb : ∀ μ a, FrOn μ fr a (slots o) → a.eval c = .bool b := fun μ a hf => by
    exact (hcv μ a (slots o) (hs c (.inl rfl)) hf).bool_inv
  rcases br_inv h with ⟨rfl, h⟩ | ⟨rfl, h⟩
  · obtain ⟨v, h, hv⟩ := opnd_inv hx h
    exact ⟨v, h, fun μ a w hf => ⟨a.eval x, by simp [execOp, ho, hcb μ a hf, asBool], hv μ a (slots o) (hs x (.inr (.inl rfl))) hf⟩⟩
  · obtain ⟨v, h, hv⟩ := opnd_inv hy h
    exact ⟨v, h, fun μ a w hf => ⟨a.eval y, by simp [execOp, ho, hcb μ a hf, asBool], hv μ a (slots o) (hs y (.inr (.inr rfl))) hf⟩⟩

theorem op_nilCheck {x : Operand} {σ : St} {K : Value → St → Res} (ho : o.op = .nilCheck x) (hx : okOpnd x = true)
    (h : opnd fr x (fun v => match v with
      | .pointer a => adr a fun r o => K (.pointer (some ⟨r, o, none⟩)) σ
      | .func (.func f) fs cs => K (.func (.func f) fs cs) σ
      | .iface t v => K (.iface t v) σ
      | _ => none) = some r) : ∃ v, K v σ = some r ∧ Reckons P o fr v := by
  obtain ⟨v, h, hv⟩ := opnd_inv hx h
  have hs : ∀ t ∈ opT x, t ∈ slots o := by intro t ht; simp only [slots, ho, Op.operands]; simpa using ht
  cases v <;> try (cases h; done)
  case pointer ad =>
    obtain ⟨q, off, rfl, h⟩ := adr_inv h
    refine ⟨_, h, fun μ a w hf => ?_⟩
    have := hv μ a (slots o) hs hf
    generalize hg : a.eval x = u at this
    cases this with | ptr hp => exact ⟨_, by simp [execOp, ho, hg], .ptr hp⟩
  case func f A B =>
    cases f <;> try (cases h; done)
    refine ⟨_, h, fun μ a w hf => ?_⟩
    have := hv μ a (slots o) hs hf
    obtain ⟨A', B', hg, h1, h2⟩ := this.func_inv
    exact ⟨_, by simp [execOp, ho, hg], .func _ h1.1 h1.2 h2.1 h2.2⟩
  case iface t v =>
    refine ⟨_, h, fun μ a w hf => ?_⟩
    have := hv μ a (slots o) hs hf
    generalize hg : a.eval x = u at this
    cases this with | iface _ hu => exact ⟨_, by simp [execOp, ho, hg], .iface t hu⟩

theorem op_makeInterface {x : Operand} {t : TypeId} {K : Value → Res} (ho : o.op = .makeInterface t x) (hx : okOpnd x = true)
    (h : opnd fr x (fun v => need (match P.underlying t with | some (.interface _) => false | some _ => true | none => false) (K (.iface t v))) = some r) : ∃ v, K v = some r ∧ Reckons P o fr v := by
  obtain ⟨v, h, hv⟩ := opnd_inv hx h
  obtain ⟨hb, h⟩ := need_inv h
  have hs : ∀ t ∈ opT x, t ∈ slots o := by intro t ht; simp only [slots, ho, Op.operands]; simpa using ht
  refine ⟨_, h, fun μ a w hf => ⟨.iface t (a.eval x), ?_, .iface t (hv μ a (slots o) hs hf)⟩⟩
  cases hu : P.underlying t with
  | none => rw [hu] at hb; cases hb
  | some d =>
    rw [hu] at hb
    cases d <;> first | (simp at hb; done) | simp [execOp, ho, Instr.makeInterface, run_underlying hu]

theorem op_makeFunc {fn : Fn} {xs ys : Array Operand} {K : Value → Res} (ho : o.op = .makeFunc fn xs ys) (hx : xs.toList.all okOpnd = true) (hy : ys.toList.all okOpnd = true)
    (h : opnds fr xs.toList (fun us => opnds fr ys.toList fun vs => K (.func fn us.toArray vs.toArray)) = some r) : ∃ v, K v = some r ∧ Reckons P o fr v := by
  obtain ⟨us, h, hu⟩ := opnds_inv hx h
  obtain ⟨vs, h, hv⟩ := opnds_inv hy h
  refine ⟨_, h, fun μ a w hf => ⟨.func fn (xs.map a.eval) (ys.map a.eval), by simp [execOp, ho, Instr.makeFunc], ?_⟩⟩
  have h1 := hu μ a (slots o) (by intro t ht; simp only [slots, ho, Op.operands, Array.toList_append, List.flatMap_append, List.mem_append]; exact .inl ht) hf
  have h2 := hv μ a (slots o) (by intro t ht; simp only [slots, ho, Op.operands, Array.toList_append, List.flatMap_append, List.mem_append]; exact .inr ht) hf
  exact .func fn (by simpa using h1.1) (by simpa using h1.2) (by simpa using h2.1) (by simpa using h2.2)

theorem op_extract {x : Operand} {i : Nat} {K : Value → Res} (ho : o.op = .extract x i) (hx : okOpnd x = true)
    (h : opnd fr x (fun v => asTu v fun vs => nth vs i fun u => dstr P o.type u K) = some r) : ∃ v, K v = some r ∧ Reckons P o fr v := by
  obtain ⟨v, h, hv⟩ := opnd_inv hx h
  obtain ⟨A, rfl, h⟩ := asTu_inv h
  obtain ⟨u, hu, h0⟩ := nth_inv h
  have h := dstr_inv h0
  have hs : ∀ t ∈ opT x, t ∈ slots o := by intro t ht; simp only [slots, ho, Op.operands]; simpa using ht
  refine ⟨u, h, fun μ a w hf => ?_⟩
  obtain ⟨B, hB, hl⟩ := (hv μ a (slots o) hs hf).tuple_inv
  obtain ⟨u', hu', hr⟩ := hl.get hu
  exact ⟨u', by rw [Array.getElem?_toList] at hu'; simp [execOp, ho, hB, Instr.extract, hu'], hr⟩

theorem op_unOp {x : Operand} {op : UnOp} {t : TypeId} {K : Value → Res} (ho : o.op = .unOp op t x) (hx : okOpnd x = true)
    (h : opnd fr x (fun v => aUn op v K) = some r) : ∃ v, K v = some r ∧ Reckons P o fr v := by
  obtain ⟨v, h1, hv⟩ := opnd_inv hx h
  have hs : ∀ t ∈ opT x, t ∈ slots o := by intro t ht; simp only [slots, ho, Op.operands]; simpa using ht
  cases op <;> cases v <;> simp only [aUn] at h1 <;> try (cases h1; done)
  · exact ⟨_, h1, fun μ a w hf => ⟨_, by rw [execOp_eq ho]; simp only [execOp, (hv μ a (slots o) hs hf).int_inv]; rfl, .int _ _⟩⟩
  · exact ⟨_, h1, fun μ a w hf => ⟨_, by rw [execOp_eq ho]; simp only [execOp, (hv μ a (slots o) hs hf).int_inv]; rfl, .int _ _⟩⟩
  · exact ⟨_, h1, fun μ a w hf => ⟨_, by rw [execOp_eq ho]; simp only [execOp, (hv μ a (slots o) hs hf).bool_inv]; rfl, .bool _⟩⟩

theorem op_fieldAddr {x : Operand} {t : TypeId} {f : Nat} {K : Value → Res} (ho : o.op = .fieldAddr t x f) (hx : okOpnd x = true)
    (h : opnd fr x (fun v => asP v fun a => adr a fun r o => fieldOf P t f fun off ft => need (decide (0 < szOf P ft)) (K (.pointer (some ⟨r, o + off, none⟩)))) = some r) :
    ∃ v, K v = some r ∧ Reckons P o fr v := by
  obtain ⟨v, h1, hv⟩ := opnd_inv hx h
  obtain ⟨ad, e1, h2⟩ := asP_inv h1
  subst e1
  obtain ⟨q, off, e2, h3⟩ := adr_inv h2
  subst e2
  obtain ⟨fs, fd, hu, hfd, h4⟩ := fieldOf_inv h3
  obtain ⟨hb, h5⟩ := need_inv h4
  obtain ⟨i, hi, hsz⟩ := szOf_pos (P := P) (t := fd.type) (by simpa using hb)
  have hs : ∀ t ∈ opT x, t ∈ slots o := by intro t ht; simp only [slots, ho, Op.operands]; simpa using ht
  refine ⟨_, h5, fun μ a w hf => ?_⟩
  obtain ⟨p, hp, hg⟩ := (hv μ a (slots o) hs hf).ptr_inv
  have hne : i.size ≠ 0 := by rw [hsz]; simp at hb; omega
  refine ⟨.pointer (some ⟨p.b, p.s + (off + fd.offset), none⟩), ?_, .ptr hp⟩
  simp [execOp, ho, hg, Instr.fieldAt, run_underlying hu, hfd, Instr.sureAddr, fieldPlace, sizeOf, typeInfo, hi, hne, addr_add, Nat.add_assoc]

/-- A part of a struct or an array. -/
theorem part_inv {t : TypeId} {cs : List Value} {off : Nat} {K : Value → Res} (h : aPart P t cs off K = some r) :
    ∃ v, K v = some r ∧ ∀ (μ : Mp) (w : World) (cs' : List Value), LRel μ cs cs' → ∃ v', (part t cs'.toArray off).run P w = .ok v' w ∧ VRel μ v v' := by
  unfold aPart at h
  cases hag : isAg P t with
  | true =>
    rw [hag] at h
    obtain ⟨hb, h⟩ := need_inv (by simpa using h)
    have hbd : off + szOf P t ≤ cs.length := by simpa using hb
    refine ⟨_, h, fun μ w cs' hl => ?_⟩
    have hu : ∃ d, P.underlying t = some d ∧ (match d with | .struct _ | .array _ _ => true | _ => false) = true := by
      unfold isAg at hag
      split at hag
      · exact ⟨_, ‹_›, rfl⟩
      · exact ⟨_, ‹_›, rfl⟩
      · cases hag
    obtain ⟨d, hu, hd⟩ := hu
    obtain ⟨i, hi⟩ := info_of hu
    have hsz := szOf_eq hi
    have hagg : (isAgg t).run P w = .ok true w := by
      unfold isAgg
      rw [Sem.run_bind, run_underlying hu w]
      cases d <;> simp_all
    refine ⟨.agg ((cs'.drop off).take (szOf P t)).toArray, ?_, LRel.agg (by simpa using (hl.drop off).take (szOf P t))⟩
    simp only [part, Sem.run_bind, hagg, Result.andThen_ok, if_true]
    simp [sizeOf, typeInfo, hi, hsz]
    try simp [List.extract_eq_take_drop]
  | false =>
    rw [hag] at h
    obtain ⟨v, hv, h⟩ := nth_inv (by simpa using h)
    have hnag : ∃ d, P.underlying t = some d ∧ (match d with | .struct _ | .array _ _ => true | _ => false) = false := by
      cases hu : P.underlying t with
      | none => simp [dstr, kd, hu, dstr1, dstr0] at h
      | some d => refine ⟨d, rfl, ?_⟩; simp only [isAg, hu] at hag; cases d <;> simp_all
    have h := dstr_inv h
    refine ⟨v, h, fun μ w cs' hl => ?_⟩
    obtain ⟨v', hv', hr⟩ := hl.get hv
    refine ⟨v', ?_, hr⟩
    have hkd : ∃ d, P.underlying t = some d ∧ (match d with | .struct _ | .array _ _ => true | _ => false) = false := hnag
    obtain ⟨d, hu, hd⟩ := hkd
    have hagg : (isAgg t).run P w = .ok false w := by
      unfold isAgg
      rw [Sem.run_bind, run_underlying hu w]
      cases d <;> simp_all
    simp only [part, Sem.run_bind, hagg, Result.andThen_ok, Bool.false_eq_true, if_false]
    simp [hv']

end
end Go.AM
