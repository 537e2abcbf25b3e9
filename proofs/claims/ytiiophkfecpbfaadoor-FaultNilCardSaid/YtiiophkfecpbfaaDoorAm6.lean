/-
  THE ABSTRACT MACHINE IS SOUND, OPERATION BY OPERATION (fifth part): memory.
-/
import Derived.Test.YtiiophkfecpbfaaDoorAm5
import Derived.Lib.ConvBytes
import Derived.Laws.BytesString
set_option linter.unusedVariables false
set_option linter.unusedSimpArgs false
set_option linter.unusedSectionVars false
namespace Go.AM
open Go.RowKit
variable [Laid]

section
variable {P : Program} {o : Oper} {fr : Fr} {r : Value × St}

theorem slots1 {x : Operand} (h : o.op.operands = #[x]) : ∀ t ∈ opT x, t ∈ slots o := by intro t ht; simp only [slots, h]; simpa using ht
theorem slots2a {x y : Operand} (h : o.op.operands = #[x, y]) : ∀ t ∈ opT x, t ∈ slots o := by intro t ht; simp only [slots, h, List.flatMap_cons, List.flatMap_nil, List.append_nil, List.mem_append]; exact .inl ht
theorem slots2b {x y : Operand} (h : o.op.operands = #[x, y]) : ∀ t ∈ opT y, t ∈ slots o := by intro t ht; simp only [slots, h, List.flatMap_cons, List.flatMap_nil, List.append_nil, List.mem_append]; exact .inr ht

/-! ### Making -/
theorem op_alloc {t : TypeId} {σ : St} {K : Value → St → Res} (ho : o.op = .alloc t)
    (h : (match zeroOf P t with | some z => K (.pointer (some ⟨σ.next, 0, none⟩)) (σ.new (.own (Value.cellsL z) t)) | none => none) = some r) :
    ∃ v σ', K v σ' = some r ∧ Ran P o fr σ v σ' := by
  split at h
  · rename_i z hz
    obtain ⟨i, hi, hiz, hp⟩ := zeroOf_inv hz
    refine ⟨_, _, h, fun W μ a w hf hr => ?_⟩
    have hcl := (plain_rel μ z hp).cells
    obtain ⟨h1, h2⟩ := hr.new z.cells t (Value.cellsL z) (by rw [hcl.1]; simp) (fun j v hj => by obtain ⟨v', h3, h4⟩ := hcl.get hj; exact ⟨v', by simpa using h3, h4⟩)
    refine ⟨.value (.pointer (some ⟨w.heap.size, 0, none⟩)), _, _, _, ?_, .inl rfl, h1, ?_, h2⟩
    · simp [execOp, ho, Instr.alloc, zeroValue, typeInfo, hi, hiz, newVar, newRow]
    · have : (μ.put σ.next ⟨w.heap.size, 0, z.cells.size⟩) σ.next = some ⟨w.heap.size, 0, z.cells.size⟩ := by simp [Mp.put]
      exact .ptr this
  · cases h

theorem op_box {x : Operand} {t : TypeId} {σ : St} {K : Value → St → Res} (ho : o.op = .box t x) (hx : okOpnd x = true)
    (h : opnd fr x (fun v => K (.pointer (some ⟨σ.next, 0, none⟩)) (σ.new (.own (Value.cellsL v) t))) = some r) : ∃ v σ', K v σ' = some r ∧ Ran P o fr σ v σ' := by
  obtain ⟨v, h1, hv⟩ := opnd_inv hx h
  refine ⟨_, _, h1, fun W μ a w hf hr => ?_⟩
  have hcl := (hv μ a (slots o) (slots1 (by rw [ho]; rfl)) hf).cells
  obtain ⟨h2, h3⟩ := hr.new (a.eval x).cells t (Value.cellsL v) (by rw [hcl.1]; simp) (fun j u hj => by obtain ⟨v', h3, h4⟩ := hcl.get hj; exact ⟨v', by simpa using h3, h4⟩)
  refine ⟨.value (.pointer (some ⟨w.heap.size, 0, none⟩)), _, _, _, ?_, .inl rfl, h2, ?_, h3⟩
  · simp [execOp, ho, Instr.box, newVar, newRow]
  · have : (μ.put σ.next ⟨w.heap.size, 0, (a.eval x).cells.size⟩) σ.next = some ⟨w.heap.size, 0, (a.eval x).cells.size⟩ := by simp [Mp.put]
    exact .ptr this

/-! ### Parts laid at their places -/
theorem foldl_over (off : Nat) : ∀ (l : List Value) (k : Nat) (A : Array Value), off + k + l.length ≤ A.size →
    ((l.zipIdx k).foldl (fun cs (x : Value × Nat) => cs.setIfInBounds (off + x.2) x.1) A).toList = A.toList.take (off + k) ++ l ++ A.toList.drop (off + k + l.length)
  | [], k, A, _ => by simp
  | v :: l, k, A, h => by
    simp only [List.zipIdx_cons, List.foldl_cons]
    rw [foldl_over off l (k + 1) _ (by simp at h ⊢; omega)]
    have e := list_seg_step A.toList (off + k) v l (by simp at h ⊢; omega)
    simpa [Array.toList_setIfInBounds, Nat.add_assoc] using e

theorem over_rel {μ : Mp} {a a' b b' : List Value} (ha : LRel μ a a') (hb : LRel μ b b') (o : Nat) : LRel μ (over a o b) (over a' o b') := by
  unfold over
  rw [← hb.1]
  exact ((ha.take o).append hb).append (ha.drop _)

/-- Parts: the same places, values that fit. -/
def PRel (μ : Mp) (l l' : List (Nat × Value)) : Prop := l.map (·.1) = l'.map (·.1) ∧ LRel μ (l.map (·.2)) (l'.map (·.2))

theorem fill_rel {μ : Mp} {place : Nat → Option (Nat × Nat)} : ∀ {ps ps' : List (Nat × Value)} {cs : List Value} {A : Array Value} {out : List Value}, PRel μ ps ps' → LRel μ cs A.toList → fillL place cs ps = some out →
    ∃ B, Instr.fill place A ps' = some B ∧ LRel μ out B.toList
  | [], ps', cs, A, out, hp, hc, h => by
    have : ps' = [] := by have := hp.1; simpa using this
    subst this
    simp only [fillL, Option.some.injEq] at h
    subst h
    exact ⟨A, rfl, hc⟩
  | (i, v) :: ps, ps', cs, A, out, hp, hc, h => by
    cases ps' with
    | nil => have := hp.1; simp at this
    | cons q ps' =>
      obtain ⟨j, v'⟩ := q
      have hj : i = j := by have := hp.1; simp at this; exact this.1
      subst hj
      obtain ⟨_, _, he, hv, hl⟩ := hp.2.inv
      simp only [List.map_cons, List.cons.injEq] at he
      obtain ⟨e1, e2⟩ := he
      subst e1; subst e2
      have hp' : PRel μ ps ps' := ⟨by have := hp.1; simp at this; exact this, hl⟩
      simp only [fillL] at h
      split at h
      · cases h
      · rename_i off size hpl
        cases hb : (Nat.beq (Value.cellsL v).length size && decide (off + (Value.cellsL v).length ≤ cs.length)) with
        | false => rw [hb] at h; simp at h
        | true =>
          rw [hb] at h
          simp only [cond_true] at h
          have hb' : (Value.cellsL v).length = size ∧ off + (Value.cellsL v).length ≤ cs.length := by
            simp only [Bool.and_eq_true, decide_eq_true_eq] at hb
            exact ⟨Nat.eq_of_beq_eq_true hb.1, hb.2⟩
          have hcl := hv.cells
          have hlen : v'.cells.size = size := by rw [← hb'.1, hcl.1]; simp
          have hA : A.size = cs.length := by rw [hc.1]; simp
          have e : (v'.cells.zipIdx.foldl (fun cs (x : Value × Nat) => cs.setIfInBounds (off + x.2) x.1) A).toList = over A.toList off v'.cells.toList := by
            rw [← Array.foldl_toList, Array.toList_zipIdx]
            rw [foldl_over off v'.cells.toList 0 A (by simp [hlen]; omega)]
            simp [over]
          obtain ⟨B, h5, h6⟩ := fill_rel (A := v'.cells.zipIdx.foldl (fun cs (x : Value × Nat) => cs.setIfInBounds (off + x.2) x.1) A) hp' (by rw [e]; exact over_rel hc hcl off) h
          refine ⟨B, ?_, h6⟩
          simp only [Instr.fill, hpl]
          rw [if_neg (by simp [hlen]; omega)]
          exact h5

theorem fillK_inv {pl : Nat → Option (Nat × Nat × Bool)} {K : List Value → Res} : ∀ {l : List (Nat × Value)} {cells : List Value}, fillK pl cells l K = some r → ∃ cs, fillL (fun i => (pl i).map fun x => (x.1, x.2.1)) cells l = some cs ∧ K cs = some r
  | [], cells, h => ⟨cells, rfl, h⟩
  | (i, v) :: rest, cells, h => by
    simp only [fillK] at h
    split at h
    · cases h
    · rename_i off size ag hp
      cases ag with
      | true =>
        rw [cond_true] at h
        obtain ⟨A, e, h1⟩ := asAgL_inv h
        subst e
        obtain ⟨h2, h3⟩ := need_inv h1
        obtain ⟨h4, h5⟩ := need_inv h3
        obtain ⟨cs, h6, h7⟩ := fillK_inv h5
        refine ⟨cs, ?_, h7⟩
        have h8 : off + A.toList.length ≤ cells.length := by simpa using h4
        simp only [fillL, hp, Option.map_some]
        have h9 : (Nat.beq (Value.cellsL (.agg A)).length size && decide (off + (Value.cellsL (.agg A)).length ≤ cells.length)) = true := by
          rw [Bool.and_eq_true]; exact ⟨h2, decide_eq_true h8⟩
        rw [h9]; exact h6
      | false =>
        rw [cond_false] at h
        obtain ⟨h1, h2⟩ := need_inv h
        obtain ⟨h3, h4⟩ := need_inv h2
        obtain ⟨h5, h6⟩ := need_inv h4
        obtain ⟨cs, h7, h8⟩ := fillK_inv h6
        refine ⟨cs, ?_, h8⟩
        have hcl : Value.cellsL v = [v] := by cases v <;> first | rfl | (simp [oneCell] at h1)
        have h10 : off + 1 ≤ cells.length := by simpa using h5
        simp only [fillL, hp, Option.map_some, hcl]
        have h9 : (Nat.beq [v].length size && decide (off + [v].length ≤ cells.length)) = true := by
          rw [Bool.and_eq_true]; exact ⟨h3, decide_eq_true h10⟩
        rw [h9]; exact h7

theorem opndPs_inv : ∀ {l : List (Nat × Operand)} {K : List (Nat × Value) → Res}, (l.map (·.2)).all okOpnd = true → opndPs fr l K = some r →
    ∃ vs, K vs = some r ∧ ∀ (μ : Mp) (a : Act) (S : List Nat), (∀ t ∈ (l.map (·.2)).flatMap opT, t ∈ S) → FrOn μ fr a S → PRel μ vs (l.map fun x => (x.1, a.eval x.2))
  | [], K, _, h => ⟨[], h, fun μ a S _ _ => ⟨rfl, .nil μ⟩⟩
  | (i, x) :: l, K, hx, h => by
    simp only [List.map_cons, List.all_cons, Bool.and_eq_true] at hx
    simp only [opndPs] at h
    obtain ⟨v, h1, hv⟩ := opnd_inv hx.1 h
    obtain ⟨vs, h2, hvs⟩ := opndPs_inv hx.2 h1
    refine ⟨(i, v) :: vs, h2, fun μ a S hs hf => ?_⟩
    have g1 := hv μ a S (fun t ht => hs t (by simp [ht])) hf
    have g2 := hvs μ a S (fun t ht => hs t (by simp only [List.map_cons, List.flatMap_cons, List.mem_append]; exact .inr ht)) hf
    exact ⟨by simp [g2.1], .cons g1 g2.2⟩

theorem op_build {t : TypeId} {ps : Array (Nat × Operand)} {K : Value → Res} (ho : o.op = .build t ps) (hx : (ps.toList.map (·.2)).all okOpnd = true)
    (hfs : ∀ fs, P.underlying t = some (.struct fs) → ∀ (i : Nat) (f : Field), fs[i]? = some f → (P.info? f.type).isSome = true) (hae : ∀ n e, P.underlying t = some (.array n e) → (P.info? e).isSome = true)
    (h : opndPs fr ps.toList (fun l => aBuild P t l K) = some r) : ∃ v, K v = some r ∧ Reckons P o fr v := by
  obtain ⟨vs, h1, hvs⟩ := opndPs_inv hx h
  unfold aBuild at h1
  split at h1
  · cases h1
  · rename_i z hz
    obtain ⟨iz, hi, hiz, hp⟩ := zeroOf_inv hz
    have hs : ∀ t ∈ (ps.toList.map (·.2)).flatMap opT, t ∈ slots o := by intro t ht; simp only [slots, ho, Op.operands]; simpa using ht
    split at h1
    · rename_i fs hu
      obtain ⟨cs, hcs0, h1⟩ := fillK_inv h1
      have hcs : fillL (fun i => (fs[i]?).map fun f => (f.offset, szOf P f.type)) (Value.cellsL z) vs = some cs := by
        rw [← hcs0]; congr 1; funext i; cases fs[i]? <;> rfl
      · refine ⟨_, h1, fun μ a w hf => ?_⟩
        have hpr := hvs μ a (slots o) hs hf
        obtain ⟨B, hB, hl⟩ := fill_rel hpr (plain_rel μ z hp).cells hcs
        refine ⟨.agg B, ?_, LRel.agg (by simpa using hl)⟩
        have hplaces : ∃ places, fs.toList.mapM (fun f => (P.info? f.type).map fun i => (f.offset, i.size)) = some places ∧ ∀ i : Nat, places[i]? = (fs[i]?).map fun f => (f.offset, szOf P f.type) := by
          have : ∀ l : List Field, (∀ f ∈ l, (P.info? f.type).isSome = true) → ∃ places, l.mapM (fun f => (P.info? f.type).map fun i => (f.offset, i.size)) = some places ∧ ∀ i : Nat, places[i]? = (l[i]?).map fun f => (f.offset, szOf P f.type) := by
            intro l
            induction l with
            | nil => intro _; exact ⟨[], by simp, by simp⟩
            | cons f l ih =>
              intro hl
              obtain ⟨pl, h1, h2⟩ := ih (fun g hg => hl g (by simp [hg]))
              obtain ⟨fi, hfi⟩ := Option.isSome_iff_exists.1 (hl f (by simp))
              refine ⟨(f.offset, fi.size) :: pl, by simp [List.mapM_cons, hfi, h1], fun i => ?_⟩
              cases i with
              | zero => simp [szOf_eq hfi]
              | succ i => simpa using h2 i
          obtain ⟨pl, h1, h2⟩ := this fs.toList (fun f hf => by
            obtain ⟨i, hi, rfl⟩ := List.getElem_of_mem hf
            exact hfs fs hu i _ (by simp at hi; simp [hi]))
          exact ⟨pl, h1, fun i => by rw [h2 i]; simp⟩
        obtain ⟨places, hpl, hpl2⟩ := hplaces
        have hfun : (fun (i : Nat) => (fs[i]?).map fun f => (f.offset, szOf P f.type)) = (fun i => places.toArray[i]?) := by funext i; simp [hpl2 i]
        have hrun := run_build (P := P) w t (ps.map fun x => (x.1, a.eval x.2)) B (by
          unfold Program.built
          simp only [hi, hu, hiz, hpl]
          rw [hfun] at hB
          simpa using hB)
        simp [execOp, ho, hrun]
    · rename_i n e hu
      obtain ⟨cs, hcs0, h1⟩ := fillK_inv h1
      have hcs : fillL (fun i => some (i * szOf P e, szOf P e)) (Value.cellsL z) vs = some cs := hcs0
      · refine ⟨_, h1, fun μ a w hf => ?_⟩
        have hpr := hvs μ a (slots o) hs hf
        obtain ⟨B, hB, hl⟩ := fill_rel hpr (plain_rel μ z hp).cells hcs
        refine ⟨.agg B, ?_, LRel.agg (by simpa using hl)⟩
        obtain ⟨ie, hie⟩ := Option.isSome_iff_exists.1 (hae n e hu)
        have hrun := run_build (P := P) w t (ps.map fun x => (x.1, a.eval x.2)) B (by
          unfold Program.built
          simp only [hi, hu, hiz, hie]
          rw [szOf_eq hie] at hB
          simpa using hB)
        simp [execOp, ho, hrun]
    · cases h1

/-! ### Reading -/
def aggD (d : TypeDesc) : Bool := match d with | .struct _ => true | .array _ _ => true | _ => false
theorem isAgg_run {t : TypeId} (w : World) {d : TypeDesc} (hu : P.underlying t = some d) : (isAgg t).run P w = .ok (aggD d) w := by
  unfold isAgg
  rw [Sem.run_bind, run_underlying hu w]
  cases d <;> rfl

theorem loadVar_one {t : TypeId} {w : World} {ad : Addr} {v : Value} {d : TypeDesc} (hu : P.underlying t = some d) (hd : aggD d = false) (hv : w.cell? ad = some v) :
    (loadVar t ad).run P w = .ok v w := by
  simp only [loadVar, Sem.run_bind, isAgg_run w hu, hd, Result.andThen_ok, Bool.false_eq_true, if_false]
  simp [hv]

theorem loadVar_many {t : TypeId} {w : World} {b s : Nat} {cs : List Value} {d : TypeDesc} {i : TypeInfo} (hu : P.underlying t = some d) (hd : aggD d = true) (hi : P.info? t = some i)
    (hlen : cs.length = i.size) (hc : ∀ j v, cs[j]? = some v → w.cell? ⟨b, s + j, none⟩ = some v) : (loadVar t ⟨b, s, none⟩).run P w = .ok (.agg cs.toArray) w := by
  have hl := run_loadCells_list (P := P) w ⟨b, s, none⟩ cs (fun j v hv => by rw [addr_add]; exact hc j v hv)
  rw [hlen] at hl
  simp only [loadVar, Sem.run_bind, isAgg_run w hu, hd, Result.andThen_ok, if_true]
  simp [sizeOf, typeInfo, hi, hl]

/-- Many cells of a block, all at once. -/
theorem Rel.many {W : Base} {μ : Mp} {σ : St} {w : World} (h : Rel W μ σ w) {q o n : Nat} {vs : List Value} (hq : σ.cells q = some vs) (hn : o + n ≤ vs.length) :
    ∃ p cs', μ q = some p ∧ LRel μ ((vs.drop o).take n) cs' ∧ cs'.length = n ∧ ∀ j v, cs'[j]? = some v → w.cell? ⟨p.b, p.s + o + j, none⟩ = some v := by
  obtain ⟨p, hp, hc⟩ := h.cells hq
  refine ⟨p, (List.range n).map fun j => (w.cell? ⟨p.b, p.s + o + j, none⟩).getD undef, hp, .of (by simp; omega) ?_, by simp, ?_⟩
  · intro i x hx
    have hin : i < n := by
      have := (List.getElem?_eq_some_iff.1 hx).1
      simp at this; omega
    rw [List.getElem?_take, if_pos hin, List.getElem?_drop] at hx
    obtain ⟨v', h1, h2⟩ := hc (o + i) x hx
    refine ⟨v', ?_, h2⟩
    rw [List.getElem?_map, List.getElem?_range hin, ← Nat.add_assoc] at *
    simp [h1]
  · intro j v hv
    have hjn : j < n := by
      have := (List.getElem?_eq_some_iff.1 hv).1
      simpa using this
    rw [List.getElem?_map, List.getElem?_range hjn] at hv
    simp only [Option.map_some, Option.some.injEq] at hv
    obtain ⟨v', h1, h2⟩ := hc (o + j) (vs[o + j]'(by omega)) (List.getElem?_eq_getElem (by omega))
    rw [← Nat.add_assoc] at h1
    rw [h1] at hv ⊢
    simp at hv
    rw [hv]

/-- What a load takes. -/
theorem aLoad_inv {t : TypeId} {σ : St} {q off : Nat} {K : Value → Res} (h : aLoad P t σ q off K = some r) :
    ∃ v, K v = some r ∧ ∀ (W : Base) (μ : Mp) (w : World) (p : Pl), Rel W μ σ w → μ q = some p → ∃ v', (loadVar t ⟨p.b, p.s + off, none⟩).run P w = .ok v' w ∧ VRel μ v v' := by
  unfold aLoad at h
  split at h
  · rename_i n ks hk
    obtain ⟨vs, hvs, hn, h10⟩ := lds_inv h
    have h1 := dstrL_inv h10
    have hd : ∃ d, P.underlying t = some d ∧ aggD d = true ∧ n = szOf P t := by
      unfold kd at hk
      split at hk <;> try (cases hk; done)
      · cases hk; exact ⟨_, ‹_›, rfl, rfl⟩
      · cases hk; exact ⟨_, ‹_›, rfl, rfl⟩
    obtain ⟨d, hu, hdd, hnn⟩ := hd
    obtain ⟨i, hi⟩ := info_of hu
    refine ⟨_, h1, fun W μ w p hr hp => ?_⟩
    obtain ⟨p', cs', hp', hl, hlen, hc⟩ := hr.many hvs hn
    rw [hp] at hp'
    cases hp'
    exact ⟨.agg cs'.toArray, loadVar_many hu hdd hi (by rw [hlen, hnn, szOf_eq hi]) hc, LRel.agg (by simpa using hl)⟩
  · cases h
  · rename_i k hk1 hk2
    obtain ⟨v, hv, h1⟩ := ld_inv h
    have hd : ∃ d, P.underlying t = some d ∧ aggD d = false := by
      cases hu : P.underlying t with
      | none => simp [kd, hu, dstr1, dstr0] at h1
      | some d =>
        refine ⟨d, rfl, ?_⟩
        cases d <;> first | rfl | (exfalso; simp [kd, hu] at hk1)
    obtain ⟨d, hu, hdd⟩ := hd
    refine ⟨v, dstr1_inv h1, fun W μ w p hr hp => ?_⟩
    unfold St.cell at hv
    cases hcs : σ.cells q with
    | none => rw [hcs] at hv; cases hv
    | some vs =>
      rw [hcs] at hv
      obtain ⟨p', hp', hc⟩ := hr.cells hcs
      rw [hp] at hp'
      cases hp'
      obtain ⟨v', h2, h3⟩ := hc off v (by simpa using hv)
      exact ⟨v', loadVar_one hu hdd h2, h3⟩

theorem op_load {x : Operand} {t : TypeId} {σ : St} {K : Value → Res} (ho : o.op = .load t x) (hx : okOpnd x = true)
    (h : opnd fr x (fun v => asP v fun a => adr a fun q off => aLoad P t σ q off K) = some r) : ∃ v, K v = some r ∧ Ran P o fr σ v σ := by
  obtain ⟨v, h1, hv⟩ := opnd_inv hx h
  obtain ⟨ad, e1, h2⟩ := asP_inv h1
  subst e1
  obtain ⟨q, off, e2, h3⟩ := adr_inv h2
  subst e2
  obtain ⟨u, h4, hu⟩ := aLoad_inv h3
  refine ⟨u, h4, fun W μ a w hf hr => ?_⟩
  obtain ⟨p, hp, hg⟩ := (hv μ a (slots o) (slots1 (by rw [ho]; rfl)) hf).ptr_inv
  obtain ⟨v', h5, h6⟩ := hu W μ w p hr hp
  exact ⟨.value v', v', w, μ, by simp [execOp, ho, hg, Instr.loadAt, Instr.sureAddr, h5], .inl rfl, Mp.le.refl μ, h6, hr⟩

/-! ### Writing -/
theorem put_inv {σ : St} {q off : Nat} {new : List Value} {K : St → Res} (h : σ.put q off new K = some r) :
    ∃ vs e, σ.get q = some (.own vs e) ∧ off + new.length ≤ vs.length ∧ new.all oneCell = true ∧ K (σ.set q (.own (over vs off new) e)) = some r := by
  unfold St.put at h
  split at h
  · split at h
    · rename_i vs e hg hc
      exact ⟨vs, e, hg, hc.1, hc.2, h⟩
    · cases h
  · cases h

theorem over_length {vs : List Value} {o : Nat} {new : List Value} (h : o + new.length ≤ vs.length) : (over vs o new).length = vs.length := by simp [over]; omega

/-- Storing cells into an own block. -/
theorem Rel.put {W : Base} {μ : Mp} {σ : St} {w : World} (hr : Rel W μ σ w) {q off : Nat} {vs new new' : List Value} {e : TypeId} (hg : σ.get q = some (.own vs e)) (hl : off + new.length ≤ vs.length) (hn : LRel μ new new') :
    ∃ p cur, μ q = some p ∧ w.heap[p.b]? = some (.cells cur e (0, 0)) ∧ p.s + off + new'.length ≤ cur.size ∧
      Rel W μ (σ.set q (.own (over vs off new) e)) (w.setRow p.b (cur.toList.take (p.s + off) ++ new' ++ cur.toList.drop (p.s + off + new'.length)).toArray) := by
  obtain ⟨p, cur, hp, hWb, hc, hs, hle, hv⟩ := hr.own q vs e hg
  have hnl := hn.1
  refine ⟨p, cur, hp, hc, by omega, ?_⟩
  refine hr.setRow hg rfl hp hWb hc _ _ (by simp; omega) (by rw [over_length hl]; exact hle) ?_
  intro i v hi
  simp only [over] at hi
  simp only [List.getElem?_toArray]
  by_cases h1 : i < off
  · have h3 : i < (vs.take off).length := by simp; omega
    rw [List.append_assoc, List.getElem?_append_left h3, List.getElem?_take, if_pos h1] at hi
    obtain ⟨v', h4, h5⟩ := hv i v hi
    refine ⟨v', ?_, h5⟩
    rw [List.append_assoc, List.getElem?_append_left (by simp; omega), List.getElem?_take, if_pos (by omega)]
    simpa using h4
  · by_cases h2 : i < off + new.length
    · have e1 : (vs.take off).length = off := by simp; omega
      rw [List.append_assoc, List.getElem?_append_right (by omega), e1, List.getElem?_append_left (by omega)] at hi
      obtain ⟨v', h4, h5⟩ := hn.get hi
      refine ⟨v', ?_, h5⟩
      have e2 : (cur.toList.take (p.s + off)).length = p.s + off := by simp; omega
      rw [List.append_assoc, List.getElem?_append_right (by omega), e2, List.getElem?_append_left (by omega), show p.s + i - (p.s + off) = i - off by omega]
      exact h4
    · have e1 : (vs.take off ++ new).length = off + new.length := by simp; omega
      rw [List.getElem?_append_right (by omega), e1, List.getElem?_drop, show off + new.length + (i - (off + new.length)) = i by omega] at hi
      obtain ⟨v', h4, h5⟩ := hv i v hi
      refine ⟨v', ?_, h5⟩
      have e2 : (cur.toList.take (p.s + off) ++ new').length = p.s + off + new'.length := by simp; omega
      rw [List.getElem?_append_right (by omega), e2, List.getElem?_drop, show p.s + off + new'.length + (p.s + i - (p.s + off + new'.length)) = p.s + i by omega]
      simpa using h4

theorem op_store {x y : Operand} {t : TypeId} {σ : St} {K : Value → St → Res} (ho : o.op = .store t x y) (hx : okOpnd x = true) (hy : okOpnd y = true) (hi : (P.info? t).isSome = true)
    (h : opnd fr x (fun v => asP v fun a => adr a fun q off => opnd fr y fun u => aStore P t σ q off u fun σ' => K undef σ') = some r) : ∃ v σ', K v σ' = some r ∧ Ran P o fr σ v σ' := by
  obtain ⟨v, h1, hv⟩ := opnd_inv hx h
  obtain ⟨ad, e1, h2⟩ := asP_inv h1
  subst e1
  obtain ⟨q, off, e2, h3⟩ := adr_inv h2
  subst e2
  obtain ⟨u, h4, hu⟩ := opnd_inv hy h3
  unfold aStore at h4
  obtain ⟨hb, h5⟩ := need_inv h4
  obtain ⟨vs, e, hg, hl, hone, h6⟩ := put_inv h5
  obtain ⟨ti, hti⟩ := Option.isSome_iff_exists.1 hi
  refine ⟨undef, _, h6, fun W μ a w hf hr => ?_⟩
  obtain ⟨p, hp, hgx⟩ := (hv μ a (slots o) (slots2a (by rw [ho]; rfl)) hf).ptr_inv
  have hry := hu μ a (slots o) (slots2b (by rw [ho]; rfl)) hf
  have hcl := hry.cells
  obtain ⟨p', cur, hp', hc, hfit, hrel⟩ := hr.put hg hl hcl
  rw [hp] at hp'
  cases hp'
  refine ⟨.skip, undef, _, μ, ?_, .inr ⟨rfl, rfl⟩, Mp.le.refl μ, .undef μ, hrel⟩
  have hst := run_storeCells_at P p.b (p.s + off) e (a.eval y).cells.toList 0 cur w hc (by simpa using hfit) (hcl.oneCells hone)
  have hsz : (a.eval y).cells.size = ti.size := by
    have := Nat.eq_of_beq_eq_true hb
    rw [szOf_eq hti, hcl.1] at this
    simpa using this
  simp only [Nat.add_zero] at hst
  simp [execOp, ho, hgx, Instr.storeAt, Instr.sureAddr, storeVar, sizeOf, typeInfo, hti, hsz, hst]

end
end Go.AM
