/-
  THE ABSTRACT MACHINE IS SOUND, OPERATION BY OPERATION (eighth part): copy, conversions, calls of the program's functions.
-/
import Derived.Test.YtiiophkfecpbfaaDoorAm8
import Derived.Lib.ConvBytes
import Derived.Laws.BytesString
set_option linter.unusedVariables false
set_option linter.unusedSimpArgs false
set_option linter.unusedSectionVars false
namespace Go.AM
open Go.RowKit
variable [Laid]

section
variable {P : Program} {o : Oper} {fr : Fr} {r : Value × St}

theorem op_copy {c : Call} {σ : St} {K : Value → St → Res} (ho : o.op = .call c) (hc : c.callee = .builtin .copy) (hx : c.args.toList.all okOpnd = true)
    (h : opnds fr c.args.toList (fun vs => aCopy P c.argTypes.toList vs σ K) = some r) : ∃ v σ', K v σ' = some r ∧ Ran P o fr σ v σ' := by
  obtain ⟨vs, h1, hv⟩ := opnds_inv hx h
  unfold aCopy at h1
  split at h1
  · rename_i t u d x hts
    have hargs : c.argTypes = #[t, u] := by rw [← Array.toArray_toList (xs := c.argTypes), hts]
    obtain ⟨ad, n, z, e1, h2⟩ := asSl_inv h1
    subst e1
    obtain ⟨e, hu, h3⟩ := elOf_inv h2
    obtain ⟨hb, h4⟩ := need_inv h3
    have hpos : 0 < szOf P e := by simpa using hb
    obtain ⟨i, hi, hsz⟩ := szOf_pos hpos
    split at h4
    · rename_i e2 hu2
      obtain ⟨a2, m, z2, e3, h5⟩ := asSl_inv h4
      subst e3
      have hmap2 : ∀ (μ : Mp) (a : Act), FrOn μ fr a (slots o) → ∃ sv xv, c.args.map a.eval = #[sv, xv] ∧ VRel μ (.slice ad n z) sv ∧ VRel μ (.slice a2 m z2) xv := by
        intro μ a hf
        have hl := hv μ a (slots o) (slotsC ho) hf
        obtain ⟨y, mm, e1, e2, e3⟩ := hl.inv
        obtain ⟨y2, m2, e4, e5, e6⟩ := e3.inv
        have e7 := e6.inv_nil
        subst e7; subst e4
        exact ⟨y, y2, by rw [← Array.toArray_toList (xs := c.args.map a.eval)]; simp [e1], e2, e5⟩
      have hsl : ∀ (μ : Mp) (A : Option Addr) (N Z : Nat) (v : Value), VRel μ (.slice A N Z) v → ∃ A' C, v = .slice A' N C := by
        intro μ A N Z v hxv
        rcases hxv.slice_inv with ⟨_, e5, _, e6⟩ | ⟨_, _, _, _, c2, _, _, _, e6, _⟩
        · subst e5; exact ⟨_, _, e6⟩
        · exact ⟨_, _, e6⟩
      unfold cpy at h5
      split at h5
      · rename_i hk0
        refine ⟨_, _, h5, fun W μ a w hf hr => ?_⟩
        obtain ⟨sv, xv, hmap, hsv, hxv⟩ := hmap2 μ a hf
        obtain ⟨A', C, e6⟩ := hsl _ _ _ _ _ hsv
        obtain ⟨A2', C2, e7⟩ := hsl _ _ _ _ _ hxv
        subst e6; subst e7
        have hmn0 : min m n = 0 := by rcases Nat.mul_eq_zero.1 hk0 with h | h; exact h; omega
        have hfc : (Builtin.firstCells i.size 0 (.slice A2' m C2)).run P w = .ok #[] w := by cases A2' <;> simp [Builtin.firstCells, loadCells, loadCellsFrom]
        have hmn0' : Nat.min m n = 0 := hmn0
        refine ⟨.value (goInt 0), goInt 0, w, μ, exec_builtin ho hc a.eval w _ w ?_, .inl rfl, Mp.le.refl μ, by rw [hmn0]; exact .int .i64 _, hr⟩
        rw [hmap, hargs]
        cases A' <;> simp [builtin, Builtin.copy_, run_underlying hu, Builtin.lenOf, sizeOf, typeInfo, hi, hmn0', hmn0, hfc, storeCells, goInt]
      · rename_i hk0
        obtain ⟨q2, o2, e6, h6⟩ := adr_inv h5
        subst e6
        obtain ⟨vs2, hvs2, hn2, h7⟩ := lds_inv h6
        obtain ⟨q, off, e7, h8⟩ := adr_inv h7
        subst e7
        obtain ⟨us, el, hg, hfit, hone, h9⟩ := put_inv h8
        refine ⟨_, _, h9, fun W μ a w hf hr => ?_⟩
        obtain ⟨sv, xv, hmap, hsv, hxv⟩ := hmap2 μ a hf
        obtain ⟨A', C, e8⟩ := hsl _ _ _ _ _ hsv
        obtain ⟨A2', C2, e9⟩ := hsl _ _ _ _ _ hxv
        subst e8; subst e9
        have hk1 : min m n * szOf P e ≠ 0 := hk0
        have hmn : 0 < min m n := by rcases Nat.eq_zero_or_pos (min m n) with h | h; rw [h] at hk1; simp at hk1; exact h
        obtain ⟨news', hl, hll, hcells⟩ := row_rel (n := min m n * szOf P e) hr hxv (fun _ => by omega) (.inr ⟨q2, o2, vs2, rfl, hvs2, hn2, rfl⟩)
        rcases hcells with h0 | ⟨b, o', e10, hcell⟩
        · exact absurd h0 hk1
        subst e10
        obtain ⟨p, o3, c3, hp, e11, hn3, hc3, hz3, hm3⟩ := hsv.sl_inv (by omega)
        cases e11
        have ho3 : o3 = p.s + off := by rcases hc3 with h | h; omega; exact h
        subst ho3
        obtain ⟨p', cur, hp', hcur, hle, hrel⟩ := hr.put hg hfit hl
        rw [hp] at hp'
        cases hp'
        have hst := run_storeCells_at P p.b (p.s + off) el news' 0 cur w hcur (by simpa using hle) (hl.oneCells hone)
        have hfc := firstCells_slice (P := P) (w' := w) (size := i.size) (n := min m n) (b := b) (o' := o') (c := C2) (by rw [hsz]; exact hll) hcell
        refine ⟨.value (goInt (min m n : Nat)), _, _, μ, exec_builtin ho hc a.eval w _ _ ?_, .inl rfl, Mp.le.refl μ, .int .i64 _, hrel⟩
        rw [hmap, hargs]
        have hfc' : (Builtin.firstCells i.size (Nat.min m n) (.slice (some ⟨b, o', none⟩) m C2)).run P w = .ok news'.toArray w := by
          have e12 : (Builtin.firstCells i.size (min m n) (.slice (some ⟨b, o', none⟩) m C2)).run P w = (Builtin.firstCells i.size (min m n) (.slice (some ⟨b, o', none⟩) (min m n) C2)).run P w := by simp [Builtin.firstCells]
          exact e12.trans hfc
        simp only [Nat.add_zero] at hst
        simp [builtin, Builtin.copy_, run_underlying hu, Builtin.lenOf, sizeOf, typeInfo, hi, hfc', hst, goInt]
    · cases h4
  · cases h1

/-! ### Conversions -/
theorem bytesIn_spec : ∀ {cs : List Value} {l : List UInt8}, bytesIn cs = some l → ∃ ns : List Int, cs = ns.map (Value.int .u8) ∧ l = ns.map fun n => UInt8.ofNat n.toNat
  | [], l, h => by simp [bytesIn] at h; subst h; exact ⟨[], rfl, rfl⟩
  | v :: cs, l, h => by
    cases v <;> try (simp [bytesIn] at h; done)
    rename_i k n
    cases k <;> try (simp [bytesIn] at h; done)
    simp only [bytesIn, Option.map_eq_some_iff] at h
    obtain ⟨l', h1, h2⟩ := h
    obtain ⟨ns, h3, h4⟩ := bytesIn_spec h1
    exact ⟨n :: ns, by simp [h3], by rw [← h2, h4]; rfl⟩
theorem fold_push : ∀ (ns : List Int) (b : ByteArray), ns.foldl (fun r n => r.push (UInt8.ofNat n.toNat)) b = ⟨(b.data.toList ++ ns.map fun n => UInt8.ofNat n.toNat).toArray⟩
  | [], b => by simp
  | n :: ns, b => by
    simp only [List.foldl_cons]
    rw [fold_push ns]
    simp [ByteArray.push]

theorem ints_rel {μ : Mp} {ns : List Int} {k : IntKind} {l : List Value} (h : LRel μ (ns.map (Value.int k)) l) : l = ns.map (Value.int k) := by
  apply List.ext_getElem?
  intro i
  rcases Nat.lt_or_ge i ns.length with hi | hi
  · obtain ⟨y, h1, h2⟩ := h.get (i := i) (x := .int k ns[i]) (by simp [hi])
    rw [h1, h2.int_inv]; simp [hi]
  · have h1 := h.1
    simp only [List.length_map] at h1
    rw [List.getElem?_eq_none (by omega), List.getElem?_eq_none (by simpa using hi)]

theorem bytesWorld_eq (w : World) (e : TypeId) (b : ByteArray) : Lib.bytesWorld w e b = { w.drew with heap := w.drew.heap.push (.cells (Lib.bytesCells w e b) e ((Lib.bytesCells w e b).size, (Lib.bytesCells w e b).size + 1)) } := by
  have hh : (Lib.bytesWorld w e b).heap = w.heap.push (.cells (Lib.bytesCells w e b) e ((Lib.bytesCells w e b).size, (Lib.bytesCells w e b).size + 1)) := by
    apply Array.ext_getElem?
    intro k
    rcases Nat.lt_trichotomy k w.heap.size with hk | hk | hk
    · rw [Lib.bytesWorld_at_old w e b k hk]; simp [Array.getElem?_push, Nat.ne_of_lt hk]
    · subst hk; rw [Lib.bytesWorld_at_new]; simp
    · rw [Array.getElem?_eq_none (by rw [Lib.bytesWorld_size]; omega), Array.getElem?_eq_none (by simp; omega)]
  have hd : Lib.bytesWorld w e b = { w.drew with heap := (Lib.bytesWorld w e b).heap } := by
    unfold Lib.bytesWorld World.freeze; simp; exact ⟨rfl, rfl⟩
  rw [hd, hh]; rfl

theorem op_convert {x : Operand} {s d : TypeId} {σ : St} {K : Value → St → Res} (ho : o.op = .convert s d x) (hx : okOpnd x = true) (h : opnd fr x (fun v => aConv P s d v σ K) = some r) :
    ∃ v σ', K v σ' = some r ∧ Ran P o fr σ v σ' ∧ (acts P o = false → σ' = σ ∧ (looks P o = false → Reckons P o fr v)) := by
  obtain ⟨v, h1, hv⟩ := opnd_inv hx h
  have hs : ∀ t ∈ opT x, t ∈ slots o := by intro t ht; simp only [slots, ho, Op.operands]; simpa using ht
  unfold aConv at h1
  split at h1
  · rename_i k1 k k2 n hus hud
    have hR : Reckons P o fr (.int k (k.wrap n)) := fun μ a w hf => by
      have e1 := (hv μ a (slots o) hs hf).int_inv
      exact ⟨.int k (k.wrap n), by simp [execOp, ho, e1, convert, run_underlying hus, run_underlying hud, Conv.intToInt], .int _ _⟩
    exact ⟨_, _, h1, hR.ran σ, fun _ => ⟨rfl, fun _ => hR⟩⟩
  · rename_i b hus hud
    have hR : Reckons P o fr (.string b) := fun μ a w hf => by
      have e1 := (hv μ a (slots o) hs hf).string_inv
      exact ⟨.string b, by simp [execOp, ho, e1, convert, run_underlying hus, run_underlying hud], .string _⟩
    exact ⟨_, _, h1, hR.ran σ, fun _ => ⟨rfl, fun _ => hR⟩⟩
  · rename_i e b hus hud
    split at h1
    · rename_i hue
      obtain ⟨hb, h2⟩ := need_inv h1
      have htop : b.size ≤ sizeTop := by simpa using hb
      refine ⟨_, _, h2, fun W μ a w hf hr => ?_, fun hact => by simp [acts, ho, hud] at hact⟩
      have e1 := (hv μ a (slots o) hs hf).string_inv
      have hrun := Lib.run_convert_string_bytes (P := P) w s d e b hus hud hue
      have hcs : (Lib.bytesCells w e b).size = grownCap w b.size 0 e := by
        have := grownCap_ge w b.size 0 e
        have h9 : b.data.size = b.size := rfl
        simp [Lib.bytesCells, h9]; omega
      obtain ⟨h3, h4⟩ := hr.drew.newRo (Lib.bytesCells w e b) e ((Lib.bytesCells w e b).size, (Lib.bytesCells w e b).size + 1) (byteCells b) (Lib.bytesWorld w e b)
        (bytesWorld_eq w e b)
        (fun j v hj => by
          refine ⟨v, ?_, (byteCells_rel μ b).2 j v v hj hj⟩
          have hjl : j < b.size := by have := (List.getElem?_eq_some_iff.1 hj).1; rw [byteCells_length] at this; exact this
          simp only [byteCells, List.getElem?_map, Option.map_eq_some_iff] at hj
          obtain ⟨u, hu1, hu2⟩ := hj
          have h9 : b.data.size = b.size := rfl
          rw [Lib.bytesCells, Array.getElem?_append_left (by simpa [h9] using hjl), Array.getElem?_map]
          rw [Array.getElem?_toList] at hu1
          rw [hu1, ← hu2]; rfl)
      refine ⟨_, _, _, _, by simp [execOp, ho, e1, hrun]; rfl, .inl rfl, h3, ?_, h4⟩
      have hput : ∀ nn, (μ.put σ.next ⟨w.drew.heap.size, 0, nn⟩) σ.next = some ⟨w.drew.heap.size, 0, nn⟩ := fun nn => by simp [Mp.put]
      exact VRel.sl (p := ⟨w.drew.heap.size, 0, (Lib.bytesCells w e b).size⟩) (hput _) (grownCap_ge w b.size 0 e) (.inr rfl) (.inl rfl) (grownCap_le_maxLen w b.size 0 e (by unfold maxLen; unfold sizeTop at htop; omega))
    · cases h1
  · rename_i e ad n z hus hud
    split at h1
    · rename_i hue
      obtain ⟨cs, h2, hcl, hrow⟩ := row_inv h1
      obtain ⟨l, hl, h3⟩ := asBy_inv h2
      refine ⟨_, _, h3, fun W μ a w hf hr => ?_, fun _ => ⟨rfl, fun hlk => by simp [looks, ho, hus] at hlk⟩⟩
      have e1 := hv μ a (slots o) hs hf
      have hxs : ∃ a2' c2, a.eval x = .slice a2' n c2 := by
        rcases e1.slice_inv with ⟨_, e5, _, e6⟩ | ⟨_, _, _, _, c2, _, _, _, e6, _⟩
        · subst e5; exact ⟨_, _, e6⟩
        · exact ⟨_, _, e6⟩
      obtain ⟨a2', c2, e5⟩ := hxs
      rw [e5] at e1
      obtain ⟨ns, hns, hll⟩ := bytesIn_spec hl
      obtain ⟨cs', hlr, hlen, hcells⟩ := row_rel hr e1 id hrow
      subst hns
      have hcs' := ints_rel hlr
      subst hcs'
      refine ⟨.value (.string ⟨l.toArray⟩), .string ⟨l.toArray⟩, w, μ, ?_, .inl rfl, Mp.le.refl μ, .string _, hr⟩
      have hconv : (convert s d (.slice a2' n c2)).run P w = .ok (.string ⟨l.toArray⟩) w := by
        rw [run_convert_bytes_string w s d e a2' n c2 hus hue hud]
        cases a2' with
        | none =>
          have hn0 : n = 0 := by
            rcases hcells with h | ⟨b, o', h, _⟩
            · exact h
            · cases h
          have hns0 : ns = [] := by simp only [List.length_map] at hlen; exact List.eq_nil_of_length_eq_zero (by omega)
          subst hns0
          simp [Conv.bytesToString, hll]; rfl
        | some a3 =>
          have hlc : (loadCells a3 n).run P w = .ok (ns.map (Value.int .u8)).toArray w := by
            have hnl : (ns.map (Value.int .u8)).length = n := hlen
            conv => lhs; rw [← hnl]
            refine run_loadCells_list w a3 _ (fun j v hj => ?_)
            rcases hcells with h | ⟨b, o', h, hc⟩
            · have := (List.getElem?_eq_some_iff.1 hj).1; omega
            · cases h; rw [addr_add]; exact hc j v hj
          rw [run_bytesToString w a3 n c2 ns hlc, fold_push, hll]; simp
      simp [execOp, ho, e5, hconv]
    · cases h1
  · cases h1

/-! ### Calls of the program's functions -/
/-- Behind a call: what it answers and the store that it leaves. -/
def After (W : Base) (μ : Mp) (v : Value) (σ' : St) : Ending → World → Prop
  | .returned v', w' => ∃ μ', μ.le μ' ∧ VRel μ' v v' ∧ Rel W μ' σ' w'
  | _, _ => False
def CallOK (P : Program) (call : FuncId → List Value → St → Res) : Prop :=
  ∀ f args σ v σ', call f args σ = some (v, σ') → (∃ fn, P.funcs[f]? = some fn ∧ fn.name ≠ "runtime.NumGoroutine" ∧ fn.body.isSome = true) ∧
    ∀ (W : Base) (μ : Mp) (w : World) (args' : List Value), LRel μ args args' → Rel W μ σ w → Calls P f args'.toArray w (After W μ v σ')

theorem op_go {call : FuncId → List Value → St → Res} (hcall : CallOK P call) {c : Call} {f : Operand} {σ : St} {K : Value → St → Res} (ho : o.op = .call c) (hc : c.callee = .value f) (hf0 : okOpnd f = true) (hx : c.args.toList.all okOpnd = true)
    (h : opnd fr f (fun fv => asF fv fun g first caps => opnds fr c.args.toList fun vs => bnd (call g (first ++ vs ++ caps) σ) fun v σ' => dstr P o.type v fun u => K u σ') = some r) :
    ∃ v σ', K v σ' = some r ∧ Sound P o fr σ v σ' := by
  obtain ⟨fv, h1, hfv⟩ := opnd_inv hf0 h
  obtain ⟨g, A, B, e1, h2⟩ := asF_inv h1
  subst e1
  obtain ⟨vs, h3, hvs⟩ := opnds_inv hx h2
  obtain ⟨v, σ', h4, h5⟩ := bnd_inv h3
  have h6 := dstr_inv h5
  obtain ⟨⟨fn, hfn, hname, hbody⟩, hC⟩ := hcall _ _ _ _ _ h4
  refine ⟨v, σ', h6, fun W μ a w hf hr next Q hn => ?_⟩
  have hfr := hfv μ a (slots o) (by intro t ht; simp only [slots, ho, Op.operands, Call.operands, hc, Array.toList_append, List.flatMap_append, List.mem_append]; exact .inl (by simpa using ht)) hf
  obtain ⟨A', B', hg, hA, hB⟩ := hfr.func_inv
  have hl := hvs μ a (slots o) (slotsC ho) hf
  have hall := (hA.append hl).append hB
  have hcalls := hC W μ w _ hall hr
  have hargs : (A'.toList ++ List.map a.eval c.args.toList ++ B'.toList).toArray = A' ++ c.args.map a.eval ++ B' := by simp
  rw [hargs] at hcalls
  have hrun : (execOp a.eval o).run P w = .ok (.enter g (A' ++ c.args.map a.eval ++ B')) w := by
    obtain ⟨cb, hcb⟩ := Option.isSome_iff_exists.1 hbody
    simp [execOp, ho, resolve, hc, Deferred.ofValue, hg, invoke, callFunc, hfn, hname, hcb]
  unfold Oper.wp
  rw [hrun, Oper.upon_enter]
  refine Calls.mono hcalls (fun e w' he => ?_)
  cases e with
  | returned v' => obtain ⟨μ', h7, h8, h9⟩ := he; exact hn v' w' μ' h7 h8 h9
  | panicked ch => exact he.elim
  | outgrown => exact he.elim

theorem directM_run {t : TypeId} {m : String} {f : FuncId} (h : directM P t m = some f) (n : Nat) (u : Value) (w : World) : (Go.method (n + 1) t u m).run P w = .ok (f, u) w := by
  unfold directM at h
  split at h
  case h_2 => cases h
  rename_i i hi
  split at h
  case h_2 => cases h
  rename_i r hf
  split at h
  case h_2 => cases h
  rename_i f' b d hfn hu
  cases hc : (r.path.isEmpty && (isPtrD d == b)) with
  | false => rw [hc] at h; cases h
  | true =>
  rw [hc] at h
  cases h
  simp only [Bool.and_eq_true, beq_iff_eq] at hc
  obtain ⟨hp, hb⟩ := hc
  have hp' : r.path.toList = [] := by simpa using hp
  cases d <;> simp only [isPtrD] at hb <;> subst hb <;> simp [Go.method, typeInfo, hi, hf, hp', hfn, follow, receiverAt, run_underlying hu, Place.get]
theorem aMeth_inv {v : Value} {m : String} {K : FuncId → Value → Res} (h : aMeth P v m K = some r) : ∃ t u f, v = .iface t u ∧ directM P t m = some f ∧ K f u = some r := by
  unfold aMeth at h
  split at h
  · split at h
    · exact ⟨_, _, _, rfl, ‹_›, h⟩
    · cases h
  · cases h
theorem op_invoke {call : FuncId → List Value → St → Res} (hcall : CallOK P call) {c : Call} {x : Operand} {m : String} {σ : St} {K : Value → St → Res} (ho : o.op = .call c) (hc : c.callee = .invoke x m) (hf0 : okOpnd x = true) (hx : c.args.toList.all okOpnd = true)
    (h : opnd fr x (fun xv => aMeth P xv m fun g u => opnds fr c.args.toList fun vs => bnd (call g (u :: vs) σ) fun v σ' => dstr P o.type v fun u => K u σ') = some r) :
    ∃ v σ', K v σ' = some r ∧ Sound P o fr σ v σ' := by
  obtain ⟨xv, h1, hfv⟩ := opnd_inv hf0 h
  obtain ⟨t, u, g, e1, hd, h2⟩ := aMeth_inv h1
  subst e1
  obtain ⟨vs, h3, hvs⟩ := opnds_inv hx h2
  obtain ⟨v, σ', h4, h5⟩ := bnd_inv h3
  have h6 := dstr_inv h5
  obtain ⟨⟨fn, hfn, hname, hbody⟩, hC⟩ := hcall _ _ _ _ _ h4
  refine ⟨v, σ', h6, fun W μ a w hf hr next Q hn => ?_⟩
  have hfr := hfv μ a (slots o) (by intro t ht; simp only [slots, ho, Op.operands, Call.operands, hc, Array.toList_append, List.flatMap_append, List.mem_append]; exact .inl (by simpa using ht)) hf
  obtain ⟨u', hg, hu⟩ := hfr.iface_inv
  have hl := hvs μ a (slots o) (slotsC ho) hf
  have hcalls := hC W μ w _ (.cons hu hl) hr
  have hargs : (u' :: List.map a.eval c.args.toList).toArray = #[u'] ++ c.args.map a.eval := by simp
  rw [hargs] at hcalls
  have hrun : (execOp a.eval o).run P w = .ok (.enter g (#[u'] ++ c.args.map a.eval)) w := by
    obtain ⟨cb, hcb⟩ := Option.isSome_iff_exists.1 hbody
    have hm := directM_run hd (P.types.size + 99) u' w
    have hex : (#[Value.iface t u'] ++ c.args.map a.eval).extract 1 (#[Value.iface t u'] ++ c.args.map a.eval).size = c.args.map a.eval := by simp
    have h0 : (#[Value.iface t u'] ++ c.args.map a.eval)[0]? = some (.iface t u') := by rw [Array.getElem?_append_left (by simp)]; rfl
    simp [execOp, ho, resolve, hc, hg, invoke, h0, callMethod, Made.depth, hm, callFunc, hfn, hname, hcb]
    congr 1
    apply Array.ext'
    simp [List.take_of_length_le]
  unfold Oper.wp
  rw [hrun, Oper.upon_enter]
  refine Calls.mono hcalls (fun e w' he => ?_)
  cases e with
  | returned v' => obtain ⟨μ', h7, h8, h9⟩ := he; exact hn v' w' μ' h7 h8 h9
  | panicked ch => exact he.elim
  | outgrown => exact he.elim

end
end Go.AM
