/-
  THE ABSTRACT MACHINE IS SOUND: maps whose keys are whole numbers.
-/
import Derived.Test.YtiiophkfecpbfaaDoorAm9
set_option linter.unusedVariables false
set_option linter.unusedSimpArgs false
set_option linter.unusedSectionVars false
namespace Go.AM
open Go.RowKit
variable [Laid]

section
variable {W : Base} {μ : Mp} {σ : St} {w : World}

theorem setObj_other (w : World) (b k : Nat) (ob : Obj) (h : k ≠ b) : ({ w with heap := w.heap.setIfInBounds b ob } : World).heap[k]? = w.heap[k]? := by
  simp only
  exact Array.getElem?_setIfInBounds_ne (fun e => h e.symm)
theorem setObj_self (w : World) (b : Nat) (ob o' : Obj) (h : w.heap[b]? = some o') : ({ w with heap := w.heap.setIfInBounds b ob } : World).heap[b]? = some ob := by
  have hb : b < w.heap.size := (Array.getElem?_eq_some_iff.1 h).1
  simp only
  exact Array.getElem?_setIfInBounds_self_of_lt hb
theorem setObj_below {w w' : World} {b : Nat} {B : Nat} (h : Below B w w') (hb : B ≤ b) (ob : Obj) : Below B w { w' with heap := w'.heap.setIfInBounds b ob } :=
  ⟨h.os, h.tape, h.output, by have := h.size; simpa using this, fun k hk => by rw [setObj_other w' b k ob (by omega)]; exact h.block k hk⟩

/-- A map holds other things. -/
theorem Rel.setMp (h : Rel W μ σ w) {r : Nat} {kv0 : List (Int × Value)} {p : Pl} {es0 : Array MapEntry} {ck0 : Nat} (hr : σ.get r = some (.mp kv0)) (hp : μ r = some p) (hWb : W.free p.b) (hc : w.heap[p.b]? = some (.map es0 ck0))
    (kv : List (Int × Value)) (es : Array MapEntry) (ck : Nat) (hlen : kv.length = es.toList.length) (hk : ∀ (i : Nat) k v e, kv[i]? = some (k, v) → es.toList[i]? = some e → e.key = .int .i64 k ∧ VRel μ v e.val ∧ oneCell v = true) :
    Rel W μ (σ.set r (.mp kv)) { w with heap := w.heap.setIfInBounds p.b (.map es ck) } := by
  have hB : (Blk.mp kv0).wr = true := rfl
  have hother : ∀ k B' q, k ≠ r → σ.get k = some B' → μ k = some q → q.b ≠ p.b := fun k B' q hk hB' hq hb => hk (h.inj r k _ _ p q hr hB hB' hp hq hb.symm).symm
  refine ⟨setObj_below h.below hWb.1 _, ?_, ?_, ?_, ?_, ?_, ?_, h.laid, fun b o he => by rw [setObj_other w p.b b _ (fun e => by subst e; rw [hWb.2] at he; cases he)]; exact h.extra b o he, fun k q C hq hC => by
    simp only [St.set] at hC
    split at hC
    · rename_i e1; subst e1; exact h.apart k q _ hq hr
    · exact h.apart k q C hq hC⟩
  · intro k hk
    have hk' : σ.next ≤ k := hk
    have hlt := h.ltNext hr
    have hne : k ≠ r := by omega
    have := h.fresh k hk'
    exact ⟨this.1, by simp [St.set, hne, this.2]⟩
  · intro k q C hq hC
    have hsz : ({ w with heap := w.heap.setIfInBounds p.b (.map es ck) } : World).heap.size = w.heap.size := by simp
    rw [hsz]
    simp only [St.set] at hC
    split at hC
    · rename_i e1; subst e1; exact h.lt k q _ hq hr
    · exact h.lt k q C hq hC
  · intro k us e' hk
    simp only [St.set] at hk
    split at hk
    · cases hk
    · rename_i hkr
      obtain ⟨q, c, hq, hb, hcc, hss, hn, hvs⟩ := h.own k us e' hk
      exact ⟨q, c, hq, hb, by rw [setObj_other w p.b q.b _ (hother k _ q hkr hk hq)]; exact hcc, hss, hn, hvs⟩
  · intro k us hk
    simp only [St.set] at hk
    split at hk
    · cases hk
    · rename_i hkr
      obtain ⟨q, hq, hvs⟩ := h.ro k us hk
      refine ⟨q, hq, fun i v hi => ?_⟩
      obtain ⟨v', h1, h2⟩ := hvs i v hi
      refine ⟨v', ?_, h2⟩
      rw [World.cell?_of_block (setObj_other w p.b q.b _ (hother k _ q hkr hk hq))]
      exact h1
  · intro k kv' hk'
    simp only [St.set] at hk'
    split at hk'
    · rename_i e1; subst e1
      simp only [Option.some.injEq, Blk.mp.injEq] at hk'
      subst hk'
      exact ⟨p, es, ck, hp, hWb, setObj_self w p.b _ _ hc, hlen, hk⟩
    · rename_i hkr
      obtain ⟨q, es', ck', hq, hb, hm, hlen', hkk⟩ := h.mp k kv' hk'
      exact ⟨q, es', ck', hq, hb, by rw [setObj_other w p.b q.b _ (hother k _ q hkr hk' hq)]; exact hm, hlen', hkk⟩
  · intro k k' C C' q q' hk hw hk' hq hq' hb
    simp only [St.set] at hk hk'
    have hk1 : ∃ C0, σ.get k = some C0 ∧ (C.wr = true → C0.wr = true) := by
      split at hk
      · rename_i e1; subst e1; exact ⟨_, hr, fun _ => hB⟩
      · exact ⟨C, hk, id⟩
    have hk2 : ∃ C0, σ.get k' = some C0 := by
      split at hk'
      · rename_i e1; subst e1; exact ⟨_, hr⟩
      · exact ⟨C', hk'⟩
    obtain ⟨C0, g1, g2⟩ := hk1
    obtain ⟨C1, g3⟩ := hk2
    exact h.inj k k' C0 C1 q q' g1 (g2 hw) g3 hq hq' hb

/-- A new map. -/
theorem Rel.newMp (h : Rel W μ σ w) :
    μ.le (μ.put σ.next ⟨w.heap.size, 0, 0⟩) ∧ Rel W (μ.put σ.next ⟨w.heap.size, 0, 0⟩) (σ.new (.mp [])) (w.alloc (.map #[] 0)) := by
  have hle : μ.le (μ.put σ.next ⟨w.heap.size, 0, 0⟩) := Mp.put_le (h.fresh _ (Nat.le_refl _)).1
  have hput : (μ.put σ.next ⟨w.heap.size, 0, 0⟩) σ.next = some ⟨w.heap.size, 0, 0⟩ := by simp [Mp.put]
  have hold : ∀ b, b < w.heap.size → (w.alloc (.map #[] 0)).heap[b]? = w.heap[b]? := fun b hb => heap_alloc_old w _ b hb
  have hcell : ∀ a : Addr, a.block < w.heap.size → (w.alloc (.map #[] 0)).cell? a = w.cell? a := fun a ha => World.cell?_alloc_lt w _ a ha
  refine ⟨hle, ?_, ?_, ?_, ?_, ?_, ?_, ?_, h.laid, fun b o he => by rw [hold b (h.exLt he)]; exact h.extra b o he, fun r q B hq hB => by
    simp only [Mp.put] at hq
    simp only [St.new] at hB
    split at hq
    · cases hq; exact h.freeNew.2
    · rename_i hne
      rw [if_neg hne] at hB
      exact h.apart r q B hq hB⟩
  · exact h.below.alloc h.below.size _
  · intro r hr
    have hr' : σ.next + 1 ≤ r := hr
    have hne : r ≠ σ.next := by omega
    have := h.fresh r (by omega)
    exact ⟨by simp [Mp.put, hne, this.1], by simp [St.new, hne, this.2]⟩
  · intro r p B hp hB
    simp only [Mp.put] at hp
    simp only [St.new] at hB
    split at hp
    · cases hp; simp
    · rename_i hne
      rw [if_neg hne] at hB
      have := h.lt r p B hp hB; simp; omega
  · intro r us e' hr
    simp only [St.new] at hr
    split at hr
    · cases hr
    · obtain ⟨p, c, hp, hb, hc, hs, hn, hvs⟩ := h.own r us e' hr
      exact ⟨p, c, hle _ _ hp, hb, by rw [hold _ (h.lt _ _ _ hp hr)]; exact hc, hs, hn, fun i v hi => by obtain ⟨v', h1, h2⟩ := hvs i v hi; exact ⟨v', h1, h2.mono hle⟩⟩
  · intro r us hr
    simp only [St.new] at hr
    split at hr
    · cases hr
    · obtain ⟨p, hp, hvs⟩ := h.ro r us hr
      exact ⟨p, hle _ _ hp, fun i v hi => by obtain ⟨v', h1, h2⟩ := hvs i v hi; exact ⟨v', by rw [hcell _ (h.lt _ _ _ hp hr)]; exact h1, h2.mono hle⟩⟩
  · intro r kv hr
    simp only [St.new] at hr
    split at hr
    · rename_i hrn
      subst hrn
      cases hr
      exact ⟨_, #[], 0, hput, h.freeNew, heap_alloc_new w _, rfl, fun i k v e hi => by simp at hi⟩
    · obtain ⟨p, es, ck, hp, hb, hm, hlen, hk⟩ := h.mp r kv hr
      exact ⟨p, es, ck, hle _ _ hp, hb, by rw [hold _ (h.lt _ _ _ hp hr)]; exact hm, hlen, fun i k v e hi he => by obtain ⟨h1, h2, h3⟩ := hk i k v e hi he; exact ⟨h1, h2.mono hle, h3⟩⟩
  · intro r r' B B' p p' hr hw hr' hp hp' hb
    simp only [St.new] at hr hr'
    simp only [Mp.put] at hp hp'
    split at hp <;> split at hp'
    · rename_i h1 h2; rw [h1, h2]
    · rename_i h1 h2; cases hp; have := h.lt r' p' _ hp' (by rw [if_neg h2] at hr'; exact hr'); simp only at hb; omega
    · rename_i h1 h2; cases hp'; have := h.lt r p _ hp (by rw [if_neg h1] at hr; exact hr); simp only at hb; omega
    · rename_i h1 h2
      rw [if_neg h1] at hr
      rw [if_neg h2] at hr'
      exact h.inj r r' B B' p p' hr hw hr' hp hp' hb

/-- How a key is found. -/
theorem find_rel {μ : Mp} (n : Int) : ∀ (kv : List (Int × Value)) (es : List MapEntry) (i : Nat), kv.length = es.length →
    (∀ (i : Nat) k v e, kv[i]? = some (k, v) → es[i]? = some e → e.key = .int .i64 k ∧ VRel μ v e.val ∧ oneCell v = true) →
    (Instr.findNow (.int .i64) (.int .i64 n) es i = some none ∧ kvGet n kv = none ∧ ∀ u, kvPut n u kv = kv ++ [(n, u)]) ∨
    (∃ j e v, Instr.findNow (.int .i64) (.int .i64 n) es i = some (some (i + j, e.val)) ∧ es[j]? = some e ∧ e.key = .int .i64 n ∧ kv[j]? = some (n, v) ∧ kvGet n kv = some v ∧ VRel μ v e.val ∧ ∀ u, kvPut n u kv = kv.set j (n, u))
  | [], [], i, _, _ => .inl ⟨rfl, rfl, fun u => rfl⟩
  | [], _ :: _, i, h, _ => by simp at h
  | _ :: _, [], i, h, _ => by simp at h
  | (k, v) :: kv, e :: es, i, h, hk => by
    obtain ⟨h1, h2, h3⟩ := hk 0 k v e rfl rfl
    by_cases hn : n = k
    · subst hn
      refine .inr ⟨0, e, v, ?_, rfl, h1, rfl, by simp [kvGet], h2, fun u => by simp [kvPut]⟩
      simp [Instr.findNow, Instr.sameNow, h1]
    · have hstep : Instr.findNow (.int .i64) (.int .i64 n) (e :: es) i = Instr.findNow (.int .i64) (.int .i64 n) es (i + 1) := by
        have hb : (n == k) = false := by simpa using hn
        simp [Instr.findNow, Instr.sameNow, h1, hb]
      rcases find_rel n kv es (i + 1) (by simpa using h) (fun i' k' v' e' hi he => hk (i' + 1) k' v' e' (by simpa using hi) (by simpa using he)) with ⟨g1, g2, g3⟩ | ⟨j, e', v', g1, g2, g3, g4, g5, g6, g7⟩
      · exact .inl ⟨by rw [hstep, g1], by simp [kvGet, hn, g2], fun u => by simp [kvPut, hn, g3]⟩
      · exact .inr ⟨j + 1, e', v', by rw [hstep, g1, show i + 1 + j = i + (j + 1) by omega], by simpa using g2, g3, by simpa using g4, by simp [kvGet, hn, g5], g6, fun u => by simp [kvPut, hn, g7]⟩
end

section
variable {P : Program} {o : Oper} {fr : Fr} {r : Value × St}

def isI64Map (P : Program) (t : TypeId) : Bool := match P.underlying t with | some (.map k _) => (match P.underlying k with | some (.int .i64) => true | _ => false) | _ => false
theorem isI64Map_inv {t : TypeId} (h : isI64Map P t = true) : ∃ k e, P.underlying t = some (.map k e) ∧ P.underlying k = some (.int .i64) := by
  unfold isI64Map at h
  split at h
  · rename_i k e hu
    split at h
    · rename_i hk; exact ⟨k, e, hu, hk⟩
    · cases h
  · cases h

theorem slots3 {x y z : Operand} (h : o.op.operands = #[x, y, z]) : ∀ u, u = x ∨ u = y ∨ u = z → ∀ t ∈ opT u, t ∈ slots o := by
  intro u hu t ht
  simp only [slots, h, List.flatMap_cons, List.flatMap_nil, List.append_nil, List.mem_append]
  rcases hu with rfl | rfl | rfl
  · exact .inl ht
  · exact .inr (.inl ht)
  · exact .inr (.inr ht)

theorem op_makeMap {t : TypeId} {σ : St} {K : Value → St → Res} (ho : o.op = .makeMap t none)
    (h : need (match P.underlying t with | some (.map _ _) => true | _ => false) (K (.map (some σ.next)) (σ.new (.mp []))) = some r) : ∃ v σ', K v σ' = some r ∧ Ran P o fr σ v σ' := by
  obtain ⟨_, h1⟩ := need_inv h
  refine ⟨_, _, h1, fun W μ a w hf hr => ?_⟩
  obtain ⟨h2, h3⟩ := hr.newMp
  refine ⟨.value (.map (some w.heap.size)), _, _, _, ?_, .inl rfl, h2, ?_, h3⟩
  · simp [execOp, ho, Instr.makeMap]
  · have : (μ.put σ.next ⟨w.heap.size, 0, 0⟩) σ.next = some ⟨w.heap.size, 0, 0⟩ := by simp [Mp.put]
    exact .map this

theorem run_findKey {k : TypeId} {n : Int} {es : List MapEntry} {res : Option (Nat × Value)} {w : World} (hk : P.underlying k = some (.int .i64)) (h : Instr.findNow (.int .i64) (.int .i64 n) es 0 = some res) :
    (Instr.findKey k (.int .i64 n) es).run P w = .ok res w := by
  simp [Instr.findKey, run_underlying hk, h]
theorem run_checkKey {k : TypeId} {n : Int} {b : Bool} {w : World} (hk : P.underlying k = some (.int .i64)) : (Instr.checkKey b 10000 k (.int .i64 n)).run P w = .ok () w := by
  have h : ∀ m, (Instr.checkKey b (m + 1) k (.int .i64 n)).run P w = .ok () w := fun m => by rw [Instr.checkKey]; simp [run_underlying hk]
  exact h 9999
theorem run_getObj {rr : Nat} {es : Array MapEntry} {ck : Nat} {w : World} (h : w.heap[rr]? = some (.map es ck)) : (getObj rr).run P w = .ok (.map es ck) w := by
  simp [getObj, Sem.run, h]
theorem run_setObj {rr : Nat} {es : Array MapEntry} {ck : Nat} {ob : Obj} {w : World} (h : w.heap[rr]? = some (.map es ck)) : (setObj rr ob).run P w = .ok () { w with heap := w.heap.setIfInBounds rr ob } := by
  simp [setObj, Sem.run, h]

theorem op_lookup {t : TypeId} {x i : Operand} {σ : St} {K : Value → Res} (ho : o.op = .lookup t x i false) (hx : okOpnd x = true) (hi : okOpnd i = true) (hm : isI64Map P t = true)
    (h : opnd fr x (fun v => opnd fr i fun j =>
      match P.underlying t with
      | some (.map k e) => match P.underlying k, zeroOf P e with
        | some (.int ik), some z => asM v fun m => asI ik j fun n => σ.look m n z fun u => dstr P e u fun u => K u
        | _, _ => none
      | _ => none) = some r) : ∃ v, K v = some r ∧ Ran P o fr σ v σ := by
  obtain ⟨k, e, hu, hk⟩ := isI64Map_inv hm
  obtain ⟨v, h1, hv⟩ := opnd_inv hx h
  obtain ⟨j, h2, hj⟩ := opnd_inv hi h1
  simp only [hu, hk] at h2
  cases hz : zeroOf P e with
  | none => rw [hz] at h2; cases h2
  | some z =>
  rw [hz] at h2
  simp only at h2
  obtain ⟨m, rfl, h3⟩ := asM_inv h2
  obtain ⟨n, rfl, h4⟩ := asI_inv h3
  obtain ⟨ti, hti, htz, hpl⟩ := zeroOf_inv hz
  have key : ∃ u, K u = some r ∧ ((m = none ∧ u = z) ∨ ∃ q kv, m = some q ∧ σ.get q = some (.mp kv) ∧ u = (kvGet n kv).getD z) := by
    cases m with
    | none => exact ⟨z, dstr_inv h4, .inl ⟨rfl, rfl⟩⟩
    | some q =>
      simp only [St.look] at h4
      split at h4
      · rename_i kv hq
        exact ⟨_, dstr_inv h4, .inr ⟨q, kv, rfl, hq, rfl⟩⟩
      · cases h4
  obtain ⟨u, hK, hor⟩ := key
  refine ⟨u, hK, fun W μ a w hf hr => ?_⟩
  have hvx := hv μ a (slots o) (slots2a (by rw [ho]; rfl)) hf
  have hvi := (hj μ a (slots o) (slots2b (by rw [ho]; rfl)) hf).int_inv
  rcases hor with ⟨rfl, rfl⟩ | ⟨q, kv, rfl, hq, rfl⟩
  · rcases hvx.map_inv with ⟨_, hg⟩ | ⟨_, _, hc, _⟩
    · refine ⟨.value u, u, w, μ, ?_, .inl rfl, Mp.le.refl μ, plain_rel μ u hpl, hr⟩
      have hfn : (Instr.findKey k (.int .i64 n) []).run P w = .ok none w := run_findKey hk rfl
      simp [execOp, ho, hg, hvi, Instr.lookup, run_underlying hu, run_checkKey hk, hfn, zeroValue, typeInfo, hti, htz]
    · cases hc
  · rcases hvx.map_inv with ⟨hc, _⟩ | ⟨q', p, hc, hp, hg⟩
    · cases hc
    · cases hc
      obtain ⟨p', es, ck, hp', hWb, hheap, hlen, hkk⟩ := hr.mp q kv hq
      rw [hp] at hp'; cases hp'
      rcases find_rel n kv es.toList 0 hlen hkk with ⟨g1, g2, _⟩ | ⟨jj, ee, vv, g1, g2, g3, g4, g5, g6, _⟩
      · refine ⟨.value z, z, w, μ, ?_, .inl rfl, Mp.le.refl μ, by rw [g2]; exact plain_rel μ z hpl, hr⟩
        have hfn : (Instr.findKey k (.int .i64 n) es.toList).run P w = .ok none w := run_findKey hk g1
        simp [execOp, ho, hg, hvi, Instr.lookup, run_underlying hu, run_getObj hheap, run_checkKey hk, hfn, zeroValue, typeInfo, hti, htz]
      · refine ⟨.value ee.val, ee.val, w, μ, ?_, .inl rfl, Mp.le.refl μ, by rw [g5]; exact g6, hr⟩
        have hfn : (Instr.findKey k (.int .i64 n) es.toList).run P w = .ok (some (0 + jj, ee.val)) w := run_findKey hk g1
        simp [execOp, ho, hg, hvi, Instr.lookup, run_underlying hu, run_getObj hheap, run_checkKey hk, hfn]

theorem op_mapUpdate {t : TypeId} {x i y : Operand} {σ : St} {K : Value → St → Res} (ho : o.op = .mapUpdate t x i y) (hx : okOpnd x = true) (hi : okOpnd i = true) (hy : okOpnd y = true) (hm : isI64Map P t = true)
    (h : opnd fr x (fun v => opnd fr i fun j => opnd fr y fun u =>
      match P.underlying t with
      | some (.map kt _) => match P.underlying kt with
        | some (.int ik) => asM v fun m => asI ik j fun n => need (oneCell u) (σ.upd m n u fun σ' => K undef σ')
        | _ => none
      | _ => none) = some r) : ∃ v σ', K v σ' = some r ∧ Ran P o fr σ v σ' := by
  obtain ⟨k, e, hu, hk⟩ := isI64Map_inv hm
  obtain ⟨v, h1, hv⟩ := opnd_inv hx h
  obtain ⟨j, h2, hj⟩ := opnd_inv hi h1
  obtain ⟨u, h2', hy'⟩ := opnd_inv hy h2
  simp only [hu, hk] at h2'
  obtain ⟨m, rfl, h3⟩ := asM_inv h2'
  obtain ⟨n, rfl, h4⟩ := asI_inv h3
  obtain ⟨hone, h5⟩ := need_inv h4
  cases m with
  | none => cases h5
  | some q =>
  simp only [St.upd] at h5
  split at h5
  case h_2 => cases h5
  rename_i kv hq
  refine ⟨undef, _, h5, fun W μ a w hf hr => ?_⟩
  have hsl := slots3 (o := o) (x := x) (y := i) (z := y) (by rw [ho]; rfl)
  have hvx := hv μ a (slots o) (hsl x (.inl rfl)) hf
  have hvi := (hj μ a (slots o) (hsl i (.inr (.inl rfl))) hf).int_inv
  have hvy := hy' μ a (slots o) (hsl y (.inr (.inr rfl))) hf
  rcases hvx.map_inv with ⟨hc, _⟩ | ⟨q', p, hc, hp, hg⟩
  · cases hc
  · cases hc
    obtain ⟨p', es, ck, hp', hWb, hheap, hlen, hkk⟩ := hr.mp q kv hq
    rw [hp] at hp'; cases hp'
    rcases find_rel n kv es.toList 0 hlen hkk with ⟨g1, g2, g3⟩ | ⟨jj, ee, vv, g1, g2, g3, g4, g5, g6, g7⟩
    · have hfn : (Instr.findKey k (.int .i64 n) es.toList).run P w = .ok none w := run_findKey hk g1
      have hrel := hr.setMp hq hp hWb hheap (kvPut n u kv) (es.push { key := .int .i64 n, val := a.eval y, born := ck }) (ck + 1) (by rw [g3]; simp [hlen]) (by
        intro i' k' v' e' hi' he'
        rw [g3] at hi'
        simp only [Array.toList_push] at he'
        by_cases hil : i' < kv.length
        · rw [List.getElem?_append_left hil] at hi'
          rw [List.getElem?_append_left (by rw [← hlen]; exact hil)] at he'
          exact hkk i' k' v' e' hi' he'
        · rw [List.getElem?_append_right (by omega)] at hi'
          rw [List.getElem?_append_right (by rw [← hlen]; omega)] at he'
          obtain ⟨hz, hzz⟩ := List.getElem?_eq_some_iff.1 hi'
          obtain ⟨hz2, hzz2⟩ := List.getElem?_eq_some_iff.1 he'
          simp only [List.length_singleton] at hz hz2
          have e0 : i' - kv.length = 0 := by omega
          have e1 : i' - es.toList.length = 0 := by omega
          simp only [e0, List.getElem_cons_zero, Prod.mk.injEq] at hzz
          simp only [e1, List.getElem_cons_zero] at hzz2
          obtain ⟨rfl, rfl⟩ := hzz
          subst hzz2
          exact ⟨rfl, hvy, hone⟩)
      refine ⟨.skip, undef, _, μ, ?_, .inr ⟨rfl, rfl⟩, Mp.le.refl μ, .undef μ, hrel⟩
      simp [execOp, ho, hg, hvi, Instr.mapUpdate, run_underlying hu, run_getObj hheap, run_checkKey hk, hfn, run_setObj hheap]
    · have hfn : (Instr.findKey k (.int .i64 n) es.toList).run P w = .ok (some (0 + jj, ee.val)) w := run_findKey hk g1
      have hjl : jj < es.toList.length := (List.getElem?_eq_some_iff.1 g2).1
      have hmod : (es.modify jj fun e => { e with key := .int .i64 n, val := a.eval y }).toList = es.toList.set jj { ee with key := .int .i64 n, val := a.eval y } := by
        apply List.ext_getElem?
        intro i'
        rw [Array.getElem?_toList, Array.getElem?_modify, List.getElem?_set]
        by_cases hij : jj = i'
        · subst hij
          rw [if_pos rfl, if_pos rfl, if_pos hjl, ← Array.getElem?_toList, g2]; rfl
        · rw [if_neg hij, if_neg hij, Array.getElem?_toList]
      have hrel := hr.setMp hq hp hWb hheap (kvPut n u kv) (es.modify jj fun e => { e with key := .int .i64 n, val := a.eval y }) ck (by rw [g7, hmod]; simp [hlen]) (by
        intro i' k' v' e' hi' he'
        rw [g7, List.getElem?_set] at hi'
        rw [hmod, List.getElem?_set] at he'
        by_cases hij : jj = i'
        · subst hij
          rw [if_pos rfl, if_pos (by omega)] at hi'
          rw [if_pos rfl, if_pos hjl] at he'
          simp only [Option.some.injEq, Prod.mk.injEq] at hi' he'
          obtain ⟨rfl, rfl⟩ := hi'
          subst he'
          exact ⟨rfl, hvy, hone⟩
        · rw [if_neg hij] at hi' he'
          exact hkk i' k' v' e' hi' he')
      refine ⟨.skip, undef, _, μ, ?_, .inr ⟨rfl, rfl⟩, Mp.le.refl μ, .undef μ, hrel⟩
      have hes : es[jj]? = some ee := by rw [← Array.getElem?_toList]; exact g2
      simp [execOp, ho, hg, hvi, Instr.mapUpdate, run_underlying hu, run_getObj hheap, run_checkKey hk, hfn, Instr.keyThatStays, Instr.sameBits, hes, g3, run_setObj hheap]
end
end Go.AM
