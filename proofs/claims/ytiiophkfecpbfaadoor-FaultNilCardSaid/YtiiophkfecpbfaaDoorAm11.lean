/-
  THE ABSTRACT MACHINE IS SOUND: regions in the order of the text; what a region that draws its order must keep to.
-/
import Derived.Test.YtiiophkfecpbfaaDoorAm10
import Derived.Test.YtiiophkfecpbfaaDoorAmO
set_option linter.unusedVariables false
set_option linter.unusedSimpArgs false
set_option linter.unusedSectionVars false
namespace Go.AM
open Go.RowKit
variable [Laid]

variable {P : Program} {call : FuncId → List Value → St → Res} {r : Value × St}

/-- A guard's verdict. -/
theorem guardIs_inv {all : List Oper} {fr : Fr} {g : Option (Nat × Bool)} {yes no : Fr → Res} (h : guardIs all fr g yes no = some r) :
    ∃ fr' b, (if b then yes fr' else no fr') = some r ∧ (∀ t, fr'.get t = fr.get t) ∧
      match g with
      | none => b = true
      | some (j, w) => ∃ d v, (all[j]?).bind (·.dst) = some d ∧ fr.get d = some v ∧ ((∃ c, v = .bool c ∧ b = (c == w)) ∨ (∃ A, v = .tuple A ∧ b = false)) := by
  unfold guardIs at h
  split at h
  · exact ⟨fr, true, h, fun _ => rfl, rfl⟩
  · rename_i j w
    split at h
    · cases h
    · rename_i d hd
      have hsame : ∀ c : Bool, fr.get d = some (.bool c) → ∀ t, Fr.get ((d, .bool c) :: fr) t = fr.get t := by
        intro c hc t
        simp only [Fr.get]
        by_cases hdt : d = t
        · subst hdt; simp [hc]
        · rw [nbeq_ne hdt]; rfl
      split at h
      · rename_i c hc
        rcases br_inv h with ⟨rfl, h1⟩ | ⟨rfl, h1⟩
        · cases w
          · exact ⟨_, false, h1, hsame _ hc, d, _, hd, hc, .inl ⟨true, rfl, rfl⟩⟩
          · exact ⟨_, true, h1, hsame _ hc, d, _, hd, hc, .inl ⟨true, rfl, rfl⟩⟩
        · cases w
          · exact ⟨_, true, h1, hsame _ hc, d, _, hd, hc, .inl ⟨false, rfl, rfl⟩⟩
          · exact ⟨_, false, h1, hsame _ hc, d, _, hd, hc, .inl ⟨false, rfl, rfl⟩⟩
      · rename_i A hA
        cases hE : A.toList.isEmpty with
        | true => rw [hE] at h; exact ⟨fr, false, h, fun _ => rfl, d, _, hd, hA, .inr ⟨A, rfl, rfl⟩⟩
        | false => rw [hE] at h; cases h
      · cases h

/-- The real machine's verdict is the same. -/
theorem wanted_of {ops : Array Oper} {o : Oper} {a : Act} {μ : Mp} {b : Bool} {F : Fr}
    (h : match o.guard with
      | none => b = true
      | some (j, w) => ∃ d v, (ops.toList[j]?).bind (·.dst) = some d ∧ F.get d = some v ∧ ((∃ c, v = .bool c ∧ b = (c == w)) ∨ (∃ A, v = .tuple A ∧ b = false)))
    (hf : ∀ j w, o.guard = some (j, w) → ∀ d, (ops.toList[j]?).bind (·.dst) = some d → ∀ v, F.get d = some v → ∃ v', a.tmps[d]? = some v' ∧ VRel μ v v') :
    Region.wanted o (yielded ops a.tmps) = b := by
  unfold Region.wanted
  cases hg : o.guard with
  | none => rw [hg] at h; simp only at h; rw [h]
  | some jw =>
    obtain ⟨j, w⟩ := jw
    rw [hg] at h
    obtain ⟨d, v, hd, hv, hc⟩ := h
    obtain ⟨v', hv', hr⟩ := hf j w hg d hd v hv
    have hd2 : (ops[j]?).bind (·.dst) = some d := by rw [← Array.getElem?_toList]; exact hd
    simp only
    rcases hc with ⟨c, rfl, rfl⟩ | ⟨A, rfl, rfl⟩
    · rw [hr.bool_inv] at hv'
      simp only [yielded, hd2, Option.bind_some, hv']
      cases c <;> cases w <;> rfl
    · obtain ⟨B, hB, _⟩ := hr.tuple_inv
      rw [hB] at hv'
      simp only [yielded, hd2, Option.bind_some, hv']
      rfl

/-- Regions in the order of the text. -/
theorem ops_sound (hcall : CallOK P call) {ops : Array Oper} {n : Nat} (hok : ∀ o ∈ ops.toList, okOp P o = true ∧ ∀ d, o.dst = some d → d < n) {W : Base} {Q : Exit → Act → World → Prop} {K : Fr → St → Res} :
    ∀ (rest : List Oper) (i : Nat) (past : Past) (fr : Fr) (σ : St), rest = ops.toList.drop i → aOps P call ops.toList none rest i past fr σ K = some r →
      ∀ (μ : Mp) (a : Act) (w : World), FrRel μ fr a → Rel W μ σ w → a.tmps.size = n → a.defers = [] →
      (∀ fr' σ' μ' a' w', K fr' σ' = some r → μ.le μ' → FrRel μ' fr' a' → Rel W μ' σ' w' → a'.tmps.size = n → a'.defers = [] → Q .normal a' w') →
      wpOps P ops Q (List.range' i rest.length) a w := by
  intro rest
  induction rest with
  | nil =>
    intro i past fr σ _ h μ a w hf hr hn hd hQ
    simp only [aOps] at h
    exact hQ fr σ μ a w h (Mp.le.refl μ) hf hr hn hd
  | cons o rest ih =>
    intro i past fr σ hrest h μ a w hf hr hn hd hQ
    have hoi : ops.toList[i]? = some o := by
      have : (ops.toList.drop i)[0]? = some o := by rw [← hrest]; rfl
      simpa using this
    have hnext : rest = ops.toList.drop (i + 1) := by
      rw [← List.drop_drop, ← hrest]; rfl
    obtain ⟨hop, hdst⟩ := hok o (List.mem_of_getElem? hoi)
    have hoi2 : ops[i]? = some o := by rw [← Array.getElem?_toList]; exact hoi
    simp only [aOps] at h
    obtain ⟨fr', b, h1, hsame, hg⟩ := guardIs_inv h
    have hf' : FrRel μ fr' a := fun t v hv => hf t v (by rw [← hsame]; exact hv)
    have hw := wanted_of (ops := ops) (F := fr) (a := a) (μ := μ) hg (fun _ _ _ d _ v hv => hf d v hv)
    simp only [List.length_cons, List.range'_succ, wpOps, hoi2, hw]
    cases b with
    | true =>
      simp only [if_true] at h1 ⊢
      obtain ⟨v, σ', h2, h3, _⟩ := aOp_inv hcall hop h1
      refine .inl (h3 W μ a w (hf'.on _) hr _ Q (fun v' w' μ' hle hv' hr' => ?_))
      refine ih (i + 1) _ _ _ hnext h2 μ' _ _ ((hf'.mono hle).put hv' (fun t ht => by rw [hn]; exact hdst t ht)) hr' ?_ ?_ (fun fr2 σ2 μ2 a2 w2 hK hle2 => hQ fr2 σ2 μ2 a2 w2 hK (hle.trans hle2))
      · cases ho : o.dst <;> simp [Act.put, hn]
      · cases ho : o.dst <;> simp [Act.put, hd]
    | false =>
      simp only [Bool.false_eq_true, if_false] at h1 ⊢
      refine ih (i + 1) _ _ _ hnext h1 μ _ _ (hf'.put (VRel.undef μ) (fun t ht => by rw [hn]; exact hdst t ht)) hr ?_ ?_ hQ
      · cases ho : o.dst <;> simp [Act.put, hn]
      · cases ho : o.dst <;> simp [Act.put, hd]

/-! ### What must come ahead of what -/
def maskOf (acc : List Nat) (es : List Edge) : Nat :=
  es.foldl (fun s e => bif Region.binds .any e then (s ||| (1 <<< e.on)) ||| acc.getD e.on 0 else s) 0
def befL : List Oper → List Nat → List Nat
  | [], acc => acc
  | o :: rest, acc => befL rest (acc ++ [maskOf acc o.after.toList])

theorem maskFold (acc : List Nat) (j : Nat) : ∀ (es : List Edge) (s : Nat), (es.foldl (fun s e => bif Region.binds .any e then (s ||| (1 <<< e.on)) ||| acc.getD e.on 0 else s) s).testBit j = true →
    s.testBit j = true ∨ ∃ e ∈ es, Region.binds .any e = true ∧ (j = e.on ∨ (acc.getD e.on 0).testBit j = true)
  | [], s, h => .inl h
  | e :: es, s, h => by
    simp only [List.foldl_cons] at h
    rcases maskFold acc j es _ h with h1 | ⟨e', he', h2⟩
    · cases hb : Region.binds .any e with
      | false => rw [hb] at h1; exact .inl h1
      | true =>
        rw [hb] at h1
        simp only [cond_true, Nat.testBit_or, Bool.or_eq_true] at h1
        rcases h1 with (h1 | h1) | h1
        · exact .inl h1
        · refine .inr ⟨e, by simp, hb, .inl ?_⟩
          rw [Nat.testBit_shiftLeft, Bool.and_eq_true] at h1
          have h2 : e.on ≤ j := by simpa using h1.1
          have h3 : (1 : Nat).testBit (j - e.on) = true := h1.2
          rcases Nat.eq_zero_or_pos (j - e.on) with h4 | h4
          · omega
          · obtain ⟨m, hm⟩ : ∃ m, j - e.on = m + 1 := ⟨j - e.on - 1, by omega⟩
            rw [hm, Nat.testBit_succ] at h3
            simp at h3
        · exact .inr ⟨e, by simp, hb, .inr h1⟩
    · exact .inr ⟨e', by simp [he'], h2⟩

theorem befL_spec {D : Nat → Prop} {all : List Oper} (hD : ∀ i o, all[i]? = some o → D i → ∀ e ∈ o.after.toList, Region.binds .any e = true → D e.on) :
    ∀ (rest : List Oper) (acc : List Nat), rest = all.drop acc.length → acc.length ≤ all.length →
      (∀ i o, i < acc.length → all[i]? = some o → (∀ e ∈ o.after.toList, Region.binds .any e = true → D e.on) → ∀ j, (acc.getD i 0).testBit j = true → D j) →
      ∀ i o, all[i]? = some o → (∀ e ∈ o.after.toList, Region.binds .any e = true → D e.on) → ∀ j, ((befL rest acc).getD i 0).testBit j = true → D j
  | [], acc, hr, hle, hacc => by
    intro i o ho
    have hlen : all.length ≤ acc.length := by
      rcases Nat.lt_or_ge acc.length all.length with h | h
      · have := congrArg List.length hr; simp at this; omega
      · exact h
    exact hacc i o (by have := (List.getElem?_eq_some_iff.1 ho).1; omega) ho
  | o :: rest, acc, hr, hle, hacc => by
    have hoi : all[acc.length]? = some o := by
      have : (all.drop acc.length)[0]? = some o := by rw [← hr]; rfl
      simpa using this
    have hnext : rest = all.drop (acc.length + 1) := by rw [← List.drop_drop, ← hr]; rfl
    simp only [befL]
    refine befL_spec hD rest _ (by simpa using hnext) (by have := (List.getElem?_eq_some_iff.1 hoi).1; simp; omega) ?_
    intro i o' hi ho' haft j hj
    simp only [List.length_append, List.length_cons, List.length_nil] at hi
    by_cases hlt : i < acc.length
    · refine hacc i o' hlt ho' haft j ?_
      simpa [List.getD, List.getElem?_append_left hlt] using hj
    · have hie : i = acc.length := by omega
      subst hie
      rw [hoi] at ho'
      cases ho'
      have hj2 : (maskOf acc o.after.toList).testBit j = true := by simpa [List.getD] using hj
      rcases maskFold acc j o.after.toList 0 hj2 with h1 | ⟨e, he, hb, h1⟩
      · simp at h1
      · rcases h1 with rfl | h1
        · exact haft e he hb
        · have hlt2 : e.on < acc.length := by
            rcases Nat.lt_or_ge e.on acc.length with h | h
            · exact h
            · rw [List.getD, List.getElem?_eq_none h] at h1; simp at h1
          have hlt3 : e.on < all.length := by omega
          exact hacc e.on all[e.on] hlt2 (List.getElem?_eq_getElem hlt3) (hD e.on _ (List.getElem?_eq_getElem hlt3) (haft e he hb)) j h1

/-- Each operation that acts, ahead of one, must come first. -/
def allPre (P : Program) (b j : Nat) : Nat → List Oper → Bool
  | _, [] => true
  | q, x :: l => (bif Nat.blt q j && acts P x then b.testBit q else true) && allPre P b j (q + 1) l
/-- The operation that may come ahead of its turn. -/
def aheadOf (P : Program) (all : List Oper) (B : List Nat) : Nat → List Oper → Nat
  | i, [] => i
  | i, o :: l => bif loose o && !allPre P (B.getD i 0) i 0 all then i else aheadOf P all B (i + 1) l

/-- What is asked of a region that draws its order. -/
def okAt (P : Program) (n : Nat) (u : Nat → List Nat) (all : List Oper) (B : List Nat) (ja i : Nat) (o : Oper) : Bool :=
  okOp P o && (match o.dst with | some d => Nat.blt d n | none => true) && o.after.toList.all (fun e => !Region.binds .any e || Nat.blt e.on i) &&
  (match o.guard with | some (q, _) => (B.getD i 0).testBit q && !Nat.beq q ja | none => true) &&
  (!Nat.beq i ja || loose o) &&
  (match (all[ja]?).bind (·.dst) with | some t => !(slots o).contains t || allPre P (B.getD i 0) ja 0 all | none => true) &&
  go (slots o) 0 all
where
  go (sl : List Nat) : Nat → List Oper → Bool
    | _, [] => true
    | q, x :: l => (match x.dst with
        | some t => !(sl.contains t) || (B.getD i 0).testBit q || (!(looks P o && !acts P o) && (Nat.beq q i || (Nat.blt i q && (B.getD q 0).testBit i)))
        | none => true) &&
      (match x.dst, o.dst with | some t, some d => Nat.beq q i || !(Nat.beq t d) | _, _ => true) &&
      (bif Nat.blt q i then
        (bif acts P o then (bif acts P x then ((B.getD i 0).testBit q || Nat.beq i ja) else bif looks P x then ((B.getD i 0).testBit q || (u i).contains q) else true)
         else bif acts P x then (bif looks P o then ((B.getD i 0).testBit q || (u i).contains q) else true) else true) else true) && go sl (q + 1) l
def okAll (P : Program) (n : Nat) (u : Nat → List Nat) (all : List Oper) (B : List Nat) (ja : Nat) : Nat → List Oper → Bool
  | _, [] => true
  | i, o :: l => okAt P n u all B ja i o && okAll P n u all B ja (i + 1) l
def okDrawn (P : Program) (n : Nat) (u : Nat → List Nat) (all : List Oper) : Bool := okAll P n u all (befL all []) (aheadOf P all (befL all []) 0 all) 0 all

theorem allPre_at {b j : Nat} : ∀ (l : List Oper) (q : Nat), allPre P b j q l = true → ∀ k x, l[k]? = some x → q + k < j → acts P x = true → b.testBit (q + k) = true
  | [], _, _, k, x, h => by simp at h
  | y :: l, q, h, k, x, hx => by
    simp only [allPre, Bool.and_eq_true] at h
    cases k with
    | succ k => have := allPre_at l (q + 1) h.2 k x (by simpa using hx); rwa [show q + 1 + k = q + (k + 1) by omega] at this
    | zero =>
      simp only [List.getElem?_cons_zero, Option.some.injEq] at hx
      subst hx
      intro hlt ha
      have hb : Nat.blt q j = true := by simpa [Nat.blt_eq] using hlt
      have h1 := h.1
      rw [hb, ha] at h1
      exact h1

theorem okAll_at {n : Nat} {u : Nat → List Nat} {all : List Oper} {B : List Nat} {ja : Nat} : ∀ (l : List Oper) (i : Nat), okAll P n u all B ja i l = true → ∀ k o, l[k]? = some o → okAt P n u all B ja (i + k) o = true
  | [], _, _, k, o, h => by simp at h
  | x :: l, i, h, k, o, ho => by
    simp only [okAll, Bool.and_eq_true] at h
    cases k with
    | zero => simp at ho; subst ho; exact h.1
    | succ k => have := okAll_at l (i + 1) h.2 k o (by simpa using ho); rwa [show i + 1 + k = i + (k + 1) by omega] at this

theorem okGo {n : Nat} {u : Nat → List Nat} {all : List Oper} {B : List Nat} {ja i : Nat} {o : Oper} {sl : List Nat} : ∀ (l : List Oper) (q : Nat), okAt.go P u B ja i o sl q l = true → ∀ k x, l[k]? = some x →
    (∀ t, x.dst = some t → t ∈ sl → (B.getD i 0).testBit (q + k) = true ∨ (¬ (looks P o = true ∧ acts P o = false) ∧ (q + k = i ∨ (i < q + k ∧ (B.getD (q + k) 0).testBit i = true)))) ∧ (∀ t, x.dst = some t → o.dst = some t → q + k = i) ∧
    (q + k < i → (acts P o = true → acts P x = true → (B.getD i 0).testBit (q + k) = true ∨ i = ja) ∧ (acts P o = true → acts P x = false → looks P x = true → (B.getD i 0).testBit (q + k) = true ∨ q + k ∈ u i) ∧
      (acts P o = false → acts P x = true → looks P o = true → (B.getD i 0).testBit (q + k) = true ∨ q + k ∈ u i))
  | [], _, _, k, x, h => by simp at h
  | y :: l, q, h, k, x, hx => by
    simp only [okAt.go, Bool.and_eq_true] at h
    cases k with
    | succ k => have := okGo (n := n) (all := all) l (q + 1) h.2 k x (by simpa using hx); rwa [show q + 1 + k = q + (k + 1) by omega] at this
    | zero =>
      simp only [List.getElem?_cons_zero, Option.some.injEq] at hx
      subst hx
      obtain ⟨⟨⟨h1, h2⟩, h3⟩, _⟩ := h
      refine ⟨fun t ht hm => ?_, fun t ht ho => ?_, fun hlt => ?_⟩
      · rw [ht] at h1
        have hm' : sl.contains t = true := by simpa using hm
        simp only [hm', Bool.not_true, Bool.false_or, Bool.or_eq_true] at h1
        rcases h1 with h1 | h1
        · exact .inl h1
        · right
          simp only [Bool.and_eq_true, Bool.not_eq_true', Bool.or_eq_true, Nat.blt_eq, Nat.add_zero] at h1 ⊢
          refine ⟨fun hc => by rw [hc.1, hc.2] at h1; simp at h1, h1.2.imp (fun h => Nat.eq_of_beq_eq_true h) id⟩
      · rw [ht, ho] at h2
        simpa using h2
      · have hb : Nat.blt q i = true := by simpa [Nat.blt_eq] using hlt
        rw [hb] at h3
        simp only [cond_true] at h3
        refine ⟨fun ha hx => ?_, fun ha hx hl => ?_, fun ha hx hl => ?_⟩
        · rw [ha, hx] at h3; simpa using h3
        · rw [ha, hx, hl] at h3; simpa using h3
        · rw [ha, hx, hl] at h3; simpa using h3

end Go.AM
