/-
  THE ABSTRACT MACHINE IS SOUND: every order of a region that draws its order.
-/
import Derived.Test.YtmbofnomfmhmdaaAm12
set_option linter.unusedVariables false
set_option linter.unusedSimpArgs false
set_option linter.unusedSectionVars false
namespace Go.AM
open Go.RowKit
variable [Laid]

variable {P : Program} {call : FuncId → List Value → St → Res} {r : Value × St}

theorem static_of {n : Nat} {u : Nat → List Nat} {all : List Oper} (h : okDrawn P n u all = true) :
    (∀ i o, all[i]? = some o → okAt P n u all (befL all []) i o = true) ∧
    (∀ i o, all[i]? = some o → ∀ j, ((befL all []).getD i 0).testBit j = true → j < i) ∧ Static P n u all ∧ (∀ (i : Nat) (o : Oper), all[i]? = some o → ∀ e ∈ o.after.toList, Region.binds .any e = true → e.on < i) := by
  have h1 : ∀ (i : Nat) (o : Oper), all[i]? = some o → okAt P n u all (befL all []) i o = true := fun i o ho => by
    have := okAll_at all 0 h i o ho
    simpa using this
  have haft : ∀ (i : Nat) (o : Oper), all[i]? = some o → ∀ e ∈ o.after.toList, Region.binds .any e = true → e.on < i := by
    intro i o ho e he hb
    have h2 := h1 i o ho
    unfold okAt at h2
    simp only [Bool.and_eq_true] at h2
    have h3 := List.all_eq_true.1 h2.1.1.2 e he
    rw [hb] at h3
    simpa [Nat.blt_eq] using h3
  have hbit : ∀ (i : Nat) (o : Oper), all[i]? = some o → ∀ j, ((befL all []).getD i 0).testBit j = true → j < i := by
    intro i o ho j hj
    exact befL_spec (D := fun k => k < i) (fun k o' ho' hk e he hb => by have := haft k o' ho' e he hb; omega) all [] (by simp) (by simp) (fun k o' hk => by simp at hk) i o ho (fun e he hb => haft i o ho e he hb) j hj
  have hgo : ∀ (i : Nat) (o : Oper) (q : Nat) (x : Oper), all[i]? = some o → all[q]? = some x → _ := fun i o q x ho hx => by
    have h2 := h1 i o ho
    unfold okAt at h2
    simp only [Bool.and_eq_true] at h2
    have := okGo (n := n) (all := all) all 0 h2.2 q x hx
    rw [Nat.zero_add] at this
    exact this
  refine ⟨h1, hbit, ⟨fun i o ho => ?_, fun i o q w ho hg => ?_, fun i o d ho hd => ?_, fun i j o o' d ho ho' hd hd' => ?_, fun i j o o' t ho ho' hd hs hact hlk => ?_⟩, haft⟩
  · have h2 := h1 i o ho; unfold okAt at h2; simp only [Bool.and_eq_true] at h2; exact h2.1.1.1.1
  · have h2 := h1 i o ho; unfold okAt at h2; simp only [Bool.and_eq_true] at h2
    have h3 := h2.1.2
    rw [hg] at h3
    exact hbit i o ho q h3
  · have h2 := h1 i o ho; unfold okAt at h2; simp only [Bool.and_eq_true] at h2
    have h3 := h2.1.1.1.2
    rw [hd] at h3
    simpa [Nat.blt_eq] using h3
  · exact ((hgo i o j o' ho ho').2.1 d hd' hd).symm
  · rcases (hgo i o j o' ho ho').1 t hd hs with h | h
    · exact hbit i o ho j h
    · exact absurd ⟨hlk, hact⟩ h.1

/-- Two places between which nothing was changed. -/
theorem same_store {u : Nat → List Nat} {all : List Oper} {f0 F : Fr} {H : Nat → Fr} {v : Nat → Value} {s : Nat → St} {g : Nat → Bool} (hat : ∀ j o, all[j]? = some o → At P u all f0 F H v s g j o) {a : Nat} :
    ∀ {b : Nat}, a ≤ b → b ≤ all.length → (∀ j o, a ≤ j → j < b → all[j]? = some o → g j = true → acts P o = true → False) → s a = s b := by
  intro b
  induction b with
  | zero => intro h _ _; rw [show a = 0 by omega]
  | succ b ih =>
    intro h hb hno
    rcases Nat.lt_or_ge b a with hlt | hge
    · rw [show a = b + 1 by omega]
    · rw [ih hge (by omega) (fun j o h1 h2 => hno j o h1 (by omega))]
      have hlt : b < all.length := by omega
      have ho : all[b]? = some all[b] := List.getElem?_eq_getElem hlt
      cases hgb : g b with
      | false => exact ((hat b _ ho).skip hgb).2.symm
      | true =>
        cases hact : acts P all[b] with
        | true => exact (hno b _ hge (by omega) ho hgb hact).elim
        | false => exact ((hat b _ ho).quiet hgb hact).symm

theorem first_of (p : Nat → Prop) : ∀ (a b : Nat), (∃ j, a ≤ j ∧ j < b ∧ p j) → ∃ j, a ≤ j ∧ j < b ∧ p j ∧ ∀ k, a ≤ k → k < j → ¬ p k := by
  intro a b
  induction b with
  | zero => rintro ⟨j, _, h, _⟩; omega
  | succ b ih =>
    rintro ⟨j, h1, h2, h3⟩
    by_cases hex : ∃ j, a ≤ j ∧ j < b ∧ p j
    · obtain ⟨j, h4, h5, h6, h7⟩ := ih hex
      exact ⟨j, h4, by omega, h6, h7⟩
    · refine ⟨j, h1, h2, h3, fun k hk1 hk2 hp => hex ⟨k, hk1, by omega, hp⟩⟩
theorem last_of (p : Nat → Prop) (a : Nat) : ∀ (b : Nat), (∃ j, a ≤ j ∧ j < b ∧ p j) → ∃ j, a ≤ j ∧ j < b ∧ p j ∧ ∀ k, j < k → k < b → ¬ p k := by
  intro b
  induction b with
  | zero => rintro ⟨j, _, h, _⟩; omega
  | succ b ih =>
    rintro ⟨j, h1, h2, h3⟩
    by_cases hb : p b ∧ a ≤ b
    · exact ⟨b, hb.2, by omega, hb.1, fun k h4 h5 => by omega⟩
    · have hjb : j ≠ b := fun e => hb ⟨e ▸ h3, e ▸ h1⟩
      obtain ⟨j', h4, h5, h6, h7⟩ := ih ⟨j, h1, by omega, h3⟩
      refine ⟨j', h4, by omega, h6, fun k h8 h9 hp => ?_⟩
      by_cases hkb : k = b
      · subst hkb; exact hb ⟨hp, by omega⟩
      · exact h7 k h8 (by omega) hp

def L (listed : Array Bool) (i : Nat) : Prop := listed.getD i false = true

/-- Midway through a region, in some order. -/
structure Mid (P : Program) (W : World) (μ0 : Mp) (n : Nat) (all : List Oper) (f0 : Fr) (v : Nat → Value) (s : Nat → St) (g : Nat → Bool) (listed : Array Bool) (a : Act) (w : World) : Prop where
  size : listed.size = all.length
  closed : ∀ (i : Nat) (o : Oper), all[i]? = some o → L listed i → ∀ e ∈ o.after.toList, Region.binds .any e = true → L listed e.on
  tmps : a.tmps.size = n
  defers : a.defers = []
  rel : ∃ μ k, μ0.le μ ∧ k ≤ all.length ∧ Rel W μ (s k) w ∧ (∀ (j : Nat) (o : Oper), all[j]? = some o → g j = true → acts P o = true → (L listed j ↔ j < k)) ∧
    (∀ (j : Nat) (o : Oper) (d : Nat), all[j]? = some o → L listed j → o.dst = some d → ∃ v', a.tmps[d]? = some v' ∧ VRel μ (v j) v') ∧
    (∀ t x, (∀ (j : Nat) (o : Oper), all[j]? = some o → o.dst = some t → ¬ L listed j) → f0.get t = some x → ∃ v', a.tmps[t]? = some v' ∧ VRel μ x v')

theorem L_set {listed : Array Bool} {i j : Nat} (hi : i < listed.size) : L (listed.setIfInBounds i true) j ↔ j = i ∨ L listed j := by
  unfold L
  by_cases h : j = i
  · subst h; simp [hi]
  · have : i ≠ j := Ne.symm h
    simp [h, Array.getElem?_setIfInBounds_ne this]
theorem not_L {listed : Array Bool} {i : Nat} (h : listed.getD i true = false) : ¬ L listed i := by
  unfold L
  intro h2
  rcases Nat.lt_or_ge i listed.size with hi | hi
  · simp [hi] at h h2; rw [h] at h2; cases h2
  · simp [Array.getElem?_eq_none hi] at h
theorem unlisted {listed : Array Bool} {i : Nat} (hi : i < listed.size) (h : ¬ L listed i) : listed.getD i true = false := by
  unfold L at h
  simp [hi] at h ⊢
  exact h

theorem filt_set : ∀ (l : List Bool) (i : Nat), l[i]? = some false → ((l.set i true).filter (!·)).length + 1 = (l.filter (!·)).length
  | [], i, h => by simp at h
  | x :: l, 0, h => by simp at h; subst h; simp
  | x :: l, i + 1, h => by
    have ih := filt_set l i (by simpa using h)
    simp only [List.set_cons_succ, List.filter_cons]
    cases x <;> simp only [Bool.not_true, Bool.not_false, Bool.false_eq_true, if_false, if_true, List.length_cons] <;> omega
def left (listed : Array Bool) : Nat := (listed.toList.filter (!·)).length
theorem left_set {listed : Array Bool} {i : Nat} (hi : i < listed.size) (h : ¬ L listed i) : left (listed.setIfInBounds i true) + 1 = left listed := by
  unfold left
  have h1 : listed.toList[i]? = some false := by
    unfold L at h
    simp [hi] at h
    simp [hi, h]
  rw [Array.toList_setIfInBounds]
  exact filt_set _ _ h1
theorem left_zero {listed : Array Bool} (h : left listed = 0) {i : Nat} (hi : i < listed.size) : L listed i := by
  unfold left at h
  have h1 := List.eq_nil_of_length_eq_zero h
  rw [List.filter_eq_nil_iff] at h1
  have h2 := h1 listed[i] (by simp)
  unfold L
  simpa [hi] using h2

theorem drawn_sound (hcall : CallOK P call) {ops : Array Oper} {n : Nat} {u : Nat → List Nat} (hok : okDrawn P n u ops.toList = true) {W : World} {Q : Exit → Act → World → Prop} {K : Fr → St → Res}
    {fr : Fr} {σ : St} (h : aOps P call ops.toList (some u) ops.toList 0 ⟨[], []⟩ fr σ K = some r) {μ : Mp} {a : Act} {w : World} (hf : FrRel μ fr a) (hr : Rel W μ σ w) (hn : a.tmps.size = n) (hd : a.defers = [])
    (hQ : ∀ fr' σ' μ' a' w', K fr' σ' = some r → μ.le μ' → FrRel μ' fr' a' → Rel W μ' σ' w' → a'.tmps.size = n → a'.defers = [] → Q .normal a' w') :
    wpAny P .any ops Q ops.size (Array.replicate ops.size false) a w := by
  obtain ⟨hst1, hbit, hst, haft⟩ := static_of hok
  obtain ⟨F, H, v, s, g, e1, _, e3, e4, hat0⟩ := trace hcall hst (f0 := fr) ops.toList 0 ⟨[], []⟩ fr (fun _ => fr) (fun _ => undef) (fun _ => σ) (fun _ => false) (by simp) (by simp) h ⟨fun _ h => (by cases h), fun _ h => (by omega), fun _ h => (by omega), fun _ h => (by omega), fun t x hx => .inr ⟨fun k ok _ _ => by omega, hx⟩⟩
  have hat : ∀ j o, ops.toList[j]? = some o → At P u ops.toList fr F H v s g j o := fun j o ho => hat0 j o (by omega) ho
  have hs0 : s 0 = σ := e3 0 (by omega)
  have key : ∀ (fuel : Nat) (listed : Array Bool) (a : Act) (w : World), left listed ≤ fuel → Mid P W μ n ops.toList fr v s g listed a w → wpAny P .any ops Q fuel listed a w := by
    have fin : ∀ (listed : Array Bool) (a : Act) (w : World), (∀ i, i < ops.toList.length → L listed i) → Mid P W μ n ops.toList fr v s g listed a w → Q .normal a w := by
      intro listed a w hall hm
      obtain ⟨μ1, k, hle, hk, hrel, hcut, hfr, hout⟩ := hm.rel
      have hsk : s k = s ops.toList.length := same_store hat hk (Nat.le_refl _) (fun j o h1 h2 ho hg ha => by have := (hcut j o ho hg ha).1 (hall j h2); omega)
      refine hQ F (s ops.toList.length) μ1 a w e1 hle (fun t x hx => ?_) (by rw [← hsk]; exact hrel) hm.tmps hm.defers
      by_cases hex : ∃ (j : Nat) (o : Oper), ops.toList[j]? = some o ∧ o.dst = some t
      · obtain ⟨j, o, ho, hd⟩ := hex
        obtain ⟨v', h1, h2⟩ := hfr j o t ho (hall j (List.getElem?_eq_some_iff.1 ho).1) hd
        have h3 := (hat j o ho).dst t hd
        rw [hx] at h3
        cases h3
        exact ⟨v', h1, h2⟩
      · exact hout t x (fun j o ho hd => absurd ⟨j, o, ho, hd⟩ hex) (by rw [e4 t (fun j o _ ho hd => hex ⟨j, o, ho, hd⟩)]; exact hx)
    intro fuel
    induction fuel with
    | zero =>
      intro listed a w hl hm
      have hall : ∀ i, i < ops.toList.length → L listed i := fun i hi => left_zero (by omega) (by rw [hm.size]; exact hi)
      refine ⟨?_, fin listed a w hall hm⟩
      apply List.eq_nil_iff_forall_not_mem.2
      intro i hi
      obtain ⟨h1, o, ho, _⟩ := mem_ready.1 hi
      exact not_L h1 (hall i (by have := (Array.getElem?_eq_some_iff.1 ho).1; simpa using this))
    | succ fuel ih =>
      intro listed a w hl hm
      refine ⟨fun hnil => fin listed a w ?_ hm, fun i hi => ?_⟩
      · intro i
        induction i using Nat.strongRecOn with
        | _ i ihi =>
          intro hi
          have ho : ops.toList[i]? = some ops.toList[i] := List.getElem?_eq_getElem hi
          by_cases hL : L listed i
          · exact hL
          · exfalso
            have : i ∈ Region.ready .any ops listed := mem_ready.2 ⟨unlisted (by rw [hm.size]; exact hi) hL, _, by rw [← Array.getElem?_toList]; exact ho, fun e he hb => by
              have h1 := haft i _ ho e (by simpa using he) hb
              exact ihi e.on h1 (by omega)⟩
            rw [hnil] at this
            cases this
      · obtain ⟨h1, o, ho2, haf⟩ := mem_ready.1 hi
        have ho : ops.toList[i]? = some o := by rw [Array.getElem?_toList]; exact ho2
        have hlt : i < ops.toList.length := (List.getElem?_eq_some_iff.1 ho).1
        have hun := not_L h1
        have hB : ∀ j, ((befL ops.toList []).getD i 0).testBit j = true → L listed j := fun j hj =>
          befL_spec (D := L listed) hm.closed ops.toList [] (by simp) (by simp) (fun k o' hk => by simp at hk) i o ho (fun e he hb => haf e (by simpa using he) hb) j hj
        have hBi : ∀ j oj, ops.toList[j]? = some oj → L listed j → ((befL ops.toList []).getD j 0).testBit i = true → False := fun j oj hoj hL hb =>
          hun (befL_spec (D := L listed) hm.closed ops.toList [] (by simp) (by simp) (fun k o' hk => by simp at hk) j oj hoj (fun e he hbb => hm.closed j oj hoj hL e he hbb) i hb)
        have hgo : ∀ (i : Nat) (o : Oper) (q : Nat) (x : Oper), ops.toList[i]? = some o → ops.toList[q]? = some x → _ := fun i o q x ho hx => by
          have h2 := hst1 i o ho
          unfold okAt at h2
          simp only [Bool.and_eq_true] at h2
          have := okGo (n := n) (all := ops.toList) ops.toList 0 h2.2 q x hx
          rw [Nat.zero_add] at this
          exact this
        obtain ⟨μ1, k, hle, hk, hrel, hcut, hfr, hout⟩ := hm.rel
        have hA := hat i o ho
        have hFon : FrOn μ1 (H i) a (slots o) := by
          intro t ht x hx
          rcases hA.own t ht x hx with ⟨k', ok, w1, w2, w3, w4⟩ | ⟨w1, w2⟩
          · have hLk : L listed k' := by
              rcases (hgo i o k' ok ho w2).1 t w3 ht with h | ⟨_, h | h⟩
              · exact hB k' h
              · omega
              · omega
            obtain ⟨v', h3, h4⟩ := hfr k' ok t w2 hLk w3
            rw [w4]
            exact ⟨v', h3, h4⟩
          · refine hout t x (fun k' ok hok hkd hLk => ?_) w2
            have hge := w1 k' ok hok hkd
            rcases (hgo i o k' ok ho hok).1 t hkd ht with h | ⟨_, h | h⟩
            · have := hbit i o ho k' h; omega
            · subst h; exact hun hLk
            · exact hBi k' ok hok hLk h.2
        have hwant : Region.wanted o (yielded ops a.tmps) = g i := wanted_of (μ := μ1) (F := F) hA.guard (fun q w' hg d hq x hx => by
          obtain ⟨oq, hoq, hqd⟩ := Option.bind_eq_some_iff.1 hq
          have hbq : ((befL ops.toList []).getD i 0).testBit q = true := by
            have h2 := hst1 i o ho
            unfold okAt at h2
            simp only [Bool.and_eq_true] at h2
            have h3 := h2.1.2
            rw [hg] at h3
            exact h3
          obtain ⟨v', h3, h4⟩ := hfr q oq d hoq (hB q hbq) hqd
          have h5 := (hat q oq hoq).dst d hqd
          rw [hx] at h5
          cases h5
          exact ⟨v', h3, h4⟩)
        have hdn : ∀ d, o.dst = some d → d < a.tmps.size := fun d hd => by rw [hm.tmps]; exact hst.dn i o d ho hd
        -- the next state
        have next : ∀ (v' : Value) (w' : World) (μ' : Mp) (k' : Nat), μ1.le μ' → VRel μ' (v i) v' → Rel W μ' (s k') w' → k' ≤ ops.toList.length →
            (∀ (j : Nat) (oj : Oper), ops.toList[j]? = some oj → g j = true → acts P oj = true → (L (listed.setIfInBounds i true) j ↔ j < k')) →
            wpAny P .any ops Q fuel (listed.setIfInBounds i true) (a.put o.dst v') w' := by
          intro v' w' μ' k' hle' hv' hr' hk' hcut'
          refine ih _ _ _ (by have := left_set (by rw [hm.size]; exact hlt) hun; omega) ⟨by simpa using hm.size, fun j oj hoj hL e he hb => ?_, by cases hd : o.dst <;> simp [Act.put, hm.tmps], by cases hd : o.dst <;> simp [Act.put, hm.defers], μ', k', hle.trans hle', hk', hr', hcut', fun j oj d hoj hL hd => ?_, fun t x ht hx => ?_⟩
          · rw [L_set (by rw [hm.size]; exact hlt)] at hL ⊢
            rcases hL with rfl | hL
            · rw [ho] at hoj; cases hoj
              exact .inr (haf e (by simpa using he) hb)
            · exact .inr (hm.closed j oj hoj hL e he hb)
          · rw [L_set (by rw [hm.size]; exact hlt)] at hL
            by_cases hji : j = i
            · subst hji
              rw [ho] at hoj; cases hoj
              exact ⟨v', by rw [hd]; simp [Act.put, hdn d hd], hv'⟩
            · have hL' : L listed j := hL.resolve_left hji
              obtain ⟨u', h3, h4⟩ := hfr j oj d hoj hL' hd
              refine ⟨u', ?_, h4.mono hle'⟩
              cases hod : o.dst with
              | none => exact h3
              | some d' =>
                have hne : d' ≠ d := fun e => hji (hst.dd j i oj o d hoj ho hd (by rw [hod, e]))
                simp only [Act.put]; rw [Array.getElem?_setIfInBounds_ne hne]; exact h3
          · have hti : o.dst ≠ some t := fun e => ht i o ho e ((L_set (by rw [hm.size]; exact hlt)).2 (.inl rfl))
            obtain ⟨u', h3, h4⟩ := hout t x (fun j oj hoj hd hL => ht j oj hoj hd ((L_set (by rw [hm.size]; exact hlt)).2 (.inr hL))) hx
            refine ⟨u', ?_, h4.mono hle'⟩
            cases hod : o.dst with
            | none => exact h3
            | some d' =>
              have hne : d' ≠ t := fun e => hti (by rw [hod, e])
              simp only [Act.put]; rw [Array.getElem?_setIfInBounds_ne hne]; exact h3
        -- where nothing is changed the place in the row of changes stays
        have cutSame : (g i = true → acts P o = true → False) → ∀ (j : Nat) (oj : Oper), ops.toList[j]? = some oj → g j = true → acts P oj = true → (L (listed.setIfInBounds i true) j ↔ j < k) := by
          intro hno j oj hoj hg ha
          rw [L_set (by rw [hm.size]; exact hlt)]
          by_cases hji : j = i
          · subst hji; rw [ho] at hoj; cases hoj; exact (hno hg ha).elim
          · simp only [hji, false_or]; exact hcut j oj hoj hg ha
        unfold wpOp
        simp only [ho2, hwant]
        cases hgi : g i with
        | false =>
          simp only [Bool.false_eq_true, if_false]
          obtain ⟨h3, _⟩ := hA.skip hgi
          exact next undef w μ1 k (Mp.le.refl _) (by rw [h3]; exact VRel.undef _) hrel hk (cutSame (fun h => by rw [hgi] at h; cases h))
        | true =>
          simp only [if_true]
          refine .inl ?_
          cases hact : acts P o with
          | true =>
            have hsi : s k = s i := by
              rcases Nat.le_total k i with hki | hki
              · refine same_store hat hki (by omega) (fun j oj h3 h4 hoj hg ha => ?_)
                have h5 := ((hgo i o j oj ho hoj).2.2 h4).1 hact ha
                have := (hcut j oj hoj hg ha).1 (hB j h5)
                omega
              · refine (same_store hat hki hk (fun j oj h3 h4 hoj hg ha => ?_)).symm
                by_cases hji : j = i
                · subst hji; exact hun ((hcut j oj hoj hg ha).2 h4)
                · have h5 := ((hgo j oj i o hoj ho).2.2 (by omega)).1 ha hact
                  exact hBi j oj hoj ((hcut j oj hoj hg ha).2 h4) h5
            rw [hsi] at hrel
            refine hA.run hgi W μ1 a w hFon hrel _ Q (fun v' w' μ' hle' hv' hr' => next v' w' μ' (i + 1) hle' hv' hr' (by omega) (fun j oj hoj hg ha => ?_))
            rw [L_set (by rw [hm.size]; exact hlt)]
            rcases Nat.lt_trichotomy j i with h3 | h3 | h3
            · have h5 := ((hgo i o j oj ho hoj).2.2 h3).1 hact ha
              exact ⟨fun _ => by omega, fun _ => .inr (hB j h5)⟩
            · exact ⟨fun _ => by omega, fun _ => .inl h3⟩
            · have h5 := ((hgo j oj i o hoj ho).2.2 h3).1 ha hact
              refine ⟨fun hL => ?_, fun h => by omega⟩
              rcases hL with hL | hL
              · omega
              · exact (hBi j oj hoj hL h5).elim
          | false =>
            have hcs := cutSame (fun _ h => by rw [hact] at h; cases h)
            have hS : Sound P o (H i) (s k) (v i) (s k) := by
              cases hlk : looks P o with
              | false => exact ((hA.reck hgi hact hlk).ran (s k)).sound
              | true =>
                rcases Nat.le_total k i with hki | hki
                · by_cases hex : ∃ j, k ≤ j ∧ j < i ∧ ∃ oj, ops.toList[j]? = some oj ∧ g j = true ∧ acts P oj = true
                  · obtain ⟨j, h3, h4, ⟨oj, hoj, hg, ha⟩, h5⟩ := first_of _ k i hex
                    have hsj : s k = s j := same_store hat h3 (by omega) (fun j' oj' h6 h7 hoj' hg' ha' => h5 j' h6 h7 ⟨oj', hoj', hg', ha'⟩)
                    have hjn : ¬ L listed j := fun hL => by have := (hcut j oj hoj hg ha).1 hL; omega
                    have hju : j ∈ u i := by
                      rcases ((hgo i o j oj ho hoj).2.2 h4).2.2 hact ha hlk with h | h
                      · exact (hjn (hB j h)).elim
                      · exact h
                    rw [hsj]
                    exact hA.look hgi hact hlk j h4 hju hg oj hoj ha
                  · have hsi : s k = s i := same_store hat hki (by omega) (fun j oj h3 h4 hoj hg ha => hex ⟨j, h3, h4, oj, hoj, hg, ha⟩)
                    have h6 := hA.run hgi
                    rw [hA.quiet hgi hact] at h6
                    rw [hsi]; exact h6
                · by_cases hex : ∃ j, i ≤ j ∧ j < k ∧ ∃ oj, ops.toList[j]? = some oj ∧ g j = true ∧ acts P oj = true
                  · obtain ⟨j, h3, h4, ⟨oj, hoj, hg, ha⟩, h5⟩ := last_of _ i k hex
                    have hsj : s (j + 1) = s k := same_store hat (by omega) hk (fun j' oj' h6 h7 hoj' hg' ha' => h5 j' (by omega) h7 ⟨oj', hoj', hg', ha'⟩)
                    have hjL : L listed j := (hcut j oj hoj hg ha).2 h4
                    have hij : i < j := by
                      rcases Nat.lt_or_eq_of_le h3 with h | h
                      · exact h
                      · subst h; rw [ho] at hoj; cases hoj; rw [hact] at ha; cases ha
                    have hiu : i ∈ u j := by
                      rcases ((hgo j oj i o hoj ho).2.2 hij).2.1 ha hact hlk with h | h
                      · exact (hBi j oj hoj hjL h).elim
                      · exact h
                    rw [← hsj]
                    exact (hat j oj hoj).act hg ha i hij hiu hgi o ho hact hlk
                  · have hsi : s i = s k := same_store hat hki hk (fun j oj h3 h4 hoj hg ha => hex ⟨j, h3, h4, oj, hoj, hg, ha⟩)
                    have h6 := hA.run hgi
                    rw [hA.quiet hgi hact] at h6
                    rw [← hsi]; exact h6
            exact hS W μ1 a w hFon hrel _ Q (fun v' w' μ' hle' hv' hr' => next v' w' μ' k hle' hv' hr' hk hcs)
  refine key _ _ a w ?_ ⟨by simp, fun i o ho hL => ?_, hn, hd, μ, 0, Mp.le.refl μ, by omega, by rw [hs0]; exact hr, fun j o ho _ _ => ⟨fun hL => ?_, fun h => by omega⟩, fun j o d ho hL => ?_, fun t x ht hx => ?_⟩
  · unfold left; simp
  · exfalso; unfold L at hL; rcases Nat.lt_or_ge i ops.size with h | h <;> simp [h] at hL
  · exfalso; unfold L at hL; rcases Nat.lt_or_ge j ops.size with h | h <;> simp [h] at hL
  · exfalso; unfold L at hL; rcases Nat.lt_or_ge j ops.size with h | h <;> simp [h] at hL
  · exact hf t x hx

end Go.AM
