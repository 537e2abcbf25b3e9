/-
  THE ABSTRACT MACHINE IS SOUND: every order of a region that draws its order.
-/
import Derived.Test.YtiiophkfecpbfaaDoorAm12
set_option linter.unusedVariables false
set_option linter.unusedSimpArgs false
set_option linter.unusedSectionVars false
namespace Go.AM
open Go.RowKit
variable [Laid]

variable {P : Program} {call : FuncId → List Value → St → Res} {r : Value × St}

/-- The operation of a region that may come ahead of its turn. -/
def jaOf (P : Program) (all : List Oper) : Nat := aheadOf P all (befL all []) 0 all
theorem static_of {n : Nat} {u : Nat → List Nat} {all : List Oper} (h : okDrawn P n u all = true) :
    (∀ i o, all[i]? = some o → okAt P n u all (befL all []) (jaOf P all) i o = true) ∧
    (∀ i o, all[i]? = some o → ∀ j, ((befL all []).getD i 0).testBit j = true → j < i) ∧ Static P n u all ∧ (∀ (i : Nat) (o : Oper), all[i]? = some o → ∀ e ∈ o.after.toList, Region.binds .any e = true → e.on < i) := by
  have h1 : ∀ (i : Nat) (o : Oper), all[i]? = some o → okAt P n u all (befL all []) (jaOf P all) i o = true := fun i o ho => by
    have := okAll_at all 0 h i o ho
    rw [Nat.zero_add] at this
    exact this
  have haft : ∀ (i : Nat) (o : Oper), all[i]? = some o → ∀ e ∈ o.after.toList, Region.binds .any e = true → e.on < i := by
    intro i o ho e he hb
    have h2 := h1 i o ho
    unfold okAt at h2
    simp only [Bool.and_eq_true] at h2
    have h3 := List.all_eq_true.1 h2.1.1.1.1.2 e he
    rw [hb] at h3
    simpa [Nat.blt_eq] using h3
  have hbit : ∀ (i : Nat) (o : Oper), all[i]? = some o → ∀ j, ((befL all []).getD i 0).testBit j = true → j < i := by
    intro i o ho j hj
    exact befL_spec (D := fun k => k < i) (fun k o' ho' hk e he hb => by have := haft k o' ho' e he hb; omega) all [] (by simp) (by simp) (fun k o' hk => by simp at hk) i o ho (fun e he hb => haft i o ho e he hb) j hj
  have hgo : ∀ (i : Nat) (o : Oper) (q : Nat) (x : Oper), all[i]? = some o → all[q]? = some x → _ := fun i o q x ho hx => by
    have h2 := h1 i o ho
    unfold okAt at h2
    simp only [Bool.and_eq_true] at h2
    have := okGo (n := n) (all := all) all 0 h2.2 q x hx
    rw [Nat.zero_add] at this
    exact this
  refine ⟨h1, hbit, ⟨fun i o ho => ?_, fun i o q w ho hg => ?_, fun i o d ho hd => ?_, fun i j o o' d ho ho' hd hd' => ?_, fun i j o o' t ho ho' hd hs hact hlk => ?_⟩, haft⟩
  · have h2 := h1 i o ho; unfold okAt at h2; simp only [Bool.and_eq_true] at h2; exact h2.1.1.1.1.1.1
  · have h2 := h1 i o ho; unfold okAt at h2; simp only [Bool.and_eq_true] at h2
    have h3 := h2.1.1.1.2
    rw [hg] at h3
    simp only [Bool.and_eq_true] at h3
    exact hbit i o ho q h3.1
  · have h2 := h1 i o ho; unfold okAt at h2; simp only [Bool.and_eq_true] at h2
    have h3 := h2.1.1.1.1.1.2
    rw [hd] at h3
    simpa [Nat.blt_eq] using h3
  · exact ((hgo i o j o' ho ho').2.1 d hd' hd).symm
  · rcases (hgo i o j o' ho ho').1 t hd hs with h | h
    · exact hbit i o ho j h
    · exact absurd ⟨hlk, hact⟩ h.1

/-- Two places between which nothing was changed. -/
theorem same_store {u : Nat → List Nat} {all : List Oper} {f0 F : Fr} {H : Nat → Fr} {v : Nat → Value} {s : Nat → St} {g : Nat → Bool} (hat : ∀ j o, all[j]? = some o → At P u all f0 F H v s g j o) {a : Nat} :
    ∀ {b : Nat}, a ≤ b → b ≤ all.length → (∀ j o, a ≤ j → j < b → all[j]? = some o → g j = true → acts P o = true → False) → s a = s b := by
  intro b
  induction b with
  | zero => intro h _ _; rw [show a = 0 by omega]
  | succ b ih =>
    intro h hb hno
    rcases Nat.lt_or_ge b a with hlt | hge
    · rw [show a = b + 1 by omega]
    · rw [ih hge (by omega) (fun j o h1 h2 => hno j o h1 (by omega))]
      have hlt : b < all.length := by omega
      have ho : all[b]? = some all[b] := List.getElem?_eq_getElem hlt
      cases hgb : g b with
      | false => exact ((hat b _ ho).skip hgb).2.symm
      | true =>
        cases hact : acts P all[b] with
        | true => exact (hno b _ hge (by omega) ho hgb hact).elim
        | false => exact ((hat b _ ho).quiet hgb hact).symm

theorem first_of (p : Nat → Prop) : ∀ (a b : Nat), (∃ j, a ≤ j ∧ j < b ∧ p j) → ∃ j, a ≤ j ∧ j < b ∧ p j ∧ ∀ k, a ≤ k → k < j → ¬ p k := by
  intro a b
  induction b with
  | zero => rintro ⟨j, _, h, _⟩; omega
  | succ b ih =>
    rintro ⟨j, h1, h2, h3⟩
    by_cases hex : ∃ j, a ≤ j ∧ j < b ∧ p j
    · obtain ⟨j, h4, h5, h6, h7⟩ := ih hex
      exact ⟨j, h4, by omega, h6, h7⟩
    · refine ⟨j, h1, h2, h3, fun k hk1 hk2 hp => hex ⟨k, hk1, by omega, hp⟩⟩
theorem last_of (p : Nat → Prop) (a : Nat) : ∀ (b : Nat), (∃ j, a ≤ j ∧ j < b ∧ p j) → ∃ j, a ≤ j ∧ j < b ∧ p j ∧ ∀ k, j < k → k < b → ¬ p k := by
  intro b
  induction b with
  | zero => rintro ⟨j, _, h, _⟩; omega
  | succ b ih =>
    rintro ⟨j, h1, h2, h3⟩
    by_cases hb : p b ∧ a ≤ b
    · exact ⟨b, hb.2, by omega, hb.1, fun k h4 h5 => by omega⟩
    · have hjb : j ≠ b := fun e => hb ⟨e ▸ h3, e ▸ h1⟩
      obtain ⟨j', h4, h5, h6, h7⟩ := ih ⟨j, h1, by omega, h3⟩
      refine ⟨j', h4, by omega, h6, fun k h8 h9 hp => ?_⟩
      by_cases hkb : k = b
      · subst hkb; exact hb ⟨hp, by omega⟩
      · exact h7 k h8 (by omega) hp

def L (listed : Array Bool) (i : Nat) : Prop := listed.getD i false = true

/-- An operation that came ahead of its turn: its block lies aside. -/
structure Ahead where
  j : Nat
  b : Nat
  cur : Array Value
  e : TypeId
  vs : List Value
  val : Nat → Value
def Base.ah (W : Base) : Option Ahead → Base
  | none => W
  | some y => W.lay y.b (.cells y.cur y.e (0, 0))
structure AheadOK (P : Program) (W : Base) (μ : Mp) (ja : Nat) (all : List Oper) (v : Nat → Value) (s : Nat → St) (g : Nat → Bool) (listed : Array Bool) (a : Act) (k : Nat) (y : Ahead) : Prop where
  ja : y.j = ja
  here : L listed y.j
  wait : ∃ q oq, k ≤ q ∧ q < y.j ∧ all[q]? = some oq ∧ g q = true ∧ acts P oq = true ∧ ¬ L listed q
  free : W.free y.b
  len : y.vs.length ≤ y.cur.size
  vs : ∀ (i : Nat) (u : Value), y.vs[i]? = some u → ∃ u', y.cur[i]? = some u' ∧ VRel μ u u'
  val : v y.j = y.val (s y.j).next
  st : s (y.j + 1) = (s y.j).new (.own y.vs y.e)
  op : ∃ oj, all[y.j]? = some oj ∧ ∀ d, oj.dst = some d → ∃ v', a.tmps[d]? = some v' ∧ ∀ (μ' : Mp) (n : Nat), μ' n = some ⟨y.b, 0, y.cur.size⟩ → VRel μ' (y.val n) v'

/-- Midway through a region, in some order. -/
structure Mid (P : Program) (W : Base) (μ0 : Mp) (n ja : Nat) (all : List Oper) (f0 : Fr) (v : Nat → Value) (s : Nat → St) (g : Nat → Bool) (listed : Array Bool) (a : Act) (w : World) : Prop where
  size : listed.size = all.length
  closed : ∀ (i : Nat) (o : Oper), all[i]? = some o → L listed i → ∀ e ∈ o.after.toList, Region.binds .any e = true → L listed e.on
  tmps : a.tmps.size = n
  defers : a.defers = []
  rel : ∃ μ k x, μ0.le μ ∧ k ≤ all.length ∧ Rel (W.ah x) μ (s k) w ∧
    (∀ (j : Nat) (o : Oper), all[j]? = some o → g j = true → acts P o = true → j < k → L listed j) ∧
    (∀ (j : Nat) (o : Oper), all[j]? = some o → g j = true → acts P o = true → k ≤ j → L listed j → ∃ y, x = some y ∧ j = y.j) ∧
    (∀ y, x = some y → AheadOK P W μ ja all v s g listed a k y) ∧
    (∀ (j : Nat) (o : Oper) (d : Nat), all[j]? = some o → L listed j → o.dst = some d → (∀ y, x = some y → j ≠ y.j) → ∃ v', a.tmps[d]? = some v' ∧ VRel μ (v j) v') ∧
    (∀ t x, (∀ (j : Nat) (o : Oper), all[j]? = some o → o.dst = some t → ¬ L listed j) → f0.get t = some x → ∃ v', a.tmps[t]? = some v' ∧ VRel μ x v')

theorem L_set {listed : Array Bool} {i j : Nat} (hi : i < listed.size) : L (listed.setIfInBounds i true) j ↔ j = i ∨ L listed j := by
  unfold L
  by_cases h : j = i
  · subst h; simp [hi]
  · have : i ≠ j := Ne.symm h
    simp [h, Array.getElem?_setIfInBounds_ne this]
theorem not_L {listed : Array Bool} {i : Nat} (h : listed.getD i true = false) : ¬ L listed i := by
  unfold L
  intro h2
  rcases Nat.lt_or_ge i listed.size with hi | hi
  · simp [hi] at h h2; rw [h] at h2; cases h2
  · simp [Array.getElem?_eq_none hi] at h
theorem unlisted {listed : Array Bool} {i : Nat} (hi : i < listed.size) (h : ¬ L listed i) : listed.getD i true = false := by
  unfold L at h
  simp [hi] at h ⊢
  exact h

theorem filt_set : ∀ (l : List Bool) (i : Nat), l[i]? = some false → ((l.set i true).filter (!·)).length + 1 = (l.filter (!·)).length
  | [], i, h => by simp at h
  | x :: l, 0, h => by simp at h; subst h; simp
  | x :: l, i + 1, h => by
    have ih := filt_set l i (by simpa using h)
    simp only [List.set_cons_succ, List.filter_cons]
    cases x <;> simp only [Bool.not_true, Bool.not_false, Bool.false_eq_true, if_false, if_true, List.length_cons] <;> omega
def left (listed : Array Bool) : Nat := (listed.toList.filter (!·)).length
theorem left_set {listed : Array Bool} {i : Nat} (hi : i < listed.size) (h : ¬ L listed i) : left (listed.setIfInBounds i true) + 1 = left listed := by
  unfold left
  have h1 : listed.toList[i]? = some false := by
    unfold L at h
    simp [hi] at h
    simp [hi, h]
  rw [Array.toList_setIfInBounds]
  exact filt_set _ _ h1
theorem left_zero {listed : Array Bool} (h : left listed = 0) {i : Nat} (hi : i < listed.size) : L listed i := by
  unfold left at h
  have h1 := List.eq_nil_of_length_eq_zero h
  rw [List.filter_eq_nil_iff] at h1
  have h2 := h1 listed[i] (by simp)
  unfold L
  simpa [hi] using h2

theorem AheadOK.step {W : Base} {μ μ' : Mp} {ja : Nat} {all : List Oper} {v : Nat → Value} {s : Nat → St} {g : Nat → Bool} {listed : Array Bool} {a : Act} {k k' i : Nat} {y : Ahead} {o : Oper} {v' : Value} {n : Nat} {u : Nat → List Nat}
    (hst : Static P n u all) (hy : AheadOK P W μ ja all v s g listed a k y) (hle : μ.le μ') (hi : i < listed.size) (ho : all[i]? = some o) (hun : ¬ L listed i)
    (hw : ∃ q oq, k' ≤ q ∧ q < y.j ∧ all[q]? = some oq ∧ g q = true ∧ acts P oq = true ∧ ¬ L listed q ∧ q ≠ i) : AheadOK P W μ' ja all v s g (listed.setIfInBounds i true) (a.put o.dst v') k' y := by
  refine ⟨hy.ja, (L_set hi).2 (.inr hy.here), ?_, hy.free, hy.len, fun j x hx => ?_, hy.val, hy.st, ?_⟩
  · obtain ⟨q, oq, h1, h2, h3, h4, h5, h6, h7⟩ := hw
    exact ⟨q, oq, h1, h2, h3, h4, h5, fun h => ((L_set hi).1 h).elim h7 h6⟩
  · obtain ⟨u', h1, h2⟩ := hy.vs j x hx
    exact ⟨u', h1, h2.mono hle⟩
  · obtain ⟨oj, h1, h2⟩ := hy.op
    refine ⟨oj, h1, fun d hd => ?_⟩
    obtain ⟨w', h3, h4⟩ := h2 d hd
    refine ⟨w', ?_, h4⟩
    cases hod : o.dst with
    | none => exact h3
    | some d' =>
      have hne : d' ≠ d := fun e => by
        have := hst.dd y.j i oj o d h1 ho hd (by rw [hod, e])
        exact hun (this ▸ hy.here)
      simp only [Act.put]; rw [Array.getElem?_setIfInBounds_ne hne]; exact h3

theorem drawn_sound (hcall : CallOK P call) {ops : Array Oper} {n : Nat} {u : Nat → List Nat} (hok : okDrawn P n u ops.toList = true) {W : Base} {Q : Exit → Act → World → Prop} {K : Fr → St → Res}
    {fr : Fr} {σ : St} (h : aOps P call ops.toList (some u) ops.toList 0 ⟨[], []⟩ fr σ K = some r) {μ : Mp} {a : Act} {w : World} (hf : FrRel μ fr a) (hr : Rel W μ σ w) (hn : a.tmps.size = n) (hd : a.defers = [])
    (hQ : ∀ fr' σ' μ' a' w', K fr' σ' = some r → μ.le μ' → FrRel μ' fr' a' → Rel W μ' σ' w' → a'.tmps.size = n → a'.defers = [] → Q .normal a' w') :
    wpAny P .any ops Q ops.size (Array.replicate ops.size false) a w := by
  obtain ⟨hst1, hbit, hst, haft⟩ := static_of hok
  obtain ⟨F, H, v, s, g, e1, _, e3, e4, hat0⟩ := trace hcall hst (f0 := fr) ops.toList 0 ⟨[], []⟩ fr (fun _ => fr) (fun _ => undef) (fun _ => σ) (fun _ => false) (by simp) (by simp) h ⟨fun _ h => (by cases h), fun _ h => (by omega), fun _ h => (by omega), fun _ h => (by omega), fun t x hx => .inr ⟨fun k ok _ _ => by omega, hx⟩⟩
  have hat : ∀ j o, ops.toList[j]? = some o → At P u ops.toList fr F H v s g j o := fun j o ho => hat0 j o (by omega) ho
  have hs0 : s 0 = σ := e3 0 (by omega)
  have key : ∀ (fuel : Nat) (listed : Array Bool) (a : Act) (w : World), left listed ≤ fuel → Mid P W μ n (jaOf P ops.toList) ops.toList fr v s g listed a w → wpAny P .any ops Q fuel listed a w := by
    have fin : ∀ (listed : Array Bool) (a : Act) (w : World), (∀ i, i < ops.toList.length → L listed i) → Mid P W μ n (jaOf P ops.toList) ops.toList fr v s g listed a w → Q .normal a w := by
      intro listed a w hall hm
      obtain ⟨μ1, k, x, hle, hk, hrel, hcut, hcut2, hah, hfr, hout⟩ := hm.rel
      have hx : x = none := by
        cases x with
        | none => rfl
        | some y =>
          obtain ⟨q, oq, h1, h2, h3, _, _, h6⟩ := (hah y rfl).wait
          exact absurd (hall q (List.getElem?_eq_some_iff.1 h3).1) h6
      subst hx
      have hsk : s k = s ops.toList.length := same_store hat hk (Nat.le_refl _) (fun j o h1 h2 ho hg ha => by obtain ⟨y, h3, _⟩ := hcut2 j o ho hg ha h1 (hall j h2); cases h3)
      refine hQ F (s ops.toList.length) μ1 a w e1 hle (fun t x hx => ?_) (by rw [← hsk]; exact hrel) hm.tmps hm.defers
      by_cases hex : ∃ (j : Nat) (o : Oper), ops.toList[j]? = some o ∧ o.dst = some t
      · obtain ⟨j, o, ho, hd⟩ := hex
        obtain ⟨v', h1, h2⟩ := hfr j o t ho (hall j (List.getElem?_eq_some_iff.1 ho).1) hd (fun y h => by cases h)
        have h3 := (hat j o ho).dst t hd
        rw [hx] at h3
        cases h3
        exact ⟨v', h1, h2⟩
      · exact hout t x (fun j o ho hd => absurd ⟨j, o, ho, hd⟩ hex) (by rw [e4 t (fun j o _ ho hd => hex ⟨j, o, ho, hd⟩)]; exact hx)
    intro fuel
    induction fuel with
    | zero =>
      intro listed a w hl hm
      have hall : ∀ i, i < ops.toList.length → L listed i := fun i hi => left_zero (by omega) (by rw [hm.size]; exact hi)
      refine ⟨?_, fin listed a w hall hm⟩
      apply List.eq_nil_iff_forall_not_mem.2
      intro i hi
      obtain ⟨h1, o, ho, _⟩ := mem_ready.1 hi
      exact not_L h1 (hall i (by have := (Array.getElem?_eq_some_iff.1 ho).1; simpa using this))
    | succ fuel ih =>
      intro listed a w hl hm
      refine ⟨fun hnil => fin listed a w ?_ hm, fun i hi => ?_⟩
      · intro i
        induction i using Nat.strongRecOn with
        | _ i ihi =>
          intro hi
          have ho : ops.toList[i]? = some ops.toList[i] := List.getElem?_eq_getElem hi
          by_cases hL : L listed i
          · exact hL
          · exfalso
            have : i ∈ Region.ready .any ops listed := mem_ready.2 ⟨unlisted (by rw [hm.size]; exact hi) hL, _, by rw [← Array.getElem?_toList]; exact ho, fun e he hb => by
              have h1 := haft i _ ho e (by simpa using he) hb
              exact ihi e.on h1 (by omega)⟩
            rw [hnil] at this
            cases this
      · obtain ⟨h1, o, ho2, haf⟩ := mem_ready.1 hi
        have ho : ops.toList[i]? = some o := by rw [Array.getElem?_toList]; exact ho2
        have hlt : i < ops.toList.length := (List.getElem?_eq_some_iff.1 ho).1
        have hun := not_L h1
        have hB : ∀ j, ((befL ops.toList []).getD i 0).testBit j = true → L listed j := fun j hj =>
          befL_spec (D := L listed) hm.closed ops.toList [] (by simp) (by simp) (fun k o' hk => by simp at hk) i o ho (fun e he hb => haf e (by simpa using he) hb) j hj
        have hBi : ∀ j oj, ops.toList[j]? = some oj → L listed j → ((befL ops.toList []).getD j 0).testBit i = true → False := fun j oj hoj hL hb =>
          hun (befL_spec (D := L listed) hm.closed ops.toList [] (by simp) (by simp) (fun k o' hk => by simp at hk) j oj hoj (fun e he hbb => hm.closed j oj hoj hL e he hbb) i hb)
        have hgo : ∀ (i : Nat) (o : Oper) (q : Nat) (x : Oper), ops.toList[i]? = some o → ops.toList[q]? = some x → _ := fun i o q x ho hx => by
          have h2 := hst1 i o ho
          unfold okAt at h2
          simp only [Bool.and_eq_true] at h2
          have := okGo (n := n) (all := ops.toList) ops.toList 0 h2.2 q x hx
          rw [Nat.zero_add] at this
          exact this
        obtain ⟨μ1, k, x, hle, hk, hrel, hcut, hcut2, hah, hfr, hout⟩ := hm.rel
        have hA := hat i o ho
        have hst2 := hst1 i o ho
        unfold okAt at hst2
        simp only [Bool.and_eq_true] at hst2
        -- what lies aside is not used
        have hpre : ∀ y, x = some y → allPre P ((befL ops.toList []).getD i 0) (jaOf P ops.toList) 0 ops.toList = true → False := fun y hy hp => by
          obtain ⟨q, oq, h1, h2, h3, _, h5, h6⟩ := (hah y hy).wait
          have := allPre_at ops.toList 0 hp q oq h3 (by rw [Nat.zero_add, ← (hah y hy).ja]; exact h2) h5
          rw [Nat.zero_add] at this
          exact h6 (hB q this)
        have hslot : ∀ y, x = some y → ∀ oj t, ops.toList[y.j]? = some oj → oj.dst = some t → t ∉ slots o := fun y hy oj t hoj hd ht => by
          have h2 := hst2.1.2
          rw [← (hah y hy).ja, hoj] at h2
          simp only [Option.bind_some, hd, Bool.or_eq_true] at h2
          rcases h2 with h2 | h2
          · have : (slots o).contains t = true := by simpa using ht
            rw [this] at h2; cases h2
          · rw [(hah y hy).ja] at h2; exact hpre y hy h2
        have hgj : ∀ y, x = some y → ∀ w', o.guard = some (y.j, w') → False := fun y hy w' hg => by
          have h3 := hst2.1.1.1.2
          rw [hg, (hah y hy).ja] at h3
          simp at h3
        have hFon : FrOn μ1 (H i) a (slots o) := by
          intro t ht x0 hx
          rcases hA.own t ht x0 hx with ⟨k', ok, w1, w2, w3, w4⟩ | ⟨w1, w2⟩
          · have hLk : L listed k' := by
              rcases (hgo i o k' ok ho w2).1 t w3 ht with h | ⟨_, h | h⟩
              · exact hB k' h
              · omega
              · omega
            obtain ⟨v', h3, h4⟩ := hfr k' ok t w2 hLk w3 (fun y hy e => hslot y hy ok t (e ▸ w2) w3 ht)
            rw [w4]
            exact ⟨v', h3, h4⟩
          · refine hout t x0 (fun k' ok hok hkd hLk => ?_) w2
            have hge := w1 k' ok hok hkd
            rcases (hgo i o k' ok ho hok).1 t hkd ht with h | ⟨_, h | h⟩
            · have := hbit i o ho k' h; omega
            · subst h; exact hun hLk
            · exact hBi k' ok hok hLk h.2
        have hwant : Region.wanted o (yielded ops a.tmps) = g i := wanted_of (μ := μ1) (F := F) hA.guard (fun q w' hg d hq x0 hx => by
          obtain ⟨oq, hoq, hqd⟩ := Option.bind_eq_some_iff.1 hq
          have hbq : ((befL ops.toList []).getD i 0).testBit q = true := by
            have h3 := hst2.1.1.1.2
            rw [hg] at h3
            simp only [Bool.and_eq_true] at h3
            exact h3.1
          obtain ⟨v', h3, h4⟩ := hfr q oq d hoq (hB q hbq) hqd (fun y hy e => hgj y hy w' (e ▸ hg))
          have h5 := (hat q oq hoq).dst d hqd
          rw [hx] at h5
          cases h5
          exact ⟨v', h3, h4⟩)
        have hdn : ∀ d, o.dst = some d → d < a.tmps.size := fun d hd => by rw [hm.tmps]; exact hst.dn i o d ho hd
        have hsz : i < listed.size := by rw [hm.size]; exact hlt
        have hput : ∀ (v' : Value) (j : Nat) (oj : Oper) (d : Nat) (u' : Value), ops.toList[j]? = some oj → oj.dst = some d → j ≠ i → a.tmps[d]? = some u' → (a.put o.dst v').tmps[d]? = some u' := fun v' j oj d u' hoj hd hji h3 => by
          cases hod : o.dst with
          | none => exact h3
          | some d' =>
            have hne : d' ≠ d := fun e => hji (hst.dd j i oj o d hoj ho hd (by rw [hod, e]))
            simp only [Act.put]; rw [Array.getElem?_setIfInBounds_ne hne]; exact h3
        -- the next state
        have next : ∀ (v' : Value) (w' : World) (μ' : Mp) (k' : Nat) (x' : Option Ahead), μ1.le μ' → ((∀ y, x' = some y → i ≠ y.j) → VRel μ' (v i) v') → Rel (W.ah x') μ' (s k') w' → k' ≤ ops.toList.length →
            (∀ (j : Nat) (oj : Oper), ops.toList[j]? = some oj → g j = true → acts P oj = true → j < k' → L (listed.setIfInBounds i true) j) →
            (∀ (j : Nat) (oj : Oper), ops.toList[j]? = some oj → g j = true → acts P oj = true → k' ≤ j → L (listed.setIfInBounds i true) j → ∃ y, x' = some y ∧ j = y.j) →
            (∀ y, x' = some y → AheadOK P W μ' (jaOf P ops.toList) ops.toList v s g (listed.setIfInBounds i true) (a.put o.dst v') k' y) →
            (∀ (j : Nat) (oj : Oper) (d : Nat), ops.toList[j]? = some oj → L listed j → oj.dst = some d → j ≠ i → (∀ y, x' = some y → j ≠ y.j) → ∃ v', a.tmps[d]? = some v' ∧ VRel μ' (v j) v') →
            wpAny P .any ops Q fuel (listed.setIfInBounds i true) (a.put o.dst v') w' := by
          intro v' w' μ' k' x' hle' hv' hr' hk' hcut' hcut2' hah' hfr'
          refine ih _ _ _ (by have := left_set hsz hun; omega) ⟨by simpa using hm.size, fun j oj hoj hL e he hb => ?_, by cases hd : o.dst <;> simp [Act.put, hm.tmps], by cases hd : o.dst <;> simp [Act.put, hm.defers], μ', k', x', hle.trans hle', hk', hr', hcut', hcut2', hah', fun j oj d hoj hL hd hny => ?_, fun t x0 ht hx => ?_⟩
          · rw [L_set hsz] at hL ⊢
            rcases hL with rfl | hL
            · rw [ho] at hoj; cases hoj
              exact .inr (haf e (by simpa using he) hb)
            · exact .inr (hm.closed j oj hoj hL e he hb)
          · rw [L_set hsz] at hL
            by_cases hji : j = i
            · subst hji
              rw [ho] at hoj; cases hoj
              exact ⟨v', by rw [hd]; simp [Act.put, hdn d hd], hv' hny⟩
            · have hL' : L listed j := hL.resolve_left hji
              obtain ⟨u', h3, h4⟩ := hfr' j oj d hoj hL' hd hji hny
              exact ⟨u', hput v' j oj d u' hoj hd hji h3, h4⟩
          · have hti : o.dst ≠ some t := fun e => ht i o ho e ((L_set hsz).2 (.inl rfl))
            obtain ⟨u', h3, h4⟩ := hout t x0 (fun j oj hoj hd hL => ht j oj hoj hd ((L_set hsz).2 (.inr hL))) hx
            refine ⟨u', ?_, h4.mono hle'⟩
            cases hod : o.dst with
            | none => exact h3
            | some d' =>
              have hne : d' ≠ t := fun e => hti (by rw [hod, e])
              simp only [Act.put]; rw [Array.getElem?_setIfInBounds_ne hne]; exact h3
        have hij : ∀ y, x = some y → i ≠ y.j := fun y hy e => hun (e ▸ (hah y hy).here)
        -- where nothing is changed all stays
        have stay : (g i = true → acts P o = true → False) → ∀ (v' : Value) (μ' : Mp) (w' : World), μ1.le μ' → VRel μ' (v i) v' → Rel (W.ah x) μ' (s k) w' → wpAny P .any ops Q fuel (listed.setIfInBounds i true) (a.put o.dst v') w' := by
          intro hno v' μ' w' hle' hv' hr'
          refine next v' w' μ' k x hle' (fun _ => hv') hr' hk (fun j oj hoj hg ha hjk => (L_set hsz).2 (.inr (hcut j oj hoj hg ha hjk))) (fun j oj hoj hg ha hkj hL => ?_) (fun y hy => ?_) (fun j oj d hoj hL hd _ hny => ?_)
          · rcases (L_set hsz).1 hL with rfl | hL
            · rw [ho] at hoj; cases hoj; exact (hno hg ha).elim
            · exact hcut2 j oj hoj hg ha hkj hL
          · obtain ⟨q, oq, h1, h2, h3, h4, h5, h6⟩ := (hah y hy).wait
            exact (hah y hy).step hst hle' hsz ho hun ⟨q, oq, h1, h2, h3, h4, h5, h6, fun e => by subst e; rw [ho] at h3; cases h3; exact hno h4 h5⟩
          · obtain ⟨u', h3, h4⟩ := hfr j oj d hoj hL hd hny
            exact ⟨u', h3, h4.mono hle'⟩
        unfold wpOp
        simp only [ho2, hwant]
        cases hgi : g i with
        | false =>
          simp only [Bool.false_eq_true, if_false]
          obtain ⟨h3, _⟩ := hA.skip hgi
          exact stay (fun h => by rw [hgi] at h; cases h) undef μ1 w (Mp.le.refl _) (by rw [h3]; exact VRel.undef _) hrel
        | true =>
          simp only [if_true]
          refine .inl ?_
          cases hact : acts P o with
          | true =>
            have hki : k ≤ i := by
              rcases Nat.lt_or_ge i k with h | h
              · exact (hun (hcut i o ho hgi hact h)).elim
              · exact h
            by_cases hex : ∃ q oq, k ≤ q ∧ q < i ∧ ops.toList[q]? = some oq ∧ g q = true ∧ acts P oq = true
            · -- it comes ahead of its turn
              obtain ⟨q, h3, h4, ⟨oq, hoq, hgq, haq⟩, h5⟩ := first_of (fun q => ∃ oq, ops.toList[q]? = some oq ∧ g q = true ∧ acts P oq = true) k i (by obtain ⟨q, oq, h1, h2, h3⟩ := hex; exact ⟨q, h1, h2, oq, h3⟩)
              have hnq : ¬ L listed q := fun hL => by
                obtain ⟨y, hy, hqy⟩ := hcut2 q oq hoq hgq haq h3 hL
                obtain ⟨q', oq', g1, g2, g3, g4, g5, _⟩ := (hah y hy).wait
                exact h5 q' g1 (by omega) ⟨oq', g3, g4, g5⟩
              have hija : i = jaOf P ops.toList := by
                rcases ((hgo i o q oq ho hoq).2.2 h4).1 hact haq with h | h
                · exact (hnq (hB q h)).elim
                · exact h
              have hx : x = none := by
                cases x with
                | none => rfl
                | some y => exact (hij y rfl (hija.trans (hah y rfl).ja.symm)).elim
              subst hx
              have hloose : loose o = true := by
                have h6 := hst2.1.1.2
                rw [hija] at h6
                simpa using h6
              obtain ⟨val, vs, e, l1, l2, l3⟩ := hA.lays hgi hloose
              obtain ⟨cur, v', m1, m2, m3, m4⟩ := l3 μ1 a w hFon
              have hrelA : Rel (W.ah (some ⟨i, w.heap.size, cur, e, vs, val⟩)) μ1 (s k) (w.alloc (.cells cur e (0, 0))) := hrel.aside _
              unfold Oper.wp
              rw [m1]
              refine next v' _ μ1 k (some ⟨i, w.heap.size, cur, e, vs, val⟩) (Mp.le.refl _) (fun h => (h _ rfl rfl).elim) hrelA hk (fun j oj hoj hg ha hjk => (L_set hsz).2 (.inr (hcut j oj hoj hg ha hjk))) (fun j oj hoj hg ha hkj hL => ?_) (fun y hy => ?_) (fun j oj d hoj hL hd _ hny => ?_)
              · rcases (L_set hsz).1 hL with rfl | hL
                · exact ⟨_, rfl, rfl⟩
                · obtain ⟨y, hy, _⟩ := hcut2 j oj hoj hg ha hkj hL; cases hy
              · cases hy
                refine ⟨hija, (L_set hsz).2 (.inl rfl), ⟨q, oq, h3, h4, hoq, hgq, haq, fun h => ?_⟩, hrel.freeNew, m2, m3, l1, l2, o, ho, fun d hd => ⟨v', by rw [hd]; simp [Act.put, hdn d hd], m4⟩⟩
                rcases (L_set hsz).1 h with h | h
                · omega
                · exact hnq h
              · exact hfr j oj d hoj hL hd (fun y hy => by cases hy)
            · have hsi : s k = s i := same_store hat hki (by omega) (fun j oj h3 h4 hoj hg ha => hex ⟨j, oj, h3, h4, hoj, hg, ha⟩)
              rw [hsi] at hrel
              refine hA.run hgi (W.ah x) μ1 a w hFon hrel _ Q (fun v' w' μ' hle' hv' hr' => ?_)
              have hc1 : ∀ (j : Nat) (oj : Oper), ops.toList[j]? = some oj → g j = true → acts P oj = true → j < i + 1 → L (listed.setIfInBounds i true) j := by
                intro j oj hoj hg ha hj
                rw [L_set hsz]
                rcases Nat.lt_or_ge j k with h | h
                · exact .inr (hcut j oj hoj hg ha h)
                · rcases Nat.lt_or_ge j i with h' | h'
                  · exact (hex ⟨j, oj, h, h', hoj, hg, ha⟩).elim
                  · exact .inl (by omega)
              cases x with
              | none =>
                refine next v' w' μ' (i + 1) none hle' (fun _ => hv') hr' (by omega) hc1 (fun j oj hoj hg ha hj hL => ?_) (fun y hy => by cases hy) (fun j oj d hoj hL hd _ hny => ?_)
                · rcases (L_set hsz).1 hL with h | hL
                  · omega
                  · exact hcut2 j oj hoj hg ha (by omega) hL
                · obtain ⟨u', h3, h4⟩ := hfr j oj d hoj hL hd hny
                  exact ⟨u', h3, h4.mono hle'⟩
              | some y =>
                have hy := hah y rfl
                have hiy : i < y.j := by
                  obtain ⟨q, oq, h1, h2, h3, h4, h5, h6⟩ := hy.wait
                  rcases Nat.lt_or_ge q i with h | h
                  · exact (hex ⟨q, oq, h1, h, h3, h4, h5⟩).elim
                  · omega
                by_cases hex2 : ∃ q oq, i + 1 ≤ q ∧ q < y.j ∧ ops.toList[q]? = some oq ∧ g q = true ∧ acts P oq = true
                · -- it waits on
                  obtain ⟨q, oq, h3, h4, hoq, hgq, haq⟩ := hex2
                  refine next v' w' μ' (i + 1) (some y) hle' (fun _ => hv') hr' (by omega) hc1 (fun j oj hoj hg ha hj hL => ?_) (fun z hz => ?_) (fun j oj d hoj hL hd _ hny => ?_)
                  · rcases (L_set hsz).1 hL with h | hL
                    · omega
                    · exact hcut2 j oj hoj hg ha (by omega) hL
                  · cases hz
                    refine hy.step hst hle' hsz ho hun ⟨q, oq, h3, h4, hoq, hgq, haq, fun hL => ?_, by omega⟩
                    obtain ⟨z, hz, h6⟩ := hcut2 q oq hoq hgq haq (by omega) hL
                    cases hz; omega
                  · obtain ⟨u', h3, h4⟩ := hfr j oj d hoj hL hd hny
                    exact ⟨u', h3, h4.mono hle'⟩
                · -- it is taken in
                  obtain ⟨oy, hoy, hslot2⟩ := hy.op
                  have hylt : y.j < ops.toList.length := (List.getElem?_eq_some_iff.1 hoy).1
                  have hs2 : s (i + 1) = s y.j := same_store hat (by omega) (by omega) (fun j oj h3 h4 hoj hg ha => hex2 ⟨j, oj, h3, h4, hoj, hg, ha⟩)
                  rw [hs2] at hr'
                  obtain ⟨hle2, hr2⟩ := Rel.adopt hr' hy.free y.vs hy.len (fun i u hu => by obtain ⟨u', h1, h2⟩ := hy.vs i u hu; exact ⟨u', h1, h2.mono hle'⟩)
                  rw [← hy.st] at hr2
                  refine next v' w' _ (y.j + 1) none (hle'.trans hle2) (fun _ => hv'.mono hle2) hr2 (by omega) (fun j oj hoj hg ha hj => ?_) (fun j oj hoj hg ha hj hL => ?_) (fun z hz => by cases hz) (fun j oj d hoj hL hd hji _ => ?_)
                  · rcases Nat.lt_or_ge j (i + 1) with h | h
                    · exact hc1 j oj hoj hg ha h
                    · rcases Nat.lt_or_ge j y.j with h' | h'
                      · exact (hex2 ⟨j, oj, h, h', hoj, hg, ha⟩).elim
                      · have : j = y.j := by omega
                        subst this
                        exact (L_set hsz).2 (.inr hy.here)
                  · rcases (L_set hsz).1 hL with h | hL
                    · omega
                    · obtain ⟨z, hz, h6⟩ := hcut2 j oj hoj hg ha (by omega) hL
                      cases hz; omega
                  · by_cases hjy : j = y.j
                    · subst hjy
                      rw [hoy] at hoj; cases hoj
                      obtain ⟨u', h3, h4⟩ := hslot2 d hd
                      refine ⟨u', h3, ?_⟩
                      rw [hy.val]
                      exact h4 _ _ (by simp [Mp.put])
                    · obtain ⟨u', h3, h4⟩ := hfr j oj d hoj hL hd (fun z hz => by cases hz; exact hjy)
                      exact ⟨u', h3, (h4.mono hle').mono hle2⟩
          | false =>
            have hS : Sound P o (H i) (s k) (v i) (s k) := by
              cases hlk : looks P o with
              | false => exact ((hA.reck hgi hact hlk).ran (s k)).sound
              | true =>
                rcases Nat.le_total k i with hki | hki
                · by_cases hex : ∃ j, k ≤ j ∧ j < i ∧ ∃ oj, ops.toList[j]? = some oj ∧ g j = true ∧ acts P oj = true
                  · obtain ⟨j, h3, h4, ⟨oj, hoj, hg, ha⟩, h5⟩ := first_of _ k i hex
                    have hsj : s k = s j := same_store hat h3 (by omega) (fun j' oj' h6 h7 hoj' hg' ha' => h5 j' h6 h7 ⟨oj', hoj', hg', ha'⟩)
                    have hjn : ¬ L listed j := fun hL => by
                      obtain ⟨y, hy, hjy⟩ := hcut2 j oj hoj hg ha h3 hL
                      obtain ⟨q', oq', g1, g2, g3, g4, g5, _⟩ := (hah y hy).wait
                      exact h5 q' g1 (by omega) ⟨oq', g3, g4, g5⟩
                    have hju : j ∈ u i := by
                      rcases ((hgo i o j oj ho hoj).2.2 h4).2.2 hact ha hlk with h | h
                      · exact (hjn (hB j h)).elim
                      · exact h
                    rw [hsj]
                    exact hA.look hgi hact hlk j h4 hju hg oj hoj ha
                  · have hsi : s k = s i := same_store hat hki (by omega) (fun j oj h3 h4 hoj hg ha => hex ⟨j, h3, h4, oj, hoj, hg, ha⟩)
                    have h6 := hA.run hgi
                    rw [hA.quiet hgi hact] at h6
                    rw [hsi]; exact h6
                · by_cases hex : ∃ j, i ≤ j ∧ j < k ∧ ∃ oj, ops.toList[j]? = some oj ∧ g j = true ∧ acts P oj = true
                  · obtain ⟨j, h3, h4, ⟨oj, hoj, hg, ha⟩, h5⟩ := last_of _ i k hex
                    have hsj : s (j + 1) = s k := same_store hat (by omega) hk (fun j' oj' h6 h7 hoj' hg' ha' => h5 j' (by omega) h7 ⟨oj', hoj', hg', ha'⟩)
                    have hjL : L listed j := hcut j oj hoj hg ha h4
                    have hij : i < j := by
                      rcases Nat.lt_or_eq_of_le h3 with h | h
                      · exact h
                      · subst h; rw [ho] at hoj; cases hoj; rw [hact] at ha; cases ha
                    have hiu : i ∈ u j := by
                      rcases ((hgo j oj i o hoj ho).2.2 hij).2.1 ha hact hlk with h | h
                      · exact (hBi j oj hoj hjL h).elim
                      · exact h
                    rw [← hsj]
                    exact (hat j oj hoj).act hg ha i hij hiu hgi o ho hact hlk
                  · have hsi : s i = s k := same_store hat hki hk (fun j oj h3 h4 hoj hg ha => hex ⟨j, h3, h4, oj, hoj, hg, ha⟩)
                    have h6 := hA.run hgi
                    rw [hA.quiet hgi hact] at h6
                    rw [← hsi]; exact h6
            exact hS (W.ah x) μ1 a w hFon hrel _ Q (fun v' w' μ' hle' hv' hr' => stay (fun _ h => by rw [hact] at h; cases h) v' μ' w' hle' hv' hr')
  refine key _ _ a w ?_ ⟨by simp, fun i o ho hL => ?_, hn, hd, μ, 0, none, Mp.le.refl μ, by omega, (by rw [hs0]; exact hr), fun j o ho _ _ h => (by omega), fun j o ho _ _ _ hL => ?_, (fun y hy => (by cases hy)), fun j o d ho hL => ?_, fun t x ht hx => ?_⟩
  · unfold left; simp
  · exfalso; unfold L at hL; rcases Nat.lt_or_ge i ops.size with h | h <;> simp [h] at hL
  · exfalso; unfold L at hL; rcases Nat.lt_or_ge j ops.size with h | h <;> simp [h] at hL
  · exfalso; unfold L at hL; rcases Nat.lt_or_ge j ops.size with h | h <;> simp [h] at hL
  · exact hf t x hx

end Go.AM
