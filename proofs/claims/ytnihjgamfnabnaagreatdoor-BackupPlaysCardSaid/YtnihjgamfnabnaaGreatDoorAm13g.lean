/-
  Texts laid together: Am13, Am14, Am15, Am16, Am17, Am18, Am19, Am20, Am21.
-/
import Derived.Test.YtnihjgamfnabnaaGreatDoorAm7g
import Derived.LoopN
import Derived.WalkKit
import Derived.ProofKit
import Derived.OpenShut
import Derived.ShutString
import Derived.ChangeOld
import Derived.Below
import Derived.SizedLaws
import Derived.Carry
set_option linter.unusedVariables false
set_option linter.unusedSimpArgs false
set_option linter.unusedSectionVars false
namespace Go.AM
open Go.RowKit
variable [Laid]
variable {P : Program} {call : FuncId → List Value → St → Res} {r : Value × St}
def jaOf (P : Program) (all : List Oper) : Nat := aheadOf P all (befL all []) 0 all
theorem static_of {n : Nat} {u : Nat → List Nat} {all : List Oper} (h : okDrawn P n u all = true) :
    (∀ i o, all[i]? = some o → okAt P n u all (befL all []) (jaOf P all) i o = true) ∧
    (∀ i o, all[i]? = some o → ∀ j, ((befL all []).getD i 0).testBit j = true → j < i) ∧ Static P n u all ∧ (∀ (i : Nat) (o : Oper), all[i]? = some o → ∀ e ∈ o.after.toList, Region.binds .any e = true → e.on < i) := by
  have h1 : ∀ (i : Nat) (o : Oper), all[i]? = some o → okAt P n u all (befL all []) (jaOf P all) i o = true := fun i o ho => by
    have := okAll_at all 0 h i o ho
    rw [Nat.zero_add] at this
    exact this
  have haft : ∀ (i : Nat) (o : Oper), all[i]? = some o → ∀ e ∈ o.after.toList, Region.binds .any e = true → e.on < i := by
    intro i o ho e he hb
    have h2 := h1 i o ho
    unfold okAt at h2
    simp only [Bool.and_eq_true] at h2
    have h3 := List.all_eq_true.1 h2.1.1.1.1.2 e he
    rw [hb] at h3
    simpa [Nat.blt_eq] using h3
  have hbit : ∀ (i : Nat) (o : Oper), all[i]? = some o → ∀ j, ((befL all []).getD i 0).testBit j = true → j < i := by
    intro i o ho j hj
    exact befL_spec (D := fun k => k < i) (fun k o' ho' hk e he hb => by have := haft k o' ho' e he hb; omega) all [] (by simp) (by simp) (fun k o' hk => by simp at hk) i o ho (fun e he hb => haft i o ho e he hb) j hj
  have hgo : ∀ (i : Nat) (o : Oper) (q : Nat) (x : Oper), all[i]? = some o → all[q]? = some x → _ := fun i o q x ho hx => by
    have h2 := h1 i o ho
    unfold okAt at h2
    simp only [Bool.and_eq_true] at h2
    have := okGo (n := n) (all := all) all 0 h2.2 q x hx
    rw [Nat.zero_add] at this
    exact this
  refine ⟨h1, hbit, ⟨fun i o ho => ?_, fun i o q w ho hg => ?_, fun i o d ho hd => ?_, fun i j o o' d ho ho' hd hd' => ?_, fun i j o o' t ho ho' hd hs hact hlk => ?_⟩, haft⟩
  · have h2 := h1 i o ho; unfold okAt at h2; simp only [Bool.and_eq_true] at h2; exact h2.1.1.1.1.1.1
  · have h2 := h1 i o ho; unfold okAt at h2; simp only [Bool.and_eq_true] at h2
    have h3 := h2.1.1.1.2
    rw [hg] at h3
    simp only [Bool.and_eq_true] at h3
    exact hbit i o ho q h3.1
  · have h2 := h1 i o ho; unfold okAt at h2; simp only [Bool.and_eq_true] at h2
    have h3 := h2.1.1.1.1.1.2
    rw [hd] at h3
    simpa [Nat.blt_eq] using h3
  · exact ((hgo i o j o' ho ho').2.1 d hd' hd).symm
  · rcases (hgo i o j o' ho ho').1 t hd hs with h | h
    · exact hbit i o ho j h
    · exact absurd ⟨hlk, hact⟩ h.1
theorem same_store {u : Nat → List Nat} {all : List Oper} {f0 F : Fr} {H : Nat → Fr} {v : Nat → Value} {s : Nat → St} {g : Nat → Bool} (hat : ∀ j o, all[j]? = some o → At P u all f0 F H v s g j o) {a : Nat} :
    ∀ {b : Nat}, a ≤ b → b ≤ all.length → (∀ j o, a ≤ j → j < b → all[j]? = some o → g j = true → acts P o = true → False) → s a = s b := by
  intro b
  induction b with
  | zero => intro h _ _; rw [show a = 0 by omega]
  | succ b ih =>
    intro h hb hno
    rcases Nat.lt_or_ge b a with hlt | hge
    · rw [show a = b + 1 by omega]
    · rw [ih hge (by omega) (fun j o h1 h2 => hno j o h1 (by omega))]
      have hlt : b < all.length := by omega
      have ho : all[b]? = some all[b] := List.getElem?_eq_getElem hlt
      cases hgb : g b with
      | false => exact ((hat b _ ho).skip hgb).2.symm
      | true =>
        cases hact : acts P all[b] with
        | true => exact (hno b _ hge (by omega) ho hgb hact).elim
        | false => exact ((hat b _ ho).quiet hgb hact).symm
theorem first_of (p : Nat → Prop) : ∀ (a b : Nat), (∃ j, a ≤ j ∧ j < b ∧ p j) → ∃ j, a ≤ j ∧ j < b ∧ p j ∧ ∀ k, a ≤ k → k < j → ¬ p k := by
  intro a b
  induction b with
  | zero => rintro ⟨j, _, h, _⟩; omega
  | succ b ih =>
    rintro ⟨j, h1, h2, h3⟩
    by_cases hex : ∃ j, a ≤ j ∧ j < b ∧ p j
    · obtain ⟨j, h4, h5, h6, h7⟩ := ih hex
      exact ⟨j, h4, by omega, h6, h7⟩
    · refine ⟨j, h1, h2, h3, fun k hk1 hk2 hp => hex ⟨k, hk1, by omega, hp⟩⟩
theorem last_of (p : Nat → Prop) (a : Nat) : ∀ (b : Nat), (∃ j, a ≤ j ∧ j < b ∧ p j) → ∃ j, a ≤ j ∧ j < b ∧ p j ∧ ∀ k, j < k → k < b → ¬ p k := by
  intro b
  induction b with
  | zero => rintro ⟨j, _, h, _⟩; omega
  | succ b ih =>
    rintro ⟨j, h1, h2, h3⟩
    by_cases hb : p b ∧ a ≤ b
    · exact ⟨b, hb.2, by omega, hb.1, fun k h4 h5 => by omega⟩
    · have hjb : j ≠ b := fun e => hb ⟨e ▸ h3, e ▸ h1⟩
      obtain ⟨j', h4, h5, h6, h7⟩ := ih ⟨j, h1, by omega, h3⟩
      refine ⟨j', h4, by omega, h6, fun k h8 h9 hp => ?_⟩
      by_cases hkb : k = b
      · subst hkb; exact hb ⟨hp, by omega⟩
      · exact h7 k h8 (by omega) hp
def L (listed : Array Bool) (i : Nat) : Prop := listed.getD i false = true
structure Ahead where
  j : Nat
  b : Nat
  cur : Array Value
  e : TypeId
  vs : List Value
  val : Nat → Value
def Base.ah (W : Base) : Option Ahead → Base
  | none => W
  | some y => W.lay y.b (.cells y.cur y.e (0, 0))
structure AheadOK (P : Program) (W : Base) (μ : Mp) (ja : Nat) (all : List Oper) (v : Nat → Value) (s : Nat → St) (g : Nat → Bool) (listed : Array Bool) (a : Act) (k : Nat) (y : Ahead) : Prop where
  ja : y.j = ja
  here : L listed y.j
  wait : ∃ q oq, k ≤ q ∧ q < y.j ∧ all[q]? = some oq ∧ g q = true ∧ acts P oq = true ∧ ¬ L listed q
  free : W.free y.b
  len : y.vs.length ≤ y.cur.size
  vs : ∀ (i : Nat) (u : Value), y.vs[i]? = some u → ∃ u', y.cur[i]? = some u' ∧ VRel μ u u'
  val : v y.j = y.val (s y.j).next
  st : s (y.j + 1) = (s y.j).new (.own y.vs y.e)
  op : ∃ oj, all[y.j]? = some oj ∧ ∀ d, oj.dst = some d → ∃ v', a.tmps[d]? = some v' ∧ ∀ (μ' : Mp) (n : Nat), μ' n = some ⟨y.b, 0, y.cur.size⟩ → VRel μ' (y.val n) v'
structure Mid (P : Program) (W : Base) (μ0 : Mp) (n ja : Nat) (all : List Oper) (f0 : Fr) (v : Nat → Value) (s : Nat → St) (g : Nat → Bool) (listed : Array Bool) (a : Act) (w : World) : Prop where
  size : listed.size = all.length
  closed : ∀ (i : Nat) (o : Oper), all[i]? = some o → L listed i → ∀ e ∈ o.after.toList, Region.binds .any e = true → L listed e.on
  tmps : a.tmps.size = n
  defers : a.defers = []
  rel : ∃ μ k x, μ0.le μ ∧ k ≤ all.length ∧ Rel (W.ah x) μ (s k) w ∧
    (∀ (j : Nat) (o : Oper), all[j]? = some o → g j = true → acts P o = true → j < k → L listed j) ∧
    (∀ (j : Nat) (o : Oper), all[j]? = some o → g j = true → acts P o = true → k ≤ j → L listed j → ∃ y, x = some y ∧ j = y.j) ∧
    (∀ y, x = some y → AheadOK P W μ ja all v s g listed a k y) ∧
    (∀ (j : Nat) (o : Oper) (d : Nat), all[j]? = some o → L listed j → o.dst = some d → (∀ y, x = some y → j ≠ y.j) → ∃ v', a.tmps[d]? = some v' ∧ VRel μ (v j) v') ∧
    (∀ t x, (∀ (j : Nat) (o : Oper), all[j]? = some o → o.dst = some t → ¬ L listed j) → f0.get t = some x → ∃ v', a.tmps[t]? = some v' ∧ VRel μ x v')
theorem L_set {listed : Array Bool} {i j : Nat} (hi : i < listed.size) : L (listed.setIfInBounds i true) j ↔ j = i ∨ L listed j := by
  unfold L
  by_cases h : j = i
  · subst h; simp [hi]
  · have : i ≠ j := Ne.symm h
    simp [h, Array.getElem?_setIfInBounds_ne this]
theorem not_L {listed : Array Bool} {i : Nat} (h : listed.getD i true = false) : ¬ L listed i := by
  unfold L
  intro h2
  rcases Nat.lt_or_ge i listed.size with hi | hi
  · simp [hi] at h h2; rw [h] at h2; cases h2
  · simp [Array.getElem?_eq_none hi] at h
theorem unlisted {listed : Array Bool} {i : Nat} (hi : i < listed.size) (h : ¬ L listed i) : listed.getD i true = false := by
  unfold L at h
  simp [hi] at h ⊢
  exact h
theorem filt_set : ∀ (l : List Bool) (i : Nat), l[i]? = some false → ((l.set i true).filter (!·)).length + 1 = (l.filter (!·)).length
  | [], i, h => by simp at h
  | x :: l, 0, h => by simp at h; subst h; simp
  | x :: l, i + 1, h => by
    have ih := filt_set l i (by simpa using h)
    simp only [List.set_cons_succ, List.filter_cons]
    cases x <;> simp only [Bool.not_true, Bool.not_false, Bool.false_eq_true, if_false, if_true, List.length_cons] <;> omega
def left (listed : Array Bool) : Nat := (listed.toList.filter (!·)).length
theorem left_set {listed : Array Bool} {i : Nat} (hi : i < listed.size) (h : ¬ L listed i) : left (listed.setIfInBounds i true) + 1 = left listed := by
  unfold left
  have h1 : listed.toList[i]? = some false := by
    unfold L at h
    simp [hi] at h
    simp [hi, h]
  rw [Array.toList_setIfInBounds]
  exact filt_set _ _ h1
theorem left_zero {listed : Array Bool} (h : left listed = 0) {i : Nat} (hi : i < listed.size) : L listed i := by
  unfold left at h
  have h1 := List.eq_nil_of_length_eq_zero h
  rw [List.filter_eq_nil_iff] at h1
  have h2 := h1 listed[i] (by simp)
  unfold L
  simpa [hi] using h2
theorem AheadOK.step {W : Base} {μ μ' : Mp} {ja : Nat} {all : List Oper} {v : Nat → Value} {s : Nat → St} {g : Nat → Bool} {listed : Array Bool} {a : Act} {k k' i : Nat} {y : Ahead} {o : Oper} {v' : Value} {n : Nat} {u : Nat → List Nat}
    (hst : Static P n u all) (hy : AheadOK P W μ ja all v s g listed a k y) (hle : μ.le μ') (hi : i < listed.size) (ho : all[i]? = some o) (hun : ¬ L listed i)
    (hw : ∃ q oq, k' ≤ q ∧ q < y.j ∧ all[q]? = some oq ∧ g q = true ∧ acts P oq = true ∧ ¬ L listed q ∧ q ≠ i) : AheadOK P W μ' ja all v s g (listed.setIfInBounds i true) (a.put o.dst v') k' y := by
  refine ⟨hy.ja, (L_set hi).2 (.inr hy.here), ?_, hy.free, hy.len, fun j x hx => ?_, hy.val, hy.st, ?_⟩
  · obtain ⟨q, oq, h1, h2, h3, h4, h5, h6, h7⟩ := hw
    exact ⟨q, oq, h1, h2, h3, h4, h5, fun h => ((L_set hi).1 h).elim h7 h6⟩
  · obtain ⟨u', h1, h2⟩ := hy.vs j x hx
    exact ⟨u', h1, h2.mono hle⟩
  · obtain ⟨oj, h1, h2⟩ := hy.op
    refine ⟨oj, h1, fun d hd => ?_⟩
    obtain ⟨w', h3, h4⟩ := h2 d hd
    refine ⟨w', ?_, h4⟩
    cases hod : o.dst with
    | none => exact h3
    | some d' =>
      have hne : d' ≠ d := fun e => by
        have := hst.dd y.j i oj o d h1 ho hd (by rw [hod, e])
        exact hun (this ▸ hy.here)
      simp only [Act.put]; rw [Array.getElem?_setIfInBounds_ne hne]; exact h3
theorem drawn_sound (hcall : CallOK P call) {ops : Array Oper} {n : Nat} {u : Nat → List Nat} (hok : okDrawn P n u ops.toList = true) {W : Base} {Q : Exit → Act → World → Prop} {K : Fr → St → Res}
    {fr : Fr} {σ : St} (h : aOps P call ops.toList (some u) ops.toList 0 ⟨[], []⟩ fr σ K = some r) {μ : Mp} {a : Act} {w : World} (hf : FrRel μ fr a) (hr : Rel W μ σ w) (hn : a.tmps.size = n) (hd : a.defers = [])
    (hQ : ∀ fr' σ' μ' a' w', K fr' σ' = some r → μ.le μ' → FrRel μ' fr' a' → Rel W μ' σ' w' → a'.tmps.size = n → a'.defers = [] → Q .normal a' w') :
    wpAny P .any ops Q ops.size (Array.replicate ops.size false) a w := by
  obtain ⟨hst1, hbit, hst, haft⟩ := static_of hok
  obtain ⟨F, H, v, s, g, e1, _, e3, e4, hat0⟩ := trace hcall hst (f0 := fr) ops.toList 0 ⟨[], []⟩ fr (fun _ => fr) (fun _ => undef) (fun _ => σ) (fun _ => false) (by simp) (by simp) h ⟨fun _ h => (by cases h), fun _ h => (by omega), fun _ h => (by omega), fun _ h => (by omega), fun t x hx => .inr ⟨fun k ok _ _ => by omega, hx⟩⟩
  have hat : ∀ j o, ops.toList[j]? = some o → At P u ops.toList fr F H v s g j o := fun j o ho => hat0 j o (by omega) ho
  have hs0 : s 0 = σ := e3 0 (by omega)
  have key : ∀ (fuel : Nat) (listed : Array Bool) (a : Act) (w : World), left listed ≤ fuel → Mid P W μ n (jaOf P ops.toList) ops.toList fr v s g listed a w → wpAny P .any ops Q fuel listed a w := by
    have fin : ∀ (listed : Array Bool) (a : Act) (w : World), (∀ i, i < ops.toList.length → L listed i) → Mid P W μ n (jaOf P ops.toList) ops.toList fr v s g listed a w → Q .normal a w := by
      intro listed a w hall hm
      obtain ⟨μ1, k, x, hle, hk, hrel, hcut, hcut2, hah, hfr, hout⟩ := hm.rel
      have hx : x = none := by
        cases x with
        | none => rfl
        | some y =>
          obtain ⟨q, oq, h1, h2, h3, _, _, h6⟩ := (hah y rfl).wait
          exact absurd (hall q (List.getElem?_eq_some_iff.1 h3).1) h6
      subst hx
      have hsk : s k = s ops.toList.length := same_store hat hk (Nat.le_refl _) (fun j o h1 h2 ho hg ha => by obtain ⟨y, h3, _⟩ := hcut2 j o ho hg ha h1 (hall j h2); cases h3)
      refine hQ F (s ops.toList.length) μ1 a w e1 hle (fun t x hx => ?_) (by rw [← hsk]; exact hrel) hm.tmps hm.defers
      by_cases hex : ∃ (j : Nat) (o : Oper), ops.toList[j]? = some o ∧ o.dst = some t
      · obtain ⟨j, o, ho, hd⟩ := hex
        obtain ⟨v', h1, h2⟩ := hfr j o t ho (hall j (List.getElem?_eq_some_iff.1 ho).1) hd (fun y h => by cases h)
        have h3 := (hat j o ho).dst t hd
        rw [hx] at h3
        cases h3
        exact ⟨v', h1, h2⟩
      · exact hout t x (fun j o ho hd => absurd ⟨j, o, ho, hd⟩ hex) (by rw [e4 t (fun j o _ ho hd => hex ⟨j, o, ho, hd⟩)]; exact hx)
    intro fuel
    induction fuel with
    | zero =>
      intro listed a w hl hm
      have hall : ∀ i, i < ops.toList.length → L listed i := fun i hi => left_zero (by omega) (by rw [hm.size]; exact hi)
      refine ⟨?_, fin listed a w hall hm⟩
      apply List.eq_nil_iff_forall_not_mem.2
      intro i hi
      obtain ⟨h1, o, ho, _⟩ := mem_ready.1 hi
      exact not_L h1 (hall i (by have := (Array.getElem?_eq_some_iff.1 ho).1; simpa using this))
    | succ fuel ih =>
      intro listed a w hl hm
      refine ⟨fun hnil => fin listed a w ?_ hm, fun i hi => ?_⟩
      · intro i
        induction i using Nat.strongRecOn with
        | _ i ihi =>
          intro hi
          have ho : ops.toList[i]? = some ops.toList[i] := List.getElem?_eq_getElem hi
          by_cases hL : L listed i
          · exact hL
          · exfalso
            have : i ∈ Region.ready .any ops listed := mem_ready.2 ⟨unlisted (by rw [hm.size]; exact hi) hL, _, by rw [← Array.getElem?_toList]; exact ho, fun e he hb => by
              have h1 := haft i _ ho e (by simpa using he) hb
              exact ihi e.on h1 (by omega)⟩
            rw [hnil] at this
            cases this
      · obtain ⟨h1, o, ho2, haf⟩ := mem_ready.1 hi
        have ho : ops.toList[i]? = some o := by rw [Array.getElem?_toList]; exact ho2
        have hlt : i < ops.toList.length := (List.getElem?_eq_some_iff.1 ho).1
        have hun := not_L h1
        have hB : ∀ j, ((befL ops.toList []).getD i 0).testBit j = true → L listed j := fun j hj =>
          befL_spec (D := L listed) hm.closed ops.toList [] (by simp) (by simp) (fun k o' hk => by simp at hk) i o ho (fun e he hb => haf e (by simpa using he) hb) j hj
        have hBi : ∀ j oj, ops.toList[j]? = some oj → L listed j → ((befL ops.toList []).getD j 0).testBit i = true → False := fun j oj hoj hL hb =>
          hun (befL_spec (D := L listed) hm.closed ops.toList [] (by simp) (by simp) (fun k o' hk => by simp at hk) j oj hoj (fun e he hbb => hm.closed j oj hoj hL e he hbb) i hb)
        have hgo : ∀ (i : Nat) (o : Oper) (q : Nat) (x : Oper), ops.toList[i]? = some o → ops.toList[q]? = some x → _ := fun i o q x ho hx => by
          have h2 := hst1 i o ho
          unfold okAt at h2
          simp only [Bool.and_eq_true] at h2
          have := okGo (n := n) (all := ops.toList) ops.toList 0 h2.2 q x hx
          rw [Nat.zero_add] at this
          exact this
        obtain ⟨μ1, k, x, hle, hk, hrel, hcut, hcut2, hah, hfr, hout⟩ := hm.rel
        have hA := hat i o ho
        have hst2 := hst1 i o ho
        unfold okAt at hst2
        simp only [Bool.and_eq_true] at hst2
        -- what lies aside is not used
        have hpre : ∀ y, x = some y → allPre P ((befL ops.toList []).getD i 0) (jaOf P ops.toList) 0 ops.toList = true → False := fun y hy hp => by
          obtain ⟨q, oq, h1, h2, h3, _, h5, h6⟩ := (hah y hy).wait
          have := allPre_at ops.toList 0 hp q oq h3 (by rw [Nat.zero_add, ← (hah y hy).ja]; exact h2) h5
          rw [Nat.zero_add] at this
          exact h6 (hB q this)
        have hslot : ∀ y, x = some y → ∀ oj t, ops.toList[y.j]? = some oj → oj.dst = some t → t ∉ slots o := fun y hy oj t hoj hd ht => by
          have h2 := hst2.1.2
          rw [← (hah y hy).ja, hoj] at h2
          simp only [Option.bind_some, hd, Bool.or_eq_true] at h2
          rcases h2 with h2 | h2
          · have : (slots o).contains t = true := by simpa using ht
            rw [this] at h2; cases h2
          · rw [(hah y hy).ja] at h2; exact hpre y hy h2
        have hgj : ∀ y, x = some y → ∀ w', o.guard = some (y.j, w') → False := fun y hy w' hg => by
          have h3 := hst2.1.1.1.2
          rw [hg, (hah y hy).ja] at h3
          simp at h3
        have hFon : FrOn μ1 (H i) a (slots o) := by
          intro t ht x0 hx
          rcases hA.own t ht x0 hx with ⟨k', ok, w1, w2, w3, w4⟩ | ⟨w1, w2⟩
          · have hLk : L listed k' := by
              rcases (hgo i o k' ok ho w2).1 t w3 ht with h | ⟨_, h | h⟩
              · exact hB k' h
              · omega
              · omega
            obtain ⟨v', h3, h4⟩ := hfr k' ok t w2 hLk w3 (fun y hy e => hslot y hy ok t (e ▸ w2) w3 ht)
            rw [w4]
            exact ⟨v', h3, h4⟩
          · refine hout t x0 (fun k' ok hok hkd hLk => ?_) w2
            have hge := w1 k' ok hok hkd
            rcases (hgo i o k' ok ho hok).1 t hkd ht with h | ⟨_, h | h⟩
            · have := hbit i o ho k' h; omega
            · subst h; exact hun hLk
            · exact hBi k' ok hok hLk h.2
        have hwant : Region.wanted o (yielded ops a.tmps) = g i := wanted_of (μ := μ1) (F := F) hA.guard (fun q w' hg d hq x0 hx => by
          obtain ⟨oq, hoq, hqd⟩ := Option.bind_eq_some_iff.1 hq
          have hbq : ((befL ops.toList []).getD i 0).testBit q = true := by
            have h3 := hst2.1.1.1.2
            rw [hg] at h3
            simp only [Bool.and_eq_true] at h3
            exact h3.1
          obtain ⟨v', h3, h4⟩ := hfr q oq d hoq (hB q hbq) hqd (fun y hy e => hgj y hy w' (e ▸ hg))
          have h5 := (hat q oq hoq).dst d hqd
          rw [hx] at h5
          cases h5
          exact ⟨v', h3, h4⟩)
        have hdn : ∀ d, o.dst = some d → d < a.tmps.size := fun d hd => by rw [hm.tmps]; exact hst.dn i o d ho hd
        have hsz : i < listed.size := by rw [hm.size]; exact hlt
        have hput : ∀ (v' : Value) (j : Nat) (oj : Oper) (d : Nat) (u' : Value), ops.toList[j]? = some oj → oj.dst = some d → j ≠ i → a.tmps[d]? = some u' → (a.put o.dst v').tmps[d]? = some u' := fun v' j oj d u' hoj hd hji h3 => by
          cases hod : o.dst with
          | none => exact h3
          | some d' =>
            have hne : d' ≠ d := fun e => hji (hst.dd j i oj o d hoj ho hd (by rw [hod, e]))
            simp only [Act.put]; rw [Array.getElem?_setIfInBounds_ne hne]; exact h3
        -- the next state
        have next : ∀ (v' : Value) (w' : World) (μ' : Mp) (k' : Nat) (x' : Option Ahead), μ1.le μ' → ((∀ y, x' = some y → i ≠ y.j) → VRel μ' (v i) v') → Rel (W.ah x') μ' (s k') w' → k' ≤ ops.toList.length →
            (∀ (j : Nat) (oj : Oper), ops.toList[j]? = some oj → g j = true → acts P oj = true → j < k' → L (listed.setIfInBounds i true) j) →
            (∀ (j : Nat) (oj : Oper), ops.toList[j]? = some oj → g j = true → acts P oj = true → k' ≤ j → L (listed.setIfInBounds i true) j → ∃ y, x' = some y ∧ j = y.j) →
            (∀ y, x' = some y → AheadOK P W μ' (jaOf P ops.toList) ops.toList v s g (listed.setIfInBounds i true) (a.put o.dst v') k' y) →
            (∀ (j : Nat) (oj : Oper) (d : Nat), ops.toList[j]? = some oj → L listed j → oj.dst = some d → j ≠ i → (∀ y, x' = some y → j ≠ y.j) → ∃ v', a.tmps[d]? = some v' ∧ VRel μ' (v j) v') →
            wpAny P .any ops Q fuel (listed.setIfInBounds i true) (a.put o.dst v') w' := by
          intro v' w' μ' k' x' hle' hv' hr' hk' hcut' hcut2' hah' hfr'
          refine ih _ _ _ (by have := left_set hsz hun; omega) ⟨by simpa using hm.size, fun j oj hoj hL e he hb => ?_, by cases hd : o.dst <;> simp [Act.put, hm.tmps], by cases hd : o.dst <;> simp [Act.put, hm.defers], μ', k', x', hle.trans hle', hk', hr', hcut', hcut2', hah', fun j oj d hoj hL hd hny => ?_, fun t x0 ht hx => ?_⟩
          · rw [L_set hsz] at hL ⊢
            rcases hL with rfl | hL
            · rw [ho] at hoj; cases hoj
              exact .inr (haf e (by simpa using he) hb)
            · exact .inr (hm.closed j oj hoj hL e he hb)
          · rw [L_set hsz] at hL
            by_cases hji : j = i
            · subst hji
              rw [ho] at hoj; cases hoj
              exact ⟨v', by rw [hd]; simp [Act.put, hdn d hd], hv' hny⟩
            · have hL' : L listed j := hL.resolve_left hji
              obtain ⟨u', h3, h4⟩ := hfr' j oj d hoj hL' hd hji hny
              exact ⟨u', hput v' j oj d u' hoj hd hji h3, h4⟩
          · have hti : o.dst ≠ some t := fun e => ht i o ho e ((L_set hsz).2 (.inl rfl))
            obtain ⟨u', h3, h4⟩ := hout t x0 (fun j oj hoj hd hL => ht j oj hoj hd ((L_set hsz).2 (.inr hL))) hx
            refine ⟨u', ?_, h4.mono hle'⟩
            cases hod : o.dst with
            | none => exact h3
            | some d' =>
              have hne : d' ≠ t := fun e => hti (by rw [hod, e])
              simp only [Act.put]; rw [Array.getElem?_setIfInBounds_ne hne]; exact h3
        have hij : ∀ y, x = some y → i ≠ y.j := fun y hy e => hun (e ▸ (hah y hy).here)
        -- where nothing is changed all stays
        have stay : (g i = true → acts P o = true → False) → ∀ (v' : Value) (μ' : Mp) (w' : World), μ1.le μ' → VRel μ' (v i) v' → Rel (W.ah x) μ' (s k) w' → wpAny P .any ops Q fuel (listed.setIfInBounds i true) (a.put o.dst v') w' := by
          intro hno v' μ' w' hle' hv' hr'
          refine next v' w' μ' k x hle' (fun _ => hv') hr' hk (fun j oj hoj hg ha hjk => (L_set hsz).2 (.inr (hcut j oj hoj hg ha hjk))) (fun j oj hoj hg ha hkj hL => ?_) (fun y hy => ?_) (fun j oj d hoj hL hd _ hny => ?_)
          · rcases (L_set hsz).1 hL with rfl | hL
            · rw [ho] at hoj; cases hoj; exact (hno hg ha).elim
            · exact hcut2 j oj hoj hg ha hkj hL
          · obtain ⟨q, oq, h1, h2, h3, h4, h5, h6⟩ := (hah y hy).wait
            exact (hah y hy).step hst hle' hsz ho hun ⟨q, oq, h1, h2, h3, h4, h5, h6, fun e => by subst e; rw [ho] at h3; cases h3; exact hno h4 h5⟩
          · obtain ⟨u', h3, h4⟩ := hfr j oj d hoj hL hd hny
            exact ⟨u', h3, h4.mono hle'⟩
        unfold wpOp
        simp only [ho2, hwant]
        cases hgi : g i with
        | false =>
          simp only [Bool.false_eq_true, if_false]
          obtain ⟨h3, _⟩ := hA.skip hgi
          exact stay (fun h => by rw [hgi] at h; cases h) undef μ1 w (Mp.le.refl _) (by rw [h3]; exact VRel.undef _) hrel
        | true =>
          simp only [if_true]
          refine .inl ?_
          cases hact : acts P o with
          | true =>
            have hki : k ≤ i := by
              rcases Nat.lt_or_ge i k with h | h
              · exact (hun (hcut i o ho hgi hact h)).elim
              · exact h
            by_cases hex : ∃ q oq, k ≤ q ∧ q < i ∧ ops.toList[q]? = some oq ∧ g q = true ∧ acts P oq = true
            · -- it comes ahead of its turn
              obtain ⟨q, h3, h4, ⟨oq, hoq, hgq, haq⟩, h5⟩ := first_of (fun q => ∃ oq, ops.toList[q]? = some oq ∧ g q = true ∧ acts P oq = true) k i (by obtain ⟨q, oq, h1, h2, h3⟩ := hex; exact ⟨q, h1, h2, oq, h3⟩)
              have hnq : ¬ L listed q := fun hL => by
                obtain ⟨y, hy, hqy⟩ := hcut2 q oq hoq hgq haq h3 hL
                obtain ⟨q', oq', g1, g2, g3, g4, g5, _⟩ := (hah y hy).wait
                exact h5 q' g1 (by omega) ⟨oq', g3, g4, g5⟩
              have hija : i = jaOf P ops.toList := by
                rcases ((hgo i o q oq ho hoq).2.2 h4).1 hact haq with h | h
                · exact (hnq (hB q h)).elim
                · exact h
              have hx : x = none := by
                cases x with
                | none => rfl
                | some y => exact (hij y rfl (hija.trans (hah y rfl).ja.symm)).elim
              subst hx
              have hloose : loose o = true := by
                have h6 := hst2.1.1.2
                rw [hija] at h6
                simpa using h6
              obtain ⟨val, vs, e, l1, l2, l3⟩ := hA.lays hgi hloose
              obtain ⟨cur, v', m1, m2, m3, m4⟩ := l3 μ1 a w hFon
              have hrelA : Rel (W.ah (some ⟨i, w.heap.size, cur, e, vs, val⟩)) μ1 (s k) (w.alloc (.cells cur e (0, 0))) := hrel.aside _
              unfold Oper.wp
              rw [m1]
              refine next v' _ μ1 k (some ⟨i, w.heap.size, cur, e, vs, val⟩) (Mp.le.refl _) (fun h => (h _ rfl rfl).elim) hrelA hk (fun j oj hoj hg ha hjk => (L_set hsz).2 (.inr (hcut j oj hoj hg ha hjk))) (fun j oj hoj hg ha hkj hL => ?_) (fun y hy => ?_) (fun j oj d hoj hL hd _ hny => ?_)
              · rcases (L_set hsz).1 hL with rfl | hL
                · exact ⟨_, rfl, rfl⟩
                · obtain ⟨y, hy, _⟩ := hcut2 j oj hoj hg ha hkj hL; cases hy
              · cases hy
                refine ⟨hija, (L_set hsz).2 (.inl rfl), ⟨q, oq, h3, h4, hoq, hgq, haq, fun h => ?_⟩, hrel.freeNew, m2, m3, l1, l2, o, ho, fun d hd => ⟨v', by rw [hd]; simp [Act.put, hdn d hd], m4⟩⟩
                rcases (L_set hsz).1 h with h | h
                · omega
                · exact hnq h
              · exact hfr j oj d hoj hL hd (fun y hy => by cases hy)
            · have hsi : s k = s i := same_store hat hki (by omega) (fun j oj h3 h4 hoj hg ha => hex ⟨j, oj, h3, h4, hoj, hg, ha⟩)
              rw [hsi] at hrel
              refine hA.run hgi (W.ah x) μ1 a w hFon hrel _ Q (fun v' w' μ' hle' hv' hr' => ?_)
              have hc1 : ∀ (j : Nat) (oj : Oper), ops.toList[j]? = some oj → g j = true → acts P oj = true → j < i + 1 → L (listed.setIfInBounds i true) j := by
                intro j oj hoj hg ha hj
                rw [L_set hsz]
                rcases Nat.lt_or_ge j k with h | h
                · exact .inr (hcut j oj hoj hg ha h)
                · rcases Nat.lt_or_ge j i with h' | h'
                  · exact (hex ⟨j, oj, h, h', hoj, hg, ha⟩).elim
                  · exact .inl (by omega)
              cases x with
              | none =>
                refine next v' w' μ' (i + 1) none hle' (fun _ => hv') hr' (by omega) hc1 (fun j oj hoj hg ha hj hL => ?_) (fun y hy => by cases hy) (fun j oj d hoj hL hd _ hny => ?_)
                · rcases (L_set hsz).1 hL with h | hL
                  · omega
                  · exact hcut2 j oj hoj hg ha (by omega) hL
                · obtain ⟨u', h3, h4⟩ := hfr j oj d hoj hL hd hny
                  exact ⟨u', h3, h4.mono hle'⟩
              | some y =>
                have hy := hah y rfl
                have hiy : i < y.j := by
                  obtain ⟨q, oq, h1, h2, h3, h4, h5, h6⟩ := hy.wait
                  rcases Nat.lt_or_ge q i with h | h
                  · exact (hex ⟨q, oq, h1, h, h3, h4, h5⟩).elim
                  · omega
                by_cases hex2 : ∃ q oq, i + 1 ≤ q ∧ q < y.j ∧ ops.toList[q]? = some oq ∧ g q = true ∧ acts P oq = true
                · -- it waits on
                  obtain ⟨q, oq, h3, h4, hoq, hgq, haq⟩ := hex2
                  refine next v' w' μ' (i + 1) (some y) hle' (fun _ => hv') hr' (by omega) hc1 (fun j oj hoj hg ha hj hL => ?_) (fun z hz => ?_) (fun j oj d hoj hL hd _ hny => ?_)
                  · rcases (L_set hsz).1 hL with h | hL
                    · omega
                    · exact hcut2 j oj hoj hg ha (by omega) hL
                  · cases hz
                    refine hy.step hst hle' hsz ho hun ⟨q, oq, h3, h4, hoq, hgq, haq, fun hL => ?_, by omega⟩
                    obtain ⟨z, hz, h6⟩ := hcut2 q oq hoq hgq haq (by omega) hL
                    cases hz; omega
                  · obtain ⟨u', h3, h4⟩ := hfr j oj d hoj hL hd hny
                    exact ⟨u', h3, h4.mono hle'⟩
                · -- it is taken in
                  obtain ⟨oy, hoy, hslot2⟩ := hy.op
                  have hylt : y.j < ops.toList.length := (List.getElem?_eq_some_iff.1 hoy).1
                  have hs2 : s (i + 1) = s y.j := same_store hat (by omega) (by omega) (fun j oj h3 h4 hoj hg ha => hex2 ⟨j, oj, h3, h4, hoj, hg, ha⟩)
                  rw [hs2] at hr'
                  obtain ⟨hle2, hr2⟩ := Rel.adopt hr' hy.free y.vs hy.len (fun i u hu => by obtain ⟨u', h1, h2⟩ := hy.vs i u hu; exact ⟨u', h1, h2.mono hle'⟩)
                  rw [← hy.st] at hr2
                  refine next v' w' _ (y.j + 1) none (hle'.trans hle2) (fun _ => hv'.mono hle2) hr2 (by omega) (fun j oj hoj hg ha hj => ?_) (fun j oj hoj hg ha hj hL => ?_) (fun z hz => by cases hz) (fun j oj d hoj hL hd hji _ => ?_)
                  · rcases Nat.lt_or_ge j (i + 1) with h | h
                    · exact hc1 j oj hoj hg ha h
                    · rcases Nat.lt_or_ge j y.j with h' | h'
                      · exact (hex2 ⟨j, oj, h, h', hoj, hg, ha⟩).elim
                      · have : j = y.j := by omega
                        subst this
                        exact (L_set hsz).2 (.inr hy.here)
                  · rcases (L_set hsz).1 hL with h | hL
                    · omega
                    · obtain ⟨z, hz, h6⟩ := hcut2 j oj hoj hg ha (by omega) hL
                      cases hz; omega
                  · by_cases hjy : j = y.j
                    · subst hjy
                      rw [hoy] at hoj; cases hoj
                      obtain ⟨u', h3, h4⟩ := hslot2 d hd
                      refine ⟨u', h3, ?_⟩
                      rw [hy.val]
                      exact h4 _ _ (by simp [Mp.put])
                    · obtain ⟨u', h3, h4⟩ := hfr j oj d hoj hL hd (fun z hz => by cases hz; exact hjy)
                      exact ⟨u', h3, (h4.mono hle').mono hle2⟩
          | false =>
            have hS : Sound P o (H i) (s k) (v i) (s k) := by
              cases hlk : looks P o with
              | false => exact ((hA.reck hgi hact hlk).ran (s k)).sound
              | true =>
                rcases Nat.le_total k i with hki | hki
                · by_cases hex : ∃ j, k ≤ j ∧ j < i ∧ ∃ oj, ops.toList[j]? = some oj ∧ g j = true ∧ acts P oj = true
                  · obtain ⟨j, h3, h4, ⟨oj, hoj, hg, ha⟩, h5⟩ := first_of _ k i hex
                    have hsj : s k = s j := same_store hat h3 (by omega) (fun j' oj' h6 h7 hoj' hg' ha' => h5 j' h6 h7 ⟨oj', hoj', hg', ha'⟩)
                    have hjn : ¬ L listed j := fun hL => by
                      obtain ⟨y, hy, hjy⟩ := hcut2 j oj hoj hg ha h3 hL
                      obtain ⟨q', oq', g1, g2, g3, g4, g5, _⟩ := (hah y hy).wait
                      exact h5 q' g1 (by omega) ⟨oq', g3, g4, g5⟩
                    have hju : j ∈ u i := by
                      rcases ((hgo i o j oj ho hoj).2.2 h4).2.2 hact ha hlk with h | h
                      · exact (hjn (hB j h)).elim
                      · exact h
                    rw [hsj]
                    exact hA.look hgi hact hlk j h4 hju hg oj hoj ha
                  · have hsi : s k = s i := same_store hat hki (by omega) (fun j oj h3 h4 hoj hg ha => hex ⟨j, h3, h4, oj, hoj, hg, ha⟩)
                    have h6 := hA.run hgi
                    rw [hA.quiet hgi hact] at h6
                    rw [hsi]; exact h6
                · by_cases hex : ∃ j, i ≤ j ∧ j < k ∧ ∃ oj, ops.toList[j]? = some oj ∧ g j = true ∧ acts P oj = true
                  · obtain ⟨j, h3, h4, ⟨oj, hoj, hg, ha⟩, h5⟩ := last_of _ i k hex
                    have hsj : s (j + 1) = s k := same_store hat (by omega) hk (fun j' oj' h6 h7 hoj' hg' ha' => h5 j' (by omega) h7 ⟨oj', hoj', hg', ha'⟩)
                    have hjL : L listed j := hcut j oj hoj hg ha h4
                    have hij : i < j := by
                      rcases Nat.lt_or_eq_of_le h3 with h | h
                      · exact h
                      · subst h; rw [ho] at hoj; cases hoj; rw [hact] at ha; cases ha
                    have hiu : i ∈ u j := by
                      rcases ((hgo j oj i o hoj ho).2.2 hij).2.1 ha hact hlk with h | h
                      · exact (hBi j oj hoj hjL h).elim
                      · exact h
                    rw [← hsj]
                    exact (hat j oj hoj).act hg ha i hij hiu hgi o ho hact hlk
                  · have hsi : s i = s k := same_store hat hki hk (fun j oj h3 h4 hoj hg ha => hex ⟨j, h3, h4, oj, hoj, hg, ha⟩)
                    have h6 := hA.run hgi
                    rw [hA.quiet hgi hact] at h6
                    rw [← hsi]; exact h6
            exact hS (W.ah x) μ1 a w hFon hrel _ Q (fun v' w' μ' hle' hv' hr' => stay (fun _ h => by rw [hact] at h; cases h) v' μ' w' hle' hv' hr')
  refine key _ _ a w ?_ ⟨by simp, fun i o ho hL => ?_, hn, hd, μ, 0, none, Mp.le.refl μ, by omega, (by rw [hs0]; exact hr), fun j o ho _ _ h => (by omega), fun j o ho _ _ _ hL => ?_, (fun y hy => (by cases hy)), fun j o d ho hL => ?_, fun t x ht hx => ?_⟩
  · unfold left; simp
  · exfalso; unfold L at hL; rcases Nat.lt_or_ge i ops.size with h | h <;> simp [h] at hL
  · exfalso; unfold L at hL; rcases Nat.lt_or_ge j ops.size with h | h <;> simp [h] at hL
  · exfalso; unfold L at hL; rcases Nat.lt_or_ge j ops.size with h | h <;> simp [h] at hL
  · exact hf t x hx
end Go.AM

namespace Go.AM
open Go.RowKit
variable [Laid]
variable {P : Program} {r : Value × St}
def okPlain (P : Program) (n : Nat) (o : Oper) : Bool := okOp P o && (match o.dst with | some d => Nat.blt d n | none => true)
def okCode (P : Program) (n : Nat) (ann : Ann) : Code → Bool
  | .skip => true
  | .region id ops draw => bif draw then P.follows .mixedOrders && okDrawn P n (ann.un id) ops.toList else ops.toList.all (okPlain P n)
  | .seq a b => okCode P n ann a && okCode P n ann b
  | .cond c t e => okOpnd c && (okCode P n ann t && okCode P n ann e)
  | .block _ c => okCode P n ann c
  | .loop c => okCode P n ann c
  | .exit _ => true
  | .ret => true
  | _ => false
def Ex.real : Ex → Exit
  | .normal => .normal
  | .exit i => .exit i
  | .ret => .ret
def Post (W : Base) (μ : Mp) (n : Nat) (r : Value × St) (K : Ex → Fr → St → Res) (Q : Exit → Act → World → Prop) : Prop :=
  ∀ ex fr' σ' μ' a' w', K ex fr' σ' = some r → μ.le μ' → FrRel μ' fr' a' → Rel W μ' σ' w' → a'.tmps.size = n → a'.defers = [] → Q ex.real a' w'
theorem Post.le {W : Base} {μ μ' : Mp} {n : Nat} {K : Ex → Fr → St → Res} {Q : Exit → Act → World → Prop} (h : Post W μ n r K Q) (hl : μ.le μ') : Post W μ' n r K Q :=
  fun ex fr' σ' μ2 a' w' hK hl2 => h ex fr' σ' μ2 a' w' hK (hl.trans hl2)
theorem code_sound {call : FuncId → List Value → St → Res} (hcall : CallOK P call) {L : Nat} {ann : Ann} {n : Nat} {W : Base} : ∀ (c : Code), okCode P n ann c = true → ∀ {fr : Fr} {σ : St} {K : Ex → Fr → St → Res} {Q : Exit → Act → World → Prop},
    evCode P call L ann c fr σ K = some r → ∀ {μ : Mp} {a : Act} {w : World}, FrRel μ fr a → Rel W μ σ w → a.tmps.size = n → a.defers = [] → Post W μ n r K Q → c.wp P Q a w := by
  intro c
  induction c with
  | skip => intro _ fr σ K Q h μ a w hf hr hn hd hp; exact wp_skip (hp .normal fr σ μ a w h (Mp.le.refl μ) hf hr hn hd)
  | region id ops draw =>
    intro hok fr σ K Q h μ a w hf hr hn hd hp
    simp only [evCode] at h
    cases draw with
    | false =>
      simp only [okCode, cond_false] at hok h
      refine wp_region ?_
      have := ops_sound hcall (ops := ops) (n := n) (W := W) (Q := Q) (K := fun fr' σ' => K .normal fr' σ') (fun o ho => by
        have h1 := List.all_eq_true.1 hok o ho
        unfold okPlain at h1
        rw [Bool.and_eq_true] at h1
        exact ⟨h1.1, fun d hd => by have h2 := h1.2; rw [hd] at h2; simpa [Nat.blt_eq] using h2⟩) ops.toList 0 ⟨[], []⟩ fr σ (by simp) h μ a w hf hr hn hd (fun fr' σ' μ' a' w' hK => hp .normal fr' σ' μ' a' w' hK)
      rw [List.range_eq_range']
      simpa using this
    | true =>
      simp only [okCode, cond_true, Bool.and_eq_true] at hok h
      refine wp_region_any hok.1 ?_
      exact drawn_sound hcall hok.2 h hf (hr.heap (w' := { w with drawn := w.drawn + 1 }) rfl rfl rfl rfl) hn hd (fun fr' σ' μ' a' w' hK => hp .normal fr' σ' μ' a' w' hK)
  | seq x y ihx ihy =>
    intro hok fr σ K Q h μ a w hf hr hn hd hp
    simp only [okCode, Bool.and_eq_true] at hok
    simp only [evCode] at h
    refine wp_seq (ihx hok.1 h hf hr hn hd (fun ex fr' σ' μ' a' w' hK hle hf' hr' hn' hd' => ?_))
    cases ex with
    | normal =>
      simp only [pt] at hK
      exact ihy hok.2 hK (hf'.cut _) hr' hn' hd' (hp.le hle)
    | exit i => exact hp (.exit i) fr' σ' μ' a' w' hK hle hf' hr' hn' hd'
    | ret => exact hp .ret fr' σ' μ' a' w' hK hle hf' hr' hn' hd'
  | cond c t e iht ihe =>
    intro hok fr σ K Q h μ a w hf hr hn hd hp
    simp only [okCode, Bool.and_eq_true] at hok
    simp only [evCode] at h
    obtain ⟨v, h1, hv⟩ := opnd_inv hok.1 h
    obtain ⟨b, e1, h2⟩ := asB_inv h1
    subst e1
    have hc := (hv μ a (opT c) (fun _ h => h) (hf.on _)).bool_inv
    rcases br_inv h2 with ⟨rfl, h3⟩ | ⟨rfl, h3⟩
    · exact wp_cond_true hc (iht hok.2.1 h3 hf hr hn hd hp)
    · exact wp_cond_false hc (ihe hok.2.2 h3 hf hr hn hd hp)
  | block id c ih =>
    intro hok fr σ K Q h μ a w hf hr hn hd hp
    simp only [okCode] at hok
    simp only [evCode] at h
    refine wp_block (ih hok h hf hr hn hd (fun ex fr' σ' μ' a' w' hK hle hf' hr' hn' hd' => ?_))
    cases ex with
    | normal => exact hp .normal fr' σ' μ' a' w' hK hle hf' hr' hn' hd'
    | exit i =>
      simp only at hK
      by_cases hi : i = id
      · subst hi
        have : Nat.beq i i = true := by simp
        rw [this] at hK
        simp only [Ex.real, Exit.inBlock, if_true]
        exact hp .normal fr' σ' μ' a' w' hK hle hf' hr' hn' hd'
      · rw [nbeq_ne hi] at hK
        simp only [Ex.real, Exit.inBlock, hi, if_false]
        exact hp (.exit i) fr' σ' μ' a' w' hK hle hf' hr' hn' hd'
    | ret => exact hp .ret fr' σ' μ' a' w' hK hle hf' hr' hn' hd'
  | loop c ih =>
    intro hok fr σ K Q h μ a w hf hr hn hd hp
    simp only [okCode] at hok
    simp only [evCode] at h
    refine wp_loop_rounds L ?_
    have key : ∀ (m : Nat) (fr : Fr) (σ : St) (μ' : Mp) (a : Act) (w : World), iter (fr1 c) (evCode P call L ann c) (ann.at c) K m fr σ = some r → μ.le μ' → FrRel μ' fr a → Rel W μ' σ w → a.tmps.size = n → a.defers = [] → Code.rounds P c Q m a w := by
      intro m
      induction m with
      | zero => intro fr σ μ' a w h; simp [iter] at h
      | succ m ihm =>
        intro fr σ μ' a w h hle hf hr hn hd
        simp only [iter] at h
        rw [rounds_succ]
        refine ih hok h (hf.cut _) hr hn hd (fun ex fr' σ' μ2 a' w' hK hle2 hf' hr' hn' hd' => ?_)
        cases ex with
        | normal => exact ihm _ _ μ2 a' w' hK (hle.trans hle2) (hf'.cut _) hr' hn' hd'
        | exit i => exact hp (.exit i) fr' σ' μ2 a' w' hK (hle.trans hle2) hf' hr' hn' hd'
        | ret => exact hp .ret fr' σ' μ2 a' w' hK (hle.trans hle2) hf' hr' hn' hd'
    exact key L _ σ μ a w h (Mp.le.refl μ) (hf.cut _) hr hn hd
  | exit id => intro _ fr σ K Q h μ a w hf hr hn hd hp; exact wp_exit (hp (.exit id) fr σ μ a w h (Mp.le.refl μ) hf hr hn hd)
  | ret => intro _ fr σ K Q h μ a w hf hr hn hd hp; exact wp_ret (hp .ret fr σ μ a w h (Mp.le.refl μ) hf hr hn hd)
  | _ => intro hok; cases hok
def resOne (tmps : Array Value) (x : ResultVar) : Sem Value :=
  match x with
  | .tmp t => pure (tmps.getD t undef)
  | .cell a t => do loadVar t (← asAddr (tmps.getD a undef))
theorem results_eq (fn : Func) (tmps : Array Value) : results fn tmps = (do let vs ← fn.results.mapM (resOne tmps); pure (if h : vs.size = 1 then vs[0] else .tuple vs)) := rfl
theorem outs_inv {fr : Fr} {σ : St} : ∀ {l : List ResultVar} {K : List Value → Res}, outs P fr σ l K = some r →
    ∃ vs, K vs = some r ∧ ∀ (W : Base) (μ : Mp) (a : Act) (w : World), FrRel μ fr a → Rel W μ σ w → ∃ vs', LRel μ vs vs' ∧ (l.mapM (resOne a.tmps)).run P w = .ok vs' w
  | [], K, h => ⟨[], h, fun W μ a w _ _ => ⟨[], .nil μ, by simp⟩⟩
  | .tmp t :: l, K, h => by
    simp only [outs] at h
    split at h
    · rename_i v hv
      obtain ⟨vs, h1, h2⟩ := outs_inv h
      refine ⟨v :: vs, h1, fun W μ a w hf hr => ?_⟩
      obtain ⟨vs', h3, h4⟩ := h2 W μ a w hf hr
      obtain ⟨v', h5, h6⟩ := hf t v hv
      refine ⟨v' :: vs', .cons h6 h3, ?_⟩
      have h7 : (resOne a.tmps (.tmp t)).run P w = .ok v' w := by simp [resOne, h5]
      simp [List.mapM_cons, h7, h4]
    · cases h
  | .cell x t :: l, K, h => by
    simp only [outs] at h
    split at h
    · rename_i v hv
      obtain ⟨ad, e1, h1⟩ := asP_inv h
      subst e1
      obtain ⟨q, off, e2, h2⟩ := adr_inv h1
      subst e2
      obtain ⟨u, h3, hu⟩ := aLoad_inv h2
      obtain ⟨vs, h4, h5⟩ := outs_inv h3
      refine ⟨u :: vs, h4, fun W μ a w hf hr => ?_⟩
      obtain ⟨vs', h6, h7⟩ := h5 W μ a w hf hr
      obtain ⟨v', h8, h9⟩ := hf x _ hv
      obtain ⟨p, hp, e3⟩ := h9.ptr_inv
      obtain ⟨u', h10, h11⟩ := hu W μ w p hr hp
      refine ⟨u' :: vs', .cons h11 h6, ?_⟩
      have h12 : (resOne a.tmps (.cell x t)).run P w = .ok u' w := by
        have : a.tmps.getD x undef = .pointer (some ⟨p.b, p.s + off, none⟩) := by simp [h8, e3]
        simp [resOne, this, asAddr, h10]
      simp [List.mapM_cons, h12, h7]
    · cases h
theorem pack_rel {μ : Mp} : ∀ {vs vs' : List Value}, LRel μ vs vs' → VRel μ (pack vs) (if h : vs'.toArray.size = 1 then vs'.toArray[0] else .tuple vs'.toArray)
  | [], vs', h => by rw [h.inv_nil]; exact VRel.undef μ
  | [v], vs', h => by
    obtain ⟨y, m, e1, h1, h2⟩ := h.inv
    rw [h2.inv_nil] at e1
    subst e1
    simpa [pack] using h1
  | v :: u :: l, vs', h => by
    have hl := h.1
    simp only [List.length_cons] at hl
    have : vs'.toArray.size ≠ 1 := by simp; omega
    rw [dif_neg this]
    exact LRel.tuple (by simpa using h)
structure DefOK (P : Program) (f : FuncId) (fn : Func) (bd : Code) (ann : Ann) : Prop where
  func : P.funcs[f]? = some fn
  body : fn.body = some bd
  name : fn.name ≠ "runtime.NumGoroutine"
  room : fn.params.size + fn.nfree ≤ fn.ntmps
  code : okCode P fn.ntmps ann bd = true
def PrimOK (P : Program) (f : FuncId) (g : List Value → St → Res) : Prop := CallOK P fun f' args σ => if f' = f then g args σ else none
def EnvOK (P : Program) (env : FuncId → Def) : Prop := ∀ f, match env f with
  | .code fn body ann => DefOK P f fn body ann
  | .prim g => PrimOK P f g
  | .no => True
theorem frame0_get : ∀ (l : List Value) (i t : Nat) (v : Value), (frame0 l i).get t = some v → i ≤ t ∧ l[t - i]? = some v
  | [], i, t, v, h => by simp [frame0, Fr.get] at h
  | x :: l, i, t, v, h => by
    simp only [frame0, Fr.get] at h
    by_cases hit : i = t
    · subst hit
      have : Nat.beq i i = true := by simp
      rw [this] at h
      simp at h
      subst h
      simp
    · rw [nbeq_ne hit] at h
      obtain ⟨h1, h2⟩ := frame0_get l (i + 1) t v (by simpa using h)
      refine ⟨by omega, ?_⟩
      have : t - i = (t - (i + 1)) + 1 := by omega
      rw [this]
      simpa using h2
theorem call_sound {env : FuncId → Def} (henv : EnvOK P env) {L : Nat} : ∀ n, CallOK P (evCall P env L n)
  | 0 => fun f args σ v σ' h => by simp [evCall] at h
  | n + 1 => fun f args σ v σ' h => by
    simp only [evCall] at h
    have he := henv f
    split at h
    · cases h
    · rename_i g hg
      rw [hg] at he
      exact he f args σ v σ' (by simpa using h)
    · rename_i fn body ann hc
      rw [hc] at he
      simp only at he
      obtain ⟨hb, h1⟩ := need_inv h
      have hlen : args.length = fn.params.size + fn.nfree := Nat.eq_of_beq_eq_true hb
      refine ⟨⟨fn, he.func, he.name, by rw [he.body]; rfl⟩, fun W μ w args' hl hr => ?_⟩
      have hroom := he.room
      have hll := hl.1
      refine calls_of_wp he.func he.body ?_
      refine code_sound (call_sound henv n) (n := fn.ntmps) body he.code h1 (μ := μ) (fun t x hx => ?_) hr (by simp; omega) rfl (fun ex fr' σ2 μ' a' w' hK hle hf' hr' hn' hd' => ?_)
      · obtain ⟨_, h2⟩ := frame0_get args 0 t x hx
        obtain ⟨x', h3, h4⟩ := hl.get (by simpa using h2)
        have hlt : t < args'.length := (List.getElem?_eq_some_iff.1 h3).1
        exact ⟨x', by rw [Array.getElem?_append_left (by simpa using hlt)]; simpa using h3, h4⟩
      · have hend : outs P fr' σ2 fn.results.toList (fun vs => some (pack vs, σ2)) = some (v, σ') → ∃ v', (results fn a'.tmps).run P w' = .ok v' w' ∧ After W μ v σ' (.returned v') w' := by
          intro ho
          obtain ⟨vs, h2, h3⟩ := outs_inv ho
          cases h2
          obtain ⟨vs', h4, h5⟩ := h3 W μ' a' w' hf' hr'
          refine ⟨_, ?_, μ', hle, pack_rel h4, hr'⟩
          simp [results_eq, Array.mapM_eq_mapM_toList, h5]
        cases ex with
        | normal => obtain ⟨v', h2, h3⟩ := hend hK; exact ⟨hd', v', h2, h3⟩
        | exit i => cases hK
        | ret => obtain ⟨v', h2, h3⟩ := hend hK; exact ⟨hd', v', h2, h3⟩
end Go.AM

namespace Go.AM
open Go.RowKit Go.ChangeShapes
variable [Laid]
def flatT (P : Program) : Nat → TypeId → Bool
  | 0, _ => false
  | n + 1, t =>
    match P.underlying t with
    | some .bool => true
    | some (.int _) => true
    | some .string => true
    | some (.struct fs) => (fs.toList.all fun f => flatT P n f.type) && (List.range (P.cellsOf t)).all fun c => fs.toList.any fun f => Nat.ble f.offset c && Nat.blt c (f.offset + P.cellsOf f.type)
    | some (.array m e) => flatT P n e && Nat.beq (P.cellsOf t) (m * P.cellsOf e) && Nat.blt 0 (P.cellsOf e)
    | _ => false
inductive Img (P : Program) (σ : St) : TypeId → List Value → Prop
  | bool {t : TypeId} (b : Bool) (h : P.underlying t = some .bool) : Img P σ t [.bool b]
  | int {t : TypeId} {k : IntKind} (n : Int) (h : P.underlying t = some (.int k)) (hw : (Lit.int k n).wf = true) : Img P σ t [.int k n]
  | str {t : TypeId} (s : ByteArray) (h : P.underlying t = some .string) (hs : s.size ≤ maxLen) : Img P σ t [.string s]
  | nil {t e : TypeId} (h : P.underlying t = some (.slice e)) : Img P σ t [.slice none 0 0]
  | slice {t e : TypeId} {q n : Nat} (h : P.underlying t = some (.slice e)) (hm : n ≤ maxLen)
      (vs : List Value) (hg : n = 0 ∨ σ.get q = some (.ro vs)) (hl : n * P.cellsOf e ≤ vs.length) (hr : ∀ i, i < n → Img P σ e ((vs.drop (i * P.cellsOf e)).take (P.cellsOf e))) : Img P σ t [.slice (some ⟨q, 0, none⟩) n 0]
  | struct {t : TypeId} {fs : Array Field} {cs : List Value} (h : P.underlying t = some (.struct fs)) (hl : cs.length = P.cellsOf t) (hf : ∀ f ∈ fs.toList, Img P σ f.type ((cs.drop f.offset).take (P.cellsOf f.type))) : Img P σ t cs
  | array {t e : TypeId} {n : Nat} {cs : List Value} (h : P.underlying t = some (.array n e)) (hl : cs.length = P.cellsOf t) (hf : ∀ i, i < n → Img P σ e ((cs.drop (i * P.cellsOf e)).take (P.cellsOf e))) : Img P σ t cs
def flat1 (v : Value) : Bool :=
  match v with
  | .bool _ => true
  | .int _ _ => true
  | .string _ => true
  | _ => false
theorem flat1_rel (μ : Mp) (v : Value) (h : flat1 v = true) : VRel μ v v := by
  cases v <;> simp [flat1] at h <;> constructor
def adrs (cs : List Value) : List Addr := cs.filterMap fun v => match v with | .slice (some a) _ _ => some a | _ => none
def im (ads : List Addr) (v : Value) : Value := match v with | .slice (some a) n _ => .slice (some ⟨ads.idxOf a, 0, none⟩) n 0 | v => v
def stOf (ads : List Addr) (W : World) : St where
  get r := match ads[r]? with
    | some a => match W.heap[a.block]? with
      | some (.cells cur _ _) => some (.ro ((cur.toList.drop a.off).takeWhile flat1))
      | _ => none
    | none => none
  next := ads.length
def mpOf (ads : List Addr) : Mp := fun r => (ads[r]?).map fun a => ⟨a.block, a.off, 0⟩
theorem idx_get {ads : List Addr} {a : Addr} (h : a ∈ ads) : ads[ads.idxOf a]? = some a := by
  have h1 := List.idxOf_lt_length_of_mem h
  rw [List.getElem?_eq_getElem h1, List.getElem_idxOf h1]
theorem rel_stOf (ads : List Addr) (W : World) (hI : Laid.I W) : Rel (Base.of W) (mpOf ads) (stOf ads W) W := by
  refine ⟨Below.refl _ _, fun q hq => ?_, fun q p B hp hB => ?_, fun q vs e h => ?_, fun q vs h => ?_, fun q kv h => ?_, fun q q' B B' p p' h hw => ?_, hI, fun b o he => (by cases he), fun _ _ _ _ _ => rfl⟩
  · have h1 : ads[q]? = none := List.getElem?_eq_none hq
    simp [mpOf, stOf, h1]
  · simp only [mpOf, Option.map_eq_some_iff] at hp
    obtain ⟨a, ha, rfl⟩ := hp
    simp only [stOf, ha] at hB
    split at hB
    · rename_i cur e fz hc
      exact (Array.getElem?_eq_some_iff.1 hc).1
    · cases hB
  · simp only [stOf] at h
    split at h
    · split at h <;> cases h
    · cases h
  · simp only [stOf] at h
    split at h
    · rename_i a ha
      split at h
      · rename_i cur e fz hc
        cases h
        refine ⟨⟨a.block, a.off, 0⟩, by simp [mpOf, ha], fun i x hx => ?_⟩
        have hpre : (cur.toList.drop a.off)[i]? = some x := by
          have h1 := List.takeWhile_prefix flat1 (l := cur.toList.drop a.off)
          have hlt : i < ((cur.toList.drop a.off).takeWhile flat1).length := (List.getElem?_eq_some_iff.1 hx).1
          obtain ⟨t, ht⟩ := h1
          rw [← ht, List.getElem?_append_left hlt]
          exact hx
        have hgood : flat1 x = true := by
          have h1 := List.all_takeWhile (p := flat1) (l := cur.toList.drop a.off)
          exact List.all_eq_true.1 h1 x (List.mem_of_getElem? hx)
        refine ⟨x, ?_, flat1_rel _ x hgood⟩
        simp only [World.cell?, hc]
        rw [List.getElem?_drop, Array.getElem?_toList] at hpre
        exact hpre
      · cases h
    · cases h
  · simp only [stOf] at h
    split at h
    · split at h <;> cases h
    · cases h
  · simp only [stOf] at h
    split at h
    · split at h
      · cases h; cases hw
      · cases h
    · cases h
theorem run_len : ∀ {l : List Value} {n : Nat}, n ≤ l.length → (∀ i v, i < n → l[i]? = some v → flat1 v = true) → n ≤ (l.takeWhile flat1).length
  | [], n, h, _ => by simpa using h
  | x :: l, 0, _, _ => by simp
  | x :: l, n + 1, h, hg => by
    have h1 := hg 0 x (by omega) rfl
    simp only [List.takeWhile_cons, h1, if_true, List.length_cons]
    have := run_len (l := l) (n := n) (by simpa using h) (fun i v hi hv => hg (i + 1) v (by omega) (by simpa using hv))
    omega
section
variable {H : Type} {enc : TypeId × Value → H} {P : Program}
theorem cells_inv {w : World} {base : Nat} {a : Addr} {n : Nat} {cs : List Value} (h : w.cells? base a n = some cs) : cs.length = n ∧ ∀ i, i < n → w.cell? (a.add i) = cs[i]? := by
  unfold World.cells? at h
  split at h
  · exact ⟨by simpa using mapM_some_length h, fun i hi => mapM_some_get h i i (by simp [hi])⟩
  · cases h
theorem image_flat {W : World} {base : Nat} {spare : Nat → Bool} {held : Bool} (σ : St) : ∀ (fuel : Nat) (t : TypeId) (cs : List Value) (x : DataW H × List MemPlace) (k : Nat), DataW.trod enc P W base spare held fuel t cs = some x → flatT P k t = true →
    (∀ v ∈ cs, flat1 v = true) ∧ cs.length = cs.length ∧ Img P σ t cs
  | 0, t, cs, x, k, h, _ => by simp [DataW.trod] at h
  | fuel + 1, t, cs, x, 0, h, hk => by cases hk
  | fuel + 1, t, cs, x, k + 1, h, hk => by
    unfold flatT at hk
    split at hk
    · rename_i hu
      unfold DataW.trod at h
      simp only [hu] at h
      split at h <;> try (cases h; done)
      all_goals simp_all
      exact ⟨by simp [flat1], .bool _ hu⟩
    · rename_i kk hu
      unfold DataW.trod at h
      simp only [hu] at h
      split at h <;> try (simp_all; done)
      rename_i k1 k2 n heq
      cases heq
      split at h
      · rename_i hw
        obtain ⟨rfl, hw⟩ := hw
        exact ⟨by simp [flat1], rfl, .int _ hu hw⟩
      · cases h
    · rename_i hu
      unfold DataW.trod at h
      simp only [hu] at h
      split at h <;> try (simp_all; done)
      split at h
      · exact ⟨by simp [flat1], rfl, .str _ hu (by assumption)⟩
      · cases h
    · rename_i fs hu
      rw [Bool.and_eq_true] at hk
      unfold DataW.trod at h
      simp only [hu] at h
      split at h
      · rename_i hlen
        obtain ⟨r, hr, _⟩ := Option.map_eq_some_iff.1 h
        have hrl := mapM_some_length hr
        have hall : ∀ f ∈ fs.toList, (∀ v ∈ (cs.drop f.offset).take (P.cellsOf f.type), flat1 v = true) ∧ Img P σ f.type ((cs.drop f.offset).take (P.cellsOf f.type)) := by
          intro f hf
          obtain ⟨i, hi, rfl⟩ := List.getElem_of_mem hf
          have h1 := mapM_some_get hr i _ (List.getElem?_eq_getElem hi)
          have h2 : i < r.length := by omega
          rw [List.getElem?_eq_getElem h2] at h1
          obtain ⟨h3, _, h4⟩ := image_flat σ fuel _ _ _ k h1 (List.all_eq_true.1 hk.1 _ (List.getElem_mem hi))
          exact ⟨h3, h4⟩
        refine ⟨fun v hv => ?_, rfl, .struct hu hlen (fun f hf => (hall f hf).2)⟩
        obtain ⟨c, hc, rfl⟩ := List.getElem_of_mem hv
        have h1 := List.all_eq_true.1 hk.2 c (by simp; omega)
        obtain ⟨f, hf, h2⟩ := List.any_eq_true.1 h1
        simp only [Bool.and_eq_true, Nat.ble_eq, Nat.blt_eq] at h2
        refine (hall f hf).1 _ (List.mem_of_getElem? (i := c - f.offset) ?_)
        rw [List.getElem?_take, if_pos (by omega), List.getElem?_drop, show f.offset + (c - f.offset) = c by omega]
        exact List.getElem?_eq_getElem hc
      · cases h
    · rename_i m e hu
      simp only [Bool.and_eq_true] at hk
      unfold DataW.trod at h
      simp only [hu] at h
      split at h
      · rename_i hlen
        obtain ⟨r, hr, _⟩ := Option.map_eq_some_iff.1 h
        have hrl := mapM_some_length hr
        simp only [List.length_range] at hrl
        have hall : ∀ i, i < m → (∀ v ∈ (cs.drop (i * P.cellsOf e)).take (P.cellsOf e), flat1 v = true) ∧ Img P σ e ((cs.drop (i * P.cellsOf e)).take (P.cellsOf e)) := by
          intro i hi
          have h1 := mapM_some_get hr i i (by simp [hi])
          have h2 : i < r.length := by omega
          rw [List.getElem?_eq_getElem h2] at h1
          obtain ⟨h3, _, h4⟩ := image_flat σ fuel _ _ _ k h1 hk.1.1
          exact ⟨h3, h4⟩
        refine ⟨fun v hv => ?_, rfl, .array hu hlen (fun i hi => (hall i hi).2)⟩
        obtain ⟨c, hc, rfl⟩ := List.getElem_of_mem hv
        have hz : 0 < P.cellsOf e := by simpa using hk.2
        have hcm : c < m * P.cellsOf e := by have := Nat.eq_of_beq_eq_true hk.1.2; omega
        have hdiv : c / P.cellsOf e < m := Nat.div_lt_of_lt_mul (by rw [Nat.mul_comm]; exact hcm)
        have hmod := Nat.mod_lt c hz
        have hdm := Nat.div_add_mod c (P.cellsOf e)
        refine (hall _ hdiv).1 _ (List.mem_of_getElem? (i := c % P.cellsOf e) ?_)
        rw [List.getElem?_take, if_pos hmod, List.getElem?_drop, Nat.mul_comm, hdm]
        exact List.getElem?_eq_getElem hc
      · cases h
    · cases hk
theorem open_slice {W : World} {base : Nat} {t e : TypeId} {v : Value} {d : DataW H} {p : List MemPlace} {k : Nat} {ads : List Addr} (hu : P.underlying t = some (.slice e)) (hf : flatT P k e = true) (hz : 0 < P.cellsOf e)
    (hv : Value.okWide P W .any base t v) (h : DataW.Trod enc P W 0 (fun _ => true) true t v d p) (has : ∀ a n c, v = .slice (some a) n c → a ∈ ads) : VRel (mpOf ads) (im ads v) v ∧ Img P (stOf ads W) t [im ads v] := by
  obtain ⟨fuel, h1⟩ := h
  cases fuel with
  | zero => simp [DataW.trod] at h1
  | succ fuel =>
    have hok : v = .slice none 0 0 ∨ ∃ b o n c, v = .slice (some ⟨b, o, none⟩) n c := by
      unfold Value.okWide Cell.okWide Cell.ok at hv
      simp only [hu] at hv
      cases v <;> simp at hv
      rename_i a n c
      cases a with
      | none => left; cases n <;> cases c <;> simp at hv ⊢
      | some a =>
        obtain ⟨b, o, sp⟩ := a
        simp only [World.has] at hv
        have : sp = none := hv.2.2.2.1
        subst this
        exact .inr ⟨b, o, n, c, rfl⟩
    rcases hok with rfl | ⟨b, o, n, c, rfl⟩
    · exact ⟨.sl0, .nil hu⟩
    · have hmem := has _ _ _ rfl
      have hidx := idx_get hmem
      unfold DataW.trod at h1
      simp only [hu, Value.cells] at h1
      split at h1
      · rename_i hb
        obtain ⟨elems, he, h2⟩ := Option.bind_eq_some_iff.1 h1
        have hel := mapM_some_length he
        simp only [List.length_range] at hel
        have hrow : ∀ i, i < n → ∃ cs y, W.cells? 0 ((⟨b, o, none⟩ : Addr).add (i * P.cellsOf e)) (P.cellsOf e) = some cs ∧ DataW.trod enc P W 0 (fun _ => true) true fuel e cs = some y := by
          intro i hi
          have h3 := mapM_some_get he i i (by simp [hi])
          have h4 : i < elems.length := by omega
          rw [List.getElem?_eq_getElem h4] at h3
          obtain ⟨cs, h5, h6⟩ := Option.bind_eq_some_iff.1 h3
          exact ⟨cs, _, h5, h6⟩
        have hrel : VRel (mpOf ads) (im ads (.slice (some ⟨b, o, none⟩) n c)) (.slice (some ⟨b, o, none⟩) n c) :=
          VRel.sl (p := ⟨b, o, 0⟩) (by simp [mpOf, hidx]) hb.2.1 (.inr rfl) (.inl rfl) hb.2.2
        refine ⟨hrel, ?_⟩
        by_cases hn : n = 0
        · subst hn
          exact .slice hu (by omega) [] (.inl rfl) (by simp) (fun i hi => by omega)
        · -- the block
          have hcell : ∀ i, i < n → ∀ j, j < P.cellsOf e → ∃ x, W.cell? ⟨b, o + (i * P.cellsOf e + j), none⟩ = some x ∧ flat1 x = true := by
            intro i hi j hj
            obtain ⟨cs, y, h5, h6⟩ := hrow i hi
            obtain ⟨h7, h8⟩ := cells_inv h5
            obtain ⟨h9, _, _⟩ := image_flat (stOf ads W) fuel e cs y k h6 hf
            have h10 := h8 j hj
            rw [addr_add, addr_add] at h10
            have h11 : j < cs.length := by omega
            rw [List.getElem?_eq_getElem h11] at h10
            exact ⟨cs[j], by rw [← Nat.add_assoc]; exact h10, h9 _ (List.getElem_mem h11)⟩
          have hblk : ∃ cur el fz, W.heap[b]? = some (.cells cur el fz) := by
            obtain ⟨x, hx, _⟩ := hcell 0 (by omega) 0 hz
            unfold World.cell? at hx
            split at hx
            · exact ⟨_, _, _, by assumption⟩
            · cases hx
          obtain ⟨cur, el, fz, hc⟩ := hblk
          have hflat : ∀ q, q < n * P.cellsOf e → ∃ x, (cur.toList.drop o)[q]? = some x ∧ flat1 x = true := by
            intro q hq
            have hdiv : q / P.cellsOf e < n := Nat.div_lt_of_lt_mul (by rw [Nat.mul_comm]; exact hq)
            have hmod := Nat.mod_lt q hz
            have hdm := Nat.div_add_mod q (P.cellsOf e)
            obtain ⟨x, hx, hg⟩ := hcell _ hdiv _ hmod
            rw [Nat.mul_comm, hdm] at hx
            refine ⟨x, ?_, hg⟩
            simp only [World.cell?, hc] at hx
            rw [List.getElem?_drop, Array.getElem?_toList]
            simpa using hx
          have hlen : n * P.cellsOf e ≤ (cur.toList.drop o).length := by
            rcases Nat.lt_or_ge (cur.toList.drop o).length (n * P.cellsOf e) with h | h
            · obtain ⟨x, hx, _⟩ := hflat _ h
              rw [List.getElem?_eq_none (Nat.le_refl _)] at hx
              cases hx
            · exact h
          have hget : (stOf ads W).get (ads.idxOf ⟨b, o, none⟩) = some (.ro ((cur.toList.drop o).takeWhile flat1)) := by simp [stOf, hidx, hc]
          have hlen2 := run_len hlen (fun i v hi hv => by obtain ⟨x, hx, hg⟩ := hflat i hi; rw [hv] at hx; cases hx; exact hg)
          have hpre : ∀ i, i < n * P.cellsOf e → ((cur.toList.drop o).takeWhile flat1)[i]? = (cur.toList.drop o)[i]? := by
            intro i hi
            obtain ⟨t', ht⟩ := List.takeWhile_prefix flat1 (l := cur.toList.drop o)
            conv => rhs; rw [← ht]
            rw [List.getElem?_append_left (by omega)]
          refine .slice hu (Nat.le_trans hb.2.1 hb.2.2) _ (.inr hget) hlen2 (fun i hi => ?_)
          obtain ⟨cs, y, h5, h6⟩ := hrow i hi
          obtain ⟨h7, h8⟩ := cells_inv h5
          obtain ⟨_, _, h10⟩ := image_flat (stOf ads W) fuel e cs y k h6 hf
          have heq : (((cur.toList.drop o).takeWhile flat1).drop (i * P.cellsOf e)).take (P.cellsOf e) = cs := by
            apply List.ext_getElem?
            intro j
            rw [List.getElem?_take]
            by_cases hj : j < P.cellsOf e
            · have hij : i * P.cellsOf e + j < n * P.cellsOf e := by
                have := Nat.mul_le_mul_right (P.cellsOf e) (show i + 1 ≤ n from hi)
                rw [Nat.add_mul] at this
                omega
              rw [if_pos hj, List.getElem?_drop, hpre _ hij, ← h8 j hj, addr_add, addr_add]
              simp only [World.cell?, hc]
              rw [List.getElem?_drop, Array.getElem?_toList]
              simp [Nat.add_assoc]
            · rw [if_neg hj, List.getElem?_eq_none (by omega)]
          rw [heq]
          exact h10
      · cases h1
theorem Img.list {α : Type} {σ : St} {t e : TypeId} {v : Value} (hu : P.underlying t = some (.slice e)) (h : Img P σ t [v]) (cells : α → List Value) (dec : ∀ row, Img P σ e row → ∃ a, row = cells a) (hz : ∀ a, (cells a).length = P.cellsOf e) :
    ∃ (l : List α) (ad : Option Addr), v = .slice ad l.length 0 ∧ l.length ≤ maxLen ∧ (l ≠ [] → ∃ q vs, ad = some ⟨q, 0, none⟩ ∧ σ.cells q = some vs ∧ l.length * P.cellsOf e ≤ vs.length ∧ ∀ i a, l[i]? = some a → (vs.drop (i * P.cellsOf e)).take (P.cellsOf e) = cells a) := by
  generalize hx : [v] = xs at h
  cases h with
  | bool b h => rw [hu] at h; cases h
  | int n h => rw [hu] at h; cases h
  | str s h => rw [hu] at h; cases h
  | nil h => cases hx; exact ⟨[], none, rfl, by simp, fun h => absurd rfl h⟩
  | @slice t' e' q n h hm vs hg hl hr =>
    cases hx
    rw [hu] at h
    cases h
    have hex : ∀ m, m ≤ n → ∃ l : List α, l.length = m ∧ ∀ i a, l[i]? = some a → (vs.drop (i * P.cellsOf e)).take (P.cellsOf e) = cells a := by
      intro m
      induction m with
      | zero => exact fun _ => ⟨[], rfl, fun i a h => by simp at h⟩
      | succ m ih =>
        intro hmn
        obtain ⟨l, h1, h2⟩ := ih (by omega)
        obtain ⟨a, ha⟩ := dec _ (hr m (by omega))
        refine ⟨l ++ [a], by simp [h1], fun i a' hi => ?_⟩
        rcases Nat.lt_or_ge i m with h3 | h3
        · rw [List.getElem?_append_left (by omega)] at hi; exact h2 i a' hi
        · rw [List.getElem?_append_right (by omega)] at hi
          have : i - l.length = 0 := by
            rcases Nat.eq_zero_or_pos (i - l.length) with h | h
            · exact h
            · rw [List.getElem?_eq_none (by simp; omega)] at hi; cases hi
          rw [this] at hi
          simp at hi
          subst hi
          rw [show i = m by omega]
          exact ha
    obtain ⟨l, h1, h2⟩ := hex n (Nat.le_refl _)
    refine ⟨l, some ⟨q, 0, none⟩, by rw [h1], by omega, fun hne => ?_⟩
    have hn0 : n ≠ 0 := by intro h0; apply hne; exact List.eq_nil_of_length_eq_zero (by omega)
    refine ⟨q, vs, rfl, ?_, by rw [h1]; exact hl, h2⟩
    rcases hg with h | h
    · exact absurd h hn0
    · simp [St.cells, h, Blk.cells]
  | struct h => rw [hu] at h; cases h
  | array h => rw [hu] at h; cases h
end
end Go.AM

namespace Go.AM
section
variable {α : Type}
@[simp] theorem asB_b (b : Bool) (K : Bool → Option α) : asB (.bool b) K = K b := id rfl
@[simp] theorem asI_i (k : IntKind) (n : Int) (K : Int → Option α) : asI k (.int k n) K = K n := by simp [asI]
@[simp] theorem asS_s (s : ByteArray) (K : ByteArray → Option α) : asS (.string s) K = K s := id rfl
@[simp] theorem asSl_s (a : Option Addr) (n z : Nat) (K : Option Addr → Nat → Nat → Option α) : asSl (.slice a n z) K = K a n z := id rfl
@[simp] theorem asP_p (a : Option Addr) (K : Option Addr → Option α) : asP (.pointer a) K = K a := id rfl
@[simp] theorem asT_t (A : Array Value) (K : List Value → Option α) : asT (.tuple A) K = K A.toList := id rfl
@[simp] theorem asAgL_a (A : Array Value) (K : List Value → Option α) : asAgL (.agg A) K = K A.toList := id rfl
@[simp] theorem uncons_c (x : Value) (l : List Value) (K : Value → List Value → Option α) : uncons (x :: l) K = K x l := id rfl
@[simp] theorem endl_n (K : Option α) : endl [] K = K := id rfl
@[simp] theorem asA_a (n : Nat) (A : Array Value) (K : List Value → Option α) : asA n (.agg A) K = need (Nat.beq A.toList.length n) (K A.toList) := rfl
@[simp] theorem adr_some (r o : Nat) (K : Nat → Nat → Option α) : adr (some ⟨r, o, none⟩) K = K r o := id rfl
@[simp] theorem need_true (K : Option α) : need true K = K := id rfl
@[simp] theorem br_true (x y : Option α) : br true x y = x := id rfl
@[simp] theorem br_false (x y : Option α) : br false x y = y := id rfl
@[simp] theorem bnd_some (v : Value) (σ : St) (K : Value → St → Option α) : bnd (some (v, σ)) K = K v σ := id rfl
@[simp] theorem chk_same (v : Value) (K : Option α) : chk v v K = K := by simp [chk]
end
theorem need_of {α : Type} {b : Bool} (h : b = true) (K : Option α) : need b K = K := by rw [h]; rfl
@[simp] theorem get_new_same (σ : St) (b : Blk) : (σ.new b).get σ.next = some b := by simp [St.new]
theorem get_new {σ : St} {b : Blk} {k : Nat} (h : k ≠ σ.next) : (σ.new b).get k = σ.get k := by simp [St.new, h]
@[simp] theorem next_new (σ : St) (b : Blk) : (σ.new b).next = σ.next + 1 := rfl
@[simp] theorem get_set_same (σ : St) (r : Nat) (b : Blk) : (σ.set r b).get r = some b := by simp [St.set]
theorem get_set {σ : St} {b : Blk} {k r : Nat} (h : k ≠ r) : (σ.set r b).get k = σ.get k := by simp [St.set, h]
@[simp] theorem next_set (σ : St) (r : Nat) (b : Blk) : (σ.set r b).next = σ.next := rfl
theorem get_del {σ : St} {k r : Nat} (h : k ≠ r) : (σ.del r).get k = σ.get k := by simp [St.del, h]
@[simp] theorem next_del (σ : St) (r : Nat) : (σ.del r).next = σ.next := rfl
theorem ld_own {σ : St} {r o : Nat} {vs : List Value} {e : TypeId} {v : Value} (K : Value → Res) (h : σ.get r = some (.own vs e)) (hv : vs[o]? = some v) : σ.ld r o K = K v := by
  simp [St.ld, St.cell, St.cells, h, Blk.cells, hv]
theorem ld_cells {σ : St} {r o : Nat} {vs : List Value} {v : Value} (K : Value → Res) (h : σ.cells r = some vs) (hv : vs[o]? = some v) : σ.ld r o K = K v := by
  simp [St.ld, St.cell, h, hv]
theorem lds_own {σ : St} {r o n : Nat} {vs : List Value} {e : TypeId} (K : List Value → Res) (h : σ.get r = some (.own vs e)) (hn : o + n ≤ vs.length) : σ.lds r o n K = K ((vs.drop o).take n) := by
  simp [St.lds, St.cells, h, Blk.cells, hn]
theorem lds_cells {σ : St} {r o n : Nat} {vs : List Value} (K : List Value → Res) (h : σ.cells r = some vs) (hn : o + n ≤ vs.length) : σ.lds r o n K = K ((vs.drop o).take n) := by
  simp [St.lds, h, hn]
theorem put_own {σ : St} {r o : Nat} {vs new : List Value} {e : TypeId} (K : St → Res) (h : σ.get r = some (.own vs e)) (hn : o + new.length ≤ vs.length) (h1 : new.all oneCell = true) : σ.put r o new K = K (σ.set r (.own (over vs o new) e)) := by
  simp only [St.put, h, hn, h1, and_self, if_true]
theorem wrap_in (n : Int) (h0 : -9223372036854775808 ≤ n) (h1 : n ≤ 9223372036854775807) : IntKind.wrap .i64 n = n := by
  rw [IntKind.wrap_i64]; omega
structure Row {α : Type} (cells : α → List Value) (sz : Nat) (e : TypeId) (σ : St) (ad : Option Addr) (z : Nat) (qs : List Nat) (l : List α) : Prop where
  lt : ∀ q ∈ qs, q < σ.next
  is : (ad = none ∧ l = [] ∧ z = 0 ∧ qs = []) ∨ ∃ q rest, qs = [q] ∧ ad = some ⟨q, 0, none⟩ ∧ z = sz ∧ σ.get q = some (.own (l.flatMap cells ++ rest) e)
def Same (σ σ' : St) (S : List Nat) : Prop := σ.next ≤ σ'.next ∧ ∀ k, k < σ.next → k ∉ S → σ'.get k = σ.get k
theorem Same.refl (σ : St) (S : List Nat) : Same σ σ S := ⟨Nat.le_refl _, fun _ _ _ => rfl⟩
theorem Same.trans {a b c : St} {S : List Nat} (h : Same a b S) (k : Same b c S) : Same a c S :=
  ⟨Nat.le_trans h.1 k.1, fun i hi hS => by rw [k.2 i (by have := h.1; omega) hS, h.2 i hi hS]⟩
theorem Same.mono {a b : St} {S T : List Nat} (h : Same a b S) (hs : ∀ k ∈ S, k ∈ T) : Same a b T := ⟨h.1, fun k hk hT => h.2 k hk (fun hS => hT (hs k hS))⟩
theorem Same.new (σ : St) (b : Blk) (S : List Nat) : Same σ (σ.new b) S := ⟨by simp, fun k hk _ => get_new (by omega)⟩
theorem Same.fresh {a b c : St} {S T : List Nat} (h : Same a b S) (k : Same b c T) (hT : ∀ x ∈ T, x ∈ S ∨ a.next ≤ x) : Same a c S :=
  ⟨Nat.le_trans h.1 k.1, fun i hi hS => by rw [k.2 i (by have := h.1; omega) (fun hx => by rcases hT i hx with h | h; exact hS h; omega), h.2 i hi hS]⟩
theorem flat_length {α : Type} (cells : α → List Value) (sz : Nat) (hc : ∀ a, (cells a).length = sz) : ∀ l : List α, (l.flatMap cells).length = l.length * sz
  | [] => by simp
  | a :: l => by simp [flat_length cells sz hc l, hc, Nat.add_mul, Nat.add_comm]
theorem flat_one {α : Type} (cells : α → List Value) (hc : ∀ a, (cells a).all oneCell = true) : ∀ l : List α, (l.flatMap cells).all oneCell = true
  | [] => rfl
  | a :: l => by rw [List.flatMap_cons, List.all_append, hc a, flat_one cells hc l]; rfl
theorem flat_get {α : Type} (cells : α → List Value) (sz : Nat) (hc : ∀ a, (cells a).length = sz) : ∀ (l : List α) (i j : Nat) (a : α), l[i]? = some a → j < sz → (l.flatMap cells)[i * sz + j]? = (cells a)[j]?
  | [], i, j, a, h, _ => by simp at h
  | x :: l, 0, j, a, h, hj => by
    simp at h; subst h
    rw [List.flatMap_cons, Nat.zero_mul, Nat.zero_add, List.getElem?_append_left (by rw [hc]; exact hj)]
  | x :: l, i + 1, j, a, h, hj => by
    rw [List.flatMap_cons, Nat.add_mul, Nat.one_mul, List.getElem?_append_right (by rw [hc]; omega), hc, show i * sz + sz + j - sz = i * sz + j by omega]
    exact flat_get cells sz hc l i j a (by simpa using h) hj
theorem grow_row {α : Type} {cells : α → List Value} {sz by_ : Nat} {e : TypeId} {σ : St} {ad : Option Addr} {z : Nat} {qs : List Nat} {l : List α} (hr : Row cells sz e σ ad z qs l) (hc : ∀ a, (cells a).length = sz) (h1 : ∀ a, (cells a).all oneCell = true) (hsz : 0 < sz)
    (news : List α) (vs : List Value) (hvs : vs = news.flatMap cells) (m : Nat) (hm : m = news.length) (hby : (l.length + m) * by_ ≤ roomTop) (htop : l.length + m ≤ sizeTop) :
    ∃ ad' z' qs' σ', (∀ K, grow e sz by_ ad l.length z m vs σ K = K ad' (l.length + m) z' σ') ∧ Row cells sz e σ' ad' z' qs' (l ++ news) ∧ Same σ σ' qs ∧ (∀ q ∈ qs', q ∈ qs ∨ σ.next ≤ q) := by
  subst hvs
  by_cases h0 : m = 0
  · have hn : news = [] := List.eq_nil_of_length_eq_zero (by omega)
    subst hn
    exact ⟨ad, z, qs, σ, fun K => by simp [grow, h0], by simpa using hr, Same.refl _ _, fun q hq => .inl hq⟩
  · have hcond : (l.length + m) * by_ ≤ roomTop ∧ l.length + m ≤ sizeTop ∧ 0 < sz ∧ (news.flatMap cells).all oneCell = true := ⟨hby, htop, hsz, flat_one cells h1 news⟩
    rcases hr.is with ⟨e1, e2, e3, e4⟩ | ⟨q, rest, e4, e1, e2, e3⟩
    · subst e1; subst e2
      refine ⟨some ⟨σ.next, 0, none⟩, sz, [σ.next], σ.new (.own (news.flatMap cells) e), fun K => ?_, ⟨by simp, .inr ⟨_, [], rfl, rfl, rfl, by simp⟩⟩, Same.new _ _ _, fun q hq => .inr (by simp at hq; omega)⟩
      simp only [grow, h0, if_false, hcond, if_true, and_self]
      simp
    · subst e1; subst e2; subst e4
      have hlen := flat_length cells _ hc l
      refine ⟨some ⟨σ.next, 0, none⟩, _, [σ.next], (σ.del q).new (.own ((l ++ news).flatMap cells) e), fun K => ?_, ⟨by simp, .inr ⟨_, [], rfl, rfl, rfl, ?_⟩⟩, ⟨by simp, fun k hk hS => ?_⟩, fun q hq => .inr (by simp at hq; omega)⟩
      · simp only [grow, h0, if_false, hcond, if_true, and_self, e3, Nat.zero_add, List.length_append, hlen, Nat.le_add_right, List.drop_zero, List.flatMap_append]
        rw [← hlen, List.take_left]
      · have := get_new_same (σ.del q) (.own ((l ++ news).flatMap cells) e)
        simpa using this
      · simp only [List.mem_singleton] at hS
        rw [get_new (by simp; omega), get_del hS]
theorem Row.same {α : Type} {cells : α → List Value} {sz : Nat} {e : TypeId} {σ σ' : St} {ad : Option Addr} {z : Nat} {qs : List Nat} {l : List α} {S : List Nat} (h : Row cells sz e σ ad z qs l) (hs : Same σ σ' S) (hq : ∀ q ∈ qs, q ∉ S) : Row cells sz e σ' ad z qs l :=
  ⟨fun q hq => by have := hs.1; have := h.lt q hq; omega, h.is.imp id (fun ⟨q, rest, e1, a, b, c⟩ => ⟨q, rest, e1, a, b, by rw [hs.2 q (h.lt q (by rw [e1]; simp)) (hq q (by rw [e1]; simp))]; exact c⟩)⟩
theorem Row.read {α : Type} {cells : α → List Value} {sz : Nat} {e : TypeId} {σ : St} {ad : Option Addr} {z : Nat} {qs : List Nat} {l : List α} (h : Row cells sz e σ ad z qs l) (hc : ∀ a, (cells a).length = sz) (n : Nat) (hn : n = l.length * sz) (K : List Value → Res) : σ.row ad n K = K (l.flatMap cells) := by
  subst hn
  rcases h.is with ⟨_, e2, _⟩ | ⟨q, rest, _, e1, _, e3⟩
  · subst e2; simp [St.row]
  · subst e1
    have hlen := flat_length cells sz hc l
    unfold St.row
    split
    · rename_i h0
      rw [h0] at hlen
      rw [List.eq_nil_of_length_eq_zero hlen]
    · rw [adr_some, lds_own _ e3 (by rw [List.length_append]; omega), List.drop_zero, ← hlen, List.take_left]
theorem Row.at {α : Type} {cells : α → List Value} {sz : Nat} {e : TypeId} {σ : St} {ad : Option Addr} {z : Nat} {qs : List Nat} {l : List α} (h : Row cells sz e σ ad z qs l) (hc : ∀ a, (cells a).length = sz) {i : Nat} {a : α} (hi : l[i]? = some a) :
    ∃ q, ad = some ⟨q, 0, none⟩ ∧ ∀ (j : Nat) (v : Value) (o : Nat), j < sz → (cells a)[j]? = some v → o = i * sz + j → ∀ K : Value → Res, σ.ld q o K = K v := by
  rcases h.is with ⟨_, e2, _⟩ | ⟨q, rest, _, e1, _, e3⟩
  · subst e2; simp at hi
  · exact ⟨q, e1, fun j v o hj hv ho K => ld_own K e3 (by
      have h1 := flat_get cells sz hc l i j a hi hj
      rw [hv] at h1
      rw [ho, List.getElem?_append_left (List.getElem?_eq_some_iff.1 h1).1]; exact h1)⟩
end Go.AM

namespace Go.AM
open Go.RowKit Go.ChangeShapes
def Kept' (B : Nat) (σ0 σ : St) : Prop := B ≤ σ.next ∧ ∀ k, k < B → σ.get k = σ0.get k
theorem Kept'.step {B : Nat} {σ0 σ σ' : St} {S : List Nat} (h : Kept' B σ0 σ) (hs : Same σ σ' S) (hS : ∀ x ∈ S, B ≤ x) : Kept' B σ0 σ' :=
  ⟨by have := h.1; have := hs.1; omega, fun k hk => by rw [hs.2 k (by have := h.1; omega) (fun hx => by have := hS k hx; omega), h.2 k hk]⟩
def Holds {α : Type} (σ : St) (sz : Nat) (cells : α → List Value) (ad : Option Addr) (l : List α) : Prop :=
  l ≠ [] → ∃ q vs, ad = some ⟨q, 0, none⟩ ∧ σ.cells q = some vs ∧ q < σ.next ∧ l.length * sz ≤ vs.length ∧ ∀ (i : Nat) (a : α), l[i]? = some a → ∀ j v, j < sz → (cells a)[j]? = some v → vs[i * sz + j]? = some v
theorem Holds.ld {α : Type} {σ0 σ : St} {sz : Nat} {cells : α → List Value} {ad : Option Addr} {l : List α} (h : Holds σ0 sz cells ad l) (hk : Kept' σ0.next σ0 σ) {i : Nat} {a : α} (hi : l[i]? = some a) :
    ∃ q, ad = some ⟨q, 0, none⟩ ∧ ∀ (j : Nat) (v : Value) (o : Nat), j < sz → (cells a)[j]? = some v → o = i * sz + j → ∀ K : Value → Res, σ.ld q o K = K v := by
  obtain ⟨q, vs, e, hc, hq, _, hg⟩ := h (fun h0 => by rw [h0] at hi; simp at hi)
  refine ⟨q, e, fun j v o hj hv ho K => ?_⟩
  refine ld_cells K (vs := vs) ?_ (by rw [ho]; exact hg i a hi j v hj hv)
  unfold St.cells at hc ⊢
  rw [hk.2 q hq]; exact hc
section
variable {P : Program}
theorem stOf_lt {ads : List Addr} {W : World} {q : Nat} {vs : List Value} (h : (stOf ads W).cells q = some vs) : q < (stOf ads W).next := by
  simp only [St.cells, stOf] at h
  cases hq : ads[q]? with
  | none => rw [hq] at h; simp at h
  | some a => exact (List.getElem?_eq_some_iff.1 hq).1
theorem Img.holds {α : Type} {ads : List Addr} {W : World} {t e : TypeId} {v : Value} {sz : Nat} (hu : P.underlying t = some (.slice e)) (h : Img P (stOf ads W) t [v]) (cells : α → List Value) (dec : ∀ row, Img P (stOf ads W) e row → ∃ a, row = cells a) (hz : ∀ a, (cells a).length = sz) (hc : P.cellsOf e = sz) :
    ∃ (l : List α) (ad : Option Addr), v = .slice ad l.length 0 ∧ l.length ≤ maxLen ∧ Holds (stOf ads W) sz cells ad l := by
  obtain ⟨l, ad, h1, h2, h3⟩ := h.list hu cells dec (fun a => by rw [hz, hc])
  refine ⟨l, ad, h1, h2, fun hne => ?_⟩
  obtain ⟨q, vs, g1, g2, g3, g4⟩ := h3 hne
  rw [hc] at g3 g4
  refine ⟨q, vs, g1, g2, stOf_lt g2, g3, fun i a hi j w hj hw => ?_⟩
  have h5 := g4 i a hi
  have h6 : (((vs.drop (i * sz)).take sz))[j]? = some w := by rw [h5]; exact hw
  rw [List.getElem?_take, if_pos hj, List.getElem?_drop] at h6
  exact h6
theorem Img.int_inv {σ : St} {t : TypeId} {k : IntKind} {row : List Value} (hu : P.underlying t = some (.int k)) (h : Img P σ t row) : ∃ n, row = [.int k n] ∧ (Lit.int k n).wf = true := by
  cases h with
  | bool b h => rw [hu] at h; cases h
  | int n h hw => rw [hu] at h; cases h; exact ⟨n, rfl, hw⟩
  | str s h => rw [hu] at h; cases h
  | nil h => rw [hu] at h; cases h
  | slice h => rw [hu] at h; cases h
  | struct h => rw [hu] at h; cases h
  | array h => rw [hu] at h; cases h
theorem Img.bool_inv {σ : St} {t : TypeId} {row : List Value} (hu : P.underlying t = some .bool) (h : Img P σ t row) : ∃ b, row = [.bool b] := by
  cases h with
  | bool b h => exact ⟨b, rfl⟩
  | int n h hw => rw [hu] at h; cases h
  | str s h => rw [hu] at h; cases h
  | nil h => rw [hu] at h; cases h
  | slice h => rw [hu] at h; cases h
  | struct h => rw [hu] at h; cases h
  | array h => rw [hu] at h; cases h
theorem Img.str_inv {σ : St} {t : TypeId} {row : List Value} (hu : P.underlying t = some .string) (h : Img P σ t row) : ∃ s, row = [.string s] ∧ s.size ≤ maxLen := by
  cases h with
  | bool b h => rw [hu] at h; cases h
  | int n h hw => rw [hu] at h; cases h
  | str s h hs => exact ⟨s, rfl, hs⟩
  | nil h => rw [hu] at h; cases h
  | slice h => rw [hu] at h; cases h
  | struct h => rw [hu] at h; cases h
  | array h => rw [hu] at h; cases h
theorem Img.struct_inv {σ : St} {t : TypeId} {fs : Array Field} {row : List Value} (hu : P.underlying t = some (.struct fs)) (h : Img P σ t row) : row.length = P.cellsOf t ∧ ∀ f ∈ fs.toList, Img P σ f.type ((row.drop f.offset).take (P.cellsOf f.type)) := by
  cases h with
  | bool b h => rw [hu] at h; cases h
  | int n h hw => rw [hu] at h; cases h
  | str s h => rw [hu] at h; cases h
  | nil h => rw [hu] at h; cases h
  | slice h => rw [hu] at h; cases h
  | struct h hl hf => rw [hu] at h; cases h; exact ⟨hl, hf⟩
  | array h => rw [hu] at h; cases h
theorem ends [Laid] {env : FuncId → Def} (henv : EnvOK P env) {L n : Nat} {f : FuncId} {ads : List Addr} {W : World} {args args' : List Value} {σ' : St} (h : evCall P env L n f args (stOf ads W) = some (.bool true, σ')) (hl : LRel (mpOf ads) args args') (hI : Laid.I W := by trivial) :
    Calls P f args'.toArray W fun e W' => e = .returned (.bool true) ∧ Below W.heap.size W W' := by
  refine Calls.mono ((call_sound henv n f args (stOf ads W) (.bool true) σ' h).2 (Base.of W) (mpOf ads) W args' hl (rel_stOf ads W hI)) (fun e W' he => ?_)
  cases e with
  | returned v' =>
    obtain ⟨μ', _, h2, h3⟩ := he
    rw [h2.bool_inv]
    exact ⟨rfl, h3.below⟩
  | panicked ch => exact he.elim
  | outgrown => exact he.elim
end
end Go.AM

namespace Go.AM
def c1 (n : Int) : List Value := [.int .i64 n]
theorem c1_len (n : Int) : (c1 n).length = 1 := rfl
theorem c1_one (n : Int) : (c1 n).all oneCell = true := rfl
theorem row_one {σ : St} {b : Nat} {v : Value} {e : TypeId} (h : σ.get b = some (.own [v] e)) (K : List Value → Res) : σ.row (some ⟨b, 0, none⟩) 1 K = K [v] := by
  simp only [St.row, adr_some]
  rw [if_neg (by omega), lds_own _ h (by simp)]
  rfl
@[simp] theorem eqNil_nil {α : Type} (K : Bool → Option α) : eqNil .nilIface K = K true := id rfl
@[simp] theorem eqNil_iface {α : Type} (t : TypeId) (v : Value) (K : Bool → Option α) : eqNil (.iface t v) K = K false := id rfl
theorem Row.lds {α : Type} {cells : α → List Value} {sz : Nat} {e : TypeId} {σ : St} {ad : Option Addr} {z : Nat} {qs : List Nat} {l : List α} (h : Row cells sz e σ ad z qs l) (hc : ∀ a, (cells a).length = sz) {i : Nat} {a : α} (hi : l[i]? = some a) :
    ∃ q, ad = some ⟨q, 0, none⟩ ∧ ∀ (o : Nat), o = i * sz → ∀ K : List Value → Res, σ.lds q o sz K = K (cells a) := by
  rcases h.is with ⟨_, e2, _⟩ | ⟨q, rest, _, e1, _, e3⟩
  · subst e2; simp at hi
  · refine ⟨q, e1, fun o ho K => ?_⟩
    have hlt := (List.getElem?_eq_some_iff.1 hi).1
    have hlen := flat_length cells sz hc l
    have hm : (i + 1) * sz ≤ l.length * sz := Nat.mul_le_mul_right _ hlt
    rw [Nat.add_mul] at hm
    rw [lds_own _ e3 (by rw [List.length_append]; omega), ho]
    congr 1
    apply List.ext_getElem?
    intro j
    rw [List.getElem?_take]
    by_cases hj : j < sz
    · rw [if_pos hj, List.getElem?_drop, List.getElem?_append_left (by omega), flat_get cells sz hc l i j a hi hj]
    · rw [if_neg hj, List.getElem?_eq_none (by rw [hc]; omega)]
end Go.AM

namespace Go.AM
structure Owns (σ0 σ : St) (Fs : List (List Nat)) : Prop where
  kept : Kept' σ0.next σ0 σ
  own : ∀ F ∈ Fs, ∀ q ∈ F, σ0.next ≤ q ∧ q < σ.next
  dis : ∀ (i j : Nat) F G, i ≠ j → Fs[i]? = some F → Fs[j]? = some G → ∀ q ∈ F, q ∉ G
section
variable {σ0 σ σ' : St} {Fs : List (List Nat)} {F F' G : List Nat}
theorem Owns.start (σ0 : St) : Owns σ0 σ0 [] := ⟨⟨Nat.le_refl _, fun _ _ => rfl⟩, by simp, by simp⟩
theorem Owns.idle (h : Owns σ0 σ Fs) (hs : Same σ σ' []) : Owns σ0 σ' Fs :=
  ⟨h.kept.step hs (by simp), fun F hF q hq => by have := h.own F hF q hq; have := hs.1; omega, h.dis⟩
theorem Owns.off (h : Owns σ0 σ Fs) (i j : Nat) (hij : i ≠ j) (hi : Fs[i]? = some F) (hj : Fs[j]? = some G) : ∀ q ∈ F, q ∉ G := h.dis i j F G hij hi hj
theorem Owns.lt (h : Owns σ0 σ Fs) (i : Nat) (hi : Fs[i]? = some F) : ∀ q ∈ F, q < σ.next := fun q hq => (h.own F (List.mem_of_getElem? hi) q hq).2
theorem Owns.turn (h : Owns σ0 σ Fs) (i : Nat) (hi : Fs[i]? = some F) (hs : Same σ σ' F) (hq : ∀ q ∈ F', (q ∈ F ∨ σ.next ≤ q) ∧ q < σ'.next) : Owns σ0 σ' (Fs.set i F') := by
  have hF := List.mem_of_getElem? hi
  have hlen := (List.getElem?_eq_some_iff.1 hi).1
  have hn := hs.1
  have h0 := h.kept.1
  refine ⟨h.kept.step hs (fun x hx => (h.own F hF x hx).1), fun G hG q hG' => ?_, fun a b A B hab ha hb q hA hB => ?_⟩
  · rcases List.mem_or_eq_of_mem_set hG with hG | rfl
    · have := h.own G hG q hG'; omega
    · obtain ⟨h1, h2⟩ := hq q hG'
      rcases h1 with h1 | h1
      · have := h.own F hF q h1; omega
      · omega
  · rw [List.getElem?_set] at ha hb
    by_cases hia : i = a
    · by_cases hib : i = b
      · omega
      · rw [if_pos hia, if_pos (by omega)] at ha
        rw [if_neg hib] at hb
        cases ha
        rcases (hq q hA).1 with h1 | h1
        · exact h.dis i b F B hib hi hb q h1 hB
        · have := h.own B (List.mem_of_getElem? hb) q hB; omega
    · rw [if_neg hia] at ha
      by_cases hib : i = b
      · rw [if_pos hib, if_pos (by omega)] at hb
        cases hb
        rcases (hq q hB).1 with h1 | h1
        · exact h.dis a i A F (fun h => hia h.symm) ha hi q hA h1
        · have := h.own A (List.mem_of_getElem? ha) q hA; omega
      · rw [if_neg hib] at hb
        exact h.dis a b A B hab ha hb q hA hB
theorem Owns.more (h : Owns σ0 σ Fs) (hs : Same σ σ' []) (hq : ∀ q ∈ F, σ.next ≤ q ∧ q < σ'.next) : Owns σ0 σ' (F :: Fs) := by
  have hn := hs.1
  have h0 := h.kept.1
  refine ⟨h.kept.step hs (by simp), fun G hG q hG' => ?_, fun a b A B hab ha hb q hA hB => ?_⟩
  · rcases List.mem_cons.1 hG with rfl | hG
    · have := hq q hG'; omega
    · have := h.own G hG q hG'; omega
  · cases a with
    | zero =>
      cases b with
      | zero => omega
      | succ b =>
        simp at ha hb; subst ha
        have := hq q hA
        have := h.own B (List.mem_of_getElem? hb) q hB
        omega
    | succ a =>
      simp at ha
      cases b with
      | zero =>
        simp at hb; subst hb
        have := hq q hB
        have := h.own A (List.mem_of_getElem? ha) q hA
        omega
      | succ b => simp at hb; exact h.dis a b A B (by omega) ha hb q hA hB
theorem Owns.forget (h : Owns σ0 σ (F :: Fs)) : Owns σ0 σ Fs :=
  ⟨h.kept, fun G hG => h.own G (List.mem_cons_of_mem _ hG), fun i j A B hij ha hb => h.dis (i + 1) (j + 1) A B (by omega) (by simpa using ha) (by simpa using hb)⟩
theorem Owns.swap (h : Owns σ0 σ (F :: G :: Fs)) : Owns σ0 σ (G :: F :: Fs) := by
  refine ⟨h.kept, fun A hA => h.own A (by
    simp only [List.mem_cons] at hA ⊢
    rcases hA with h | h | h
    · exact .inr (.inl h)
    · exact .inl h
    · exact .inr (.inr h)), fun i j A B hij ha hb => ?_⟩
  have key : ∀ k, ∃ k', (G :: F :: Fs)[k]? = (F :: G :: Fs)[k']? ∧ (k = 0 → k' = 1) ∧ (k = 1 → k' = 0) ∧ (2 ≤ k → k' = k) := fun k => by
    match k with
    | 0 => exact ⟨1, rfl, by omega, by omega, by omega⟩
    | 1 => exact ⟨0, rfl, by omega, by omega, by omega⟩
    | k + 2 => exact ⟨k + 2, rfl, by omega, by omega, by omega⟩
  obtain ⟨i', e1, a1, a2, a3⟩ := key i
  obtain ⟨j', e2, b1, b2, b3⟩ := key j
  exact h.dis i' j' A B (by omega) (by rw [← e1]; exact ha) (by rw [← e2]; exact hb)
end
theorem Row.part {α : Type} {cells : α → List Value} {sz : Nat} {e : TypeId} {σ : St} {ad : Option Addr} {z : Nat} {qs : List Nat} {l : List α} (h : Row cells sz e σ ad z qs l) (hc : ∀ a, (cells a).length = sz) (i m : Nat) (him : i + m ≤ l.length) (o n : Nat) (ho : o = i * sz) (hn : n = m * sz) (K : List Value → Res) :
    σ.row (subA ad o) n K = K (((l.drop i).take m).flatMap cells) := by
  subst ho hn
  have h2 := flat_length cells sz hc ((l.drop i).take m)
  rw [List.length_take, List.length_drop, Nat.min_eq_left (by omega)] at h2
  unfold St.row
  split
  · rename_i h0
    rw [h0] at h2
    rw [List.eq_nil_of_length_eq_zero h2]
  · rename_i h0
    rcases h.is with ⟨e1, e2, _⟩ | ⟨q, rest, _, e1, _, e3⟩
    · subst e2; simp at him; rw [him.2] at h0; simp at h0
    · subst e1
      have hlen := flat_length cells sz hc l
      have hm : i * sz + m * sz ≤ l.length * sz := by rw [← Nat.add_mul]; exact Nat.mul_le_mul_right _ him
      have h3 := flat_length cells sz hc (l.take i)
      rw [List.length_take, Nat.min_eq_left (by omega)] at h3
      have h4 := flat_length cells sz hc (l.drop i)
      rw [List.length_drop, Nat.sub_mul] at h4
      simp only [subA, Nat.zero_add]
      rw [adr_some, lds_own _ e3 (by rw [List.length_append]; omega)]
      congr 1
      have e5 : l.flatMap cells = (l.take i).flatMap cells ++ (((l.drop i).take m).flatMap cells ++ ((l.drop i).drop m).flatMap cells) := by
        rw [← List.flatMap_append, ← List.flatMap_append, List.take_append_drop, List.take_append_drop]
      rw [e5, List.append_assoc, ← h3, List.drop_left, List.append_assoc, ← h2, List.take_left]
section
variable {σ σ' : St} {b : Nat} {cs : List Int} {e : TypeId}
end
end Go.AM

namespace Go.AM
theorem row_all {σ : St} {b n : Nat} {vs : List Value} {e : TypeId} (h : σ.get b = some (.own vs e)) (hn : n = vs.length) (h0 : n ≠ 0) (K : List Value → Res) : σ.row (some ⟨b, 0, none⟩) n K = K vs := by
  simp only [St.row, adr_some]
  rw [if_neg h0, lds_own _ h (by omega), List.drop_zero, hn, List.take_length]
theorem lds_all {σ : St} {b n : Nat} {vs : List Value} {e : TypeId} (h : σ.get b = some (.own vs e)) (hn : n = vs.length) (K : List Value → Res) : σ.lds b 0 n K = K vs := by
  rw [lds_own _ h (by omega), List.drop_zero, hn, List.take_length]
theorem put_all {σ : St} {b : Nat} {vs ws : List Value} {e : TypeId} (h : σ.get b = some (.own vs e)) (hn : ws.length = vs.length) (h1 : ws.all oneCell = true) (K : St → Res) : σ.put b 0 ws K = K (σ.set b (.own ws e)) := by
  rw [put_own _ h (by omega) h1]
  simp [over, hn]
structure Turn (σ σ' : St) (F F' : List Nat) : Prop where
  same : Same σ σ' F
  sub : ∀ q ∈ F', (q ∈ F ∨ σ.next ≤ q) ∧ q < σ'.next
theorem Turn.idle {σ σ' : St} {F : List Nat} (hs : Same σ σ' []) (hF : ∀ q ∈ F, q < σ.next) : Turn σ σ' F F :=
  ⟨hs.mono (by simp), fun q hq => ⟨.inl hq, by have := hF q hq; have := hs.1; omega⟩⟩
theorem Turn.trans {a b c : St} {F G H : List Nat} (h : Turn a b F G) (k : Turn b c G H) : Turn a c F H :=
  ⟨h.same.fresh k.same (fun x hx => (h.sub x hx).1), fun q hq => by
    obtain ⟨h1, h2⟩ := k.sub q hq
    refine ⟨?_, h2⟩
    rcases h1 with h1 | h1
    · exact (h.sub q h1).1
    · exact .inr (by have := h.same.1; omega)⟩
theorem Turn.after {a b c : St} {F G : List Nat} (h : Turn a b F G) (k : Same b c []) : Turn a c F G :=
  h.trans (.idle k (fun q hq => (h.sub q hq).2))
theorem Turn.before {a b c : St} {F G : List Nat} (h : Same a b []) (k : Turn b c F G) (hF : ∀ q ∈ F, q < a.next) : Turn a c F G :=
  (Turn.idle h hF).trans k
theorem Owns.turned {σ0 σ σ' : St} {Fs : List (List Nat)} {F F' : List Nat} (h : Owns σ0 σ Fs) (i : Nat) (hi : Fs[i]? = some F) (ht : Turn σ σ' F F') : Owns σ0 σ' (Fs.set i F') := h.turn i hi ht.same ht.sub
def Ends (Q : Value → St → Prop) (r : Res) : Prop := ∃ v σ, r = some (v, σ) ∧ Q v σ
theorem Ends.br {Q : Value → St → Prop} {b : Bool} {x y : Res} (hx : b = true → Ends Q x) (hy : b = false → Ends Q y) : Ends Q (br b x y) := by
  cases b
  · exact hy rfl
  · exact hx rfl
theorem Ends.leaf {Q : Value → St → Prop} {v : Value} {σ : St} (h : Q v σ) : Ends Q (some (v, σ)) := ⟨v, σ, rfl, h⟩
theorem ld_at {σ : St} {r : Nat} {vs : List Value} {e : TypeId} (h : σ.get r = some (.own vs e)) (o : Nat) (v : Value) (hv : vs[o]? = some v) (K : Value → Res) : σ.ld r o K = K v := ld_own K h hv
theorem put_at {σ : St} {r : Nat} {vs : List Value} {e : TypeId} (h : σ.get r = some (.own vs e)) (o : Nat) (v : Value) (ho : o < vs.length) (h1 : oneCell v = true) (K : St → Res) : σ.put r o [v] K = K (σ.set r (.own (vs.set o v) e)) := by
  rw [put_own _ h (by simp; omega) (by simp [h1])]
  congr 3
  unfold over
  rw [List.set_eq_take_append_cons_drop, if_pos ho]
  simp
theorem put_int {σ : St} {r : Nat} {vs : List Value} {e : TypeId} (h : σ.get r = some (.own vs e)) (o : Nat) (k : IntKind) (n : Int) (ho : o < vs.length) (K : St → Res) : σ.put r o [.int k n] K = K (σ.set r (.own (vs.set o (.int k n)) e)) := put_at h o _ ho rfl K
theorem put_sl {σ : St} {r : Nat} {vs : List Value} {e : TypeId} (h : σ.get r = some (.own vs e)) (o : Nat) (a : Option Addr) (n z : Nat) (ho : o < vs.length) (K : St → Res) : σ.put r o [.slice a n z] K = K (σ.set r (.own (vs.set o (.slice a n z)) e)) := put_at h o _ ho rfl K
theorem put_bool {σ : St} {r : Nat} {vs : List Value} {e : TypeId} (h : σ.get r = some (.own vs e)) (o : Nat) (b : Bool) (ho : o < vs.length) (K : St → Res) : σ.put r o [.bool b] K = K (σ.set r (.own (vs.set o (.bool b)) e)) := put_at h o _ ho rfl K
theorem Row.take {α : Type} {cells : α → List Value} {sz : Nat} {e : TypeId} {σ : St} {ad : Option Addr} {z : Nat} {qs : List Nat} {l : List α} (h : Row cells sz e σ ad z qs l) (n : Nat) : Row cells sz e σ ad z qs (l.take n) := by
  refine ⟨h.lt, ?_⟩
  rcases h.is with ⟨e1, e2, e3, e4⟩ | ⟨q, rest, e1, e2, e3, e4⟩
  · exact .inl ⟨e1, by rw [e2]; simp, e3, e4⟩
  · refine .inr ⟨q, (l.drop n).flatMap cells ++ rest, e1, e2, e3, ?_⟩
    rw [← List.append_assoc, ← List.flatMap_append, List.take_append_drop]; exact e4
theorem Row.sub0 {α : Type} {cells : α → List Value} {sz : Nat} {e : TypeId} {σ : St} {ad : Option Addr} {z : Nat} {qs : List Nat} {l : List α} (h : Row cells sz e σ ad z qs l) : subA ad 0 = ad := by
  rcases h.is with ⟨e1, _⟩ | ⟨q, rest, _, e2, _⟩
  · rw [e1]; rfl
  · rw [e2]; rfl
theorem Row.z {α : Type} {cells : α → List Value} {sz : Nat} {e : TypeId} {σ : St} {ad : Option Addr} {z : Nat} {qs : List Nat} {l : List α} (h : Row cells sz e σ ad z qs l) : z = 0 ∨ z = sz := by
  rcases h.is with ⟨_, _, e, _⟩ | ⟨_, _, _, _, e, _⟩
  · exact .inl e
  · exact .inr e
theorem Row.nil {α : Type} (cells : α → List Value) (sz : Nat) (e : TypeId) (σ : St) : Row cells sz e σ none 0 [] [] := ⟨by simp, .inl ⟨rfl, rfl, rfl, rfl⟩⟩
theorem Same.set (σ : St) (r : Nat) (b : Blk) : Same σ (σ.set r b) [r] := ⟨by simp, fun k _ hS => get_set (by simpa using hS)⟩
theorem Holds.lds {α : Type} {σ0 σ : St} {sz : Nat} {cells : α → List Value} {ad : Option Addr} {l : List α} (h : Holds σ0 sz cells ad l) (hk : Kept' σ0.next σ0 σ) (hc : ∀ a, (cells a).length = sz) {i : Nat} {a : α} (hi : l[i]? = some a) :
    ∃ q, ad = some ⟨q, 0, none⟩ ∧ ∀ (off n o : Nat), off + n ≤ sz → o = i * sz + off → ∀ K : List Value → Res, σ.lds q o n K = K (((cells a).drop off).take n) := by
  obtain ⟨hil, _⟩ := List.getElem?_eq_some_iff.1 hi
  obtain ⟨q, vs, e, hcs, hq, hv, hg⟩ := h (List.ne_nil_of_length_pos (by omega))
  refine ⟨q, e, fun off n o hn ho K => ?_⟩
  have hcs' : σ.cells q = some vs := by
    unfold St.cells at hcs ⊢
    rw [hk.2 q hq]; exact hcs
  have hm : (i + 1) * sz ≤ l.length * sz := Nat.mul_le_mul_right _ hil
  rw [Nat.add_mul] at hm
  rw [lds_cells K hcs' (by omega)]
  congr 1
  apply List.ext_getElem?
  intro j
  rw [List.getElem?_take, List.getElem?_take]
  by_cases hj : j < n
  · rw [if_pos hj, if_pos hj, List.getElem?_drop, List.getElem?_drop]
    obtain ⟨v, hv'⟩ : ∃ v, (cells a)[off + j]? = some v := ⟨_, List.getElem?_eq_getElem (by rw [hc]; omega)⟩
    rw [hv', ho, Nat.add_assoc]
    exact hg i a hi (off + j) v (by omega) hv'
  · rw [if_neg hj, if_neg hj]
theorem tmp_put (σ : St) (vs ws : List Value) (e : TypeId) (hn : ws.length = vs.length) (h1 : ws.all oneCell = true) :
    ∃ σ', (∀ K : St → Res, (σ.new (.own vs e)).put σ.next 0 ws K = K σ') ∧ σ'.get σ.next = some (.own ws e) ∧ Same σ σ' [] ∧ σ'.next = σ.next + 1 :=
  ⟨_, fun K => put_all (get_new_same σ _) hn h1 K, get_set_same _ _ _, ⟨by simp, fun k hk _ => by rw [get_set (by omega), get_new (by omega)]⟩, rfl⟩
theorem toList2 (x y : Value) : (#[x, y] : Array Value).toList = [x, y] := rfl
theorem toList0 : (#[] : Array Value).toList = [] := rfl
theorem not_true : (!true) = false := rfl
theorem not_false : (!false) = true := rfl
end Go.AM

namespace Go.AM
theorem set_new (σ : St) (b b' : Blk) : (σ.new b).set σ.next b' = σ.new b' := by
  simp only [St.new, St.set, St.mk.injEq, and_true]
  funext k
  by_cases h : k = σ.next
  · simp [h]
  · simp [h]
theorem tmp_put2 (σ : St) (vs ws : List Value) (e : TypeId) (hn : ws.length = vs.length) (h1 : ws.all oneCell = true) (K : St → Res) : (σ.new (.own vs e)).put σ.next 0 ws K = K (σ.new (.own ws e)) := by
  rw [put_all (get_new_same _ _) hn h1, set_new]
def by8 (l : List UInt8) : List Value := l.map fun b => .int .u8 (b.toNat : Int)
theorem by8_len (l : List UInt8) : (by8 l).length = l.length := by simp [by8]
theorem by8_one (l : List UInt8) : (by8 l).all oneCell = true := by
  simp only [by8, List.all_map, List.all_eq_true]
  exact fun _ _ => rfl
theorem by8_take (l : List UInt8) (n : Nat) : (by8 l).take n = by8 (l.take n) := by simp [by8]
theorem by8_drop (l : List UInt8) (n : Nat) : (by8 l).drop n = by8 (l.drop n) := by simp [by8]
theorem byteCells_by8 (s : ByteArray) : byteCells s = by8 s.data.toList := rfl
theorem bytesIn_by8 : ∀ l : List UInt8, bytesIn (by8 l) = some l
  | [] => rfl
  | b :: l => by
    have := bytesIn_by8 l
    simp only [by8] at this
    simp [by8, bytesIn, this]
theorem asBy_by8 (l : List UInt8) (K : List UInt8 → Res) : asBy (by8 l) K = K l := by
  unfold asBy; rw [bytesIn_by8]
theorem by8_get {l : List UInt8} {i : Nat} {b : UInt8} (h : l[i]? = some b) : (by8 l)[i]? = some (.int .u8 (b.toNat : Int)) := by
  unfold by8; rw [List.getElem?_map, h]; rfl
structure Bytes (σ : St) (ad : Option Addr) (l : List UInt8) (F : List Nat) : Prop where
  is : l = [] ∨ ∃ r o vs, ad = some ⟨r, o, none⟩ ∧ σ.cells r = some vs ∧ o + l.length ≤ vs.length ∧ (vs.drop o).take l.length = by8 l ∧ r ∈ F
  lt : ∀ q ∈ F, q < σ.next
theorem Bytes.same {σ σ' : St} {ad : Option Addr} {l : List UInt8} {F S : List Nat} (h : Bytes σ ad l F) (hs : Same σ σ' S) (hF : ∀ q ∈ F, q ∉ S) : Bytes σ' ad l F :=
  ⟨h.is.imp id fun ⟨r, o, vs, e1, e2, e3, e4, e5⟩ => ⟨r, o, vs, e1, by unfold St.cells at e2 ⊢; rw [hs.2 r (h.lt r e5) (hF r e5)]; exact e2, e3, e4, e5⟩, fun q hq => by have := h.lt q hq; have := hs.1; omega⟩
theorem Bytes.lds {σ : St} {ad : Option Addr} {l : List UInt8} {F : List Nat} (h : Bytes σ ad l F) {m : Nat} (hm : m ≤ l.length) (h0 : m ≠ 0) : ∃ r o, ad = some ⟨r, o, none⟩ ∧ ∀ K : List Value → Res, σ.lds r o m K = K (by8 (l.take m)) := by
  rcases h.is with e | ⟨r, o, vs, e1, e2, e3, e4, _⟩
  · subst e; simp at hm; exact absurd hm h0
  · refine ⟨r, o, e1, fun K => ?_⟩
    rw [lds_cells K e2 (by omega)]
    congr 1
    rw [← by8_take, ← e4, List.take_take, Nat.min_eq_left hm]
theorem Bytes.row {σ : St} {ad : Option Addr} {l : List UInt8} {F : List Nat} (h : Bytes σ ad l F) (n : Nat) (hn : n = l.length) (K : List Value → Res) : σ.row ad n K = K (by8 l) := by
  subst hn
  unfold St.row
  by_cases h0 : l.length = 0
  · rw [if_pos h0, List.eq_nil_of_length_eq_zero h0]; rfl
  · obtain ⟨r, o, e, h1⟩ := h.lds (Nat.le_refl _) h0
    rw [if_neg h0, e, adr_some, h1, List.take_length]
theorem Bytes.at {σ : St} {ad : Option Addr} {l : List UInt8} {F : List Nat} (h : Bytes σ ad l F) {i : Nat} {b : UInt8} (hi : l[i]? = some b) : ∃ r o, ad = some ⟨r, o, none⟩ ∧ ∀ (p : Nat), p = o + i → ∀ K : Value → Res, σ.ld r p K = K (.int .u8 (b.toNat : Int)) := by
  obtain ⟨hil, _⟩ := List.getElem?_eq_some_iff.1 hi
  rcases h.is with e | ⟨r, o, vs, e1, e2, e3, e4, _⟩
  · subst e; simp at hi
  · refine ⟨r, o, e1, fun p hp K => ld_cells K e2 ?_⟩
    have h1 := by8_get hi
    rw [← e4, List.getElem?_take, if_pos hil, List.getElem?_drop, ← hp] at h1
    exact h1
theorem Bytes.own {σ : St} {r : Nat} {l : List UInt8} {e : TypeId} (h : σ.get r = some (.own (by8 l) e)) (hr : r < σ.next) : Bytes σ (some ⟨r, 0, none⟩) l [r] :=
  ⟨.inr ⟨r, 0, by8 l, rfl, by simp [St.cells, h, Blk.cells], by rw [by8_len]; omega, by rw [List.drop_zero, ← by8_len, List.take_length], by simp⟩, by simpa using hr⟩
theorem cpy_spec {σ : St} {ad : Option Addr} {l : List UInt8} {F : List Nat} (h : Bytes σ ad l F) {t o m : Nat} {vs : List Value} {e : TypeId} (ht : σ.get t = some (.own vs e)) (hm : m ≤ l.length) (hfit : o + m ≤ vs.length) :
    ∃ σ', (∀ K : St → Res, cpy 1 (some ⟨t, o, none⟩) ad m σ K = K σ') ∧ σ'.get t = some (.own (over vs o (by8 (l.take m))) e) ∧ Same σ σ' [t] ∧ σ'.next = σ.next := by
  by_cases h0 : m = 0
  · subst h0
    refine ⟨σ, fun K => by unfold cpy; rw [if_pos (by simp)], ?_, Same.refl _ _, rfl⟩
    rw [ht]
    simp [over, by8]
  · obtain ⟨r, p, e1, h1⟩ := h.lds hm h0
    have hl : (by8 (l.take m)).length = m := by rw [by8_len, List.length_take]; omega
    refine ⟨σ.set t (.own (over vs o (by8 (l.take m))) e), fun K => ?_, get_set_same _ _ _, Same.set _ _ _, rfl⟩
    unfold cpy
    rw [if_neg (by omega), e1, adr_some, Nat.mul_one, h1, adr_some, put_own _ ht (by rw [hl]; exact hfit) (by8_one _)]
section
variable {α : Type} {cells : α → List Value} {sz : Nat} {e : TypeId} {σ : St} {ad : Option Addr} {z : Nat} {qs : List Nat} {l : List α}
theorem over_flat (hc : ∀ a, (cells a).length = sz) (rest : List Value) {i : Nat} (hi : i < l.length) (a : α) : over (l.flatMap cells ++ rest) (i * sz) (cells a) = (l.set i a).flatMap cells ++ rest := by
  have h1 := flat_length cells sz hc (l.take i)
  rw [List.length_take, Nat.min_eq_left (by omega)] at h1
  have h2 : l = l.take i ++ l[i] :: l.drop (i + 1) := by rw [← List.drop_eq_getElem_cons hi, List.take_append_drop]
  unfold over
  rw [List.set_eq_take_append_cons_drop, if_pos hi]
  conv => lhs; rw [h2]
  rw [List.flatMap_append, List.flatMap_append, List.flatMap_cons, List.flatMap_cons, hc, ← h1]
  rw [List.append_assoc, List.append_assoc, List.take_left, List.append_assoc, List.drop_append, List.drop_of_length_le (by omega), List.nil_append, Nat.add_sub_cancel_left, ← hc l[i], List.drop_left]
  simp
theorem Row.put (h : Row cells sz e σ ad z qs l) (hc : ∀ a, (cells a).length = sz) (h1 : ∀ a, (cells a).all oneCell = true) {i : Nat} (hi : i < l.length) (a : α) :
    ∃ q σ', qs = [q] ∧ ad = some ⟨q, 0, none⟩ ∧ (∀ o, o = i * sz → ∀ K : St → Res, σ.put q o (cells a) K = K σ') ∧ Row cells sz e σ' ad z qs (l.set i a) ∧ Same σ σ' qs ∧ σ'.next = σ.next := by
  rcases h.is with ⟨_, e2, _⟩ | ⟨q, rest, e0, e1, e2, e3⟩
  · subst e2; simp at hi
  · have hlen := flat_length cells sz hc l
    have hm : (i + 1) * sz ≤ l.length * sz := Nat.mul_le_mul_right _ hi
    rw [Nat.add_mul] at hm
    refine ⟨q, σ.set q (.own (over (l.flatMap cells ++ rest) (i * sz) (cells a)) e), e0, e1, fun o ho K => ?_, ⟨by simpa using h.lt, .inr ⟨q, rest, e0, e1, e2, ?_⟩⟩, by rw [e0]; exact Same.set _ _ _, rfl⟩
    · subst ho
      exact put_own K e3 (by rw [List.length_append, hc]; omega) (h1 a)
    · rw [get_set_same, over_flat hc rest hi]
end
theorem zerosN_flat {α : Type} (cells : α → List Value) (a : α) : ∀ n : Nat, zerosN (cells a) n = (List.replicate n a).flatMap cells
  | 0 => rfl
  | n + 1 => by rw [zerosN, zerosN_flat cells a n, List.replicate_succ, List.flatMap_cons]
theorem zerosN_one (v : Value) : ∀ n : Nat, zerosN [v] n = List.replicate n v
  | 0 => rfl
  | n + 1 => by rw [zerosN, zerosN_one v n, List.replicate_succ]; rfl
theorem Row.fresh {α : Type} (cells : α → List Value) (sz : Nat) (e : TypeId) (σ : St) (l : List α) : Row cells sz e (σ.new (.own (l.flatMap cells) e)) (some ⟨σ.next, 0, none⟩) sz [σ.next] l :=
  ⟨by simp, .inr ⟨σ.next, [], rfl, rfl, rfl, by rw [get_new_same, List.append_nil]⟩⟩
end Go.AM
