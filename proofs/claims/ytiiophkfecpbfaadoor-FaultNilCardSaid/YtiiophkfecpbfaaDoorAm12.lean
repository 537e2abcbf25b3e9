/-
  THE ABSTRACT MACHINE IS SOUND: regions that draw their order.
-/
import Derived.Test.YtiiophkfecpbfaaDoorAm11
import Derived.Test.YtiiophkfecpbfaaDoorAmO
set_option linter.unusedVariables false
set_option linter.unusedSimpArgs false
set_option linter.unusedSectionVars false
namespace Go.AM
open Go.RowKit
variable [Laid]

variable {P : Program} {call : FuncId → List Value → St → Res} {r : Value × St}

theorem FrOn.congr {μ : Mp} {fr F : Fr} {a : Act} {S : List Nat} (h : ∀ t ∈ S, fr.get t = F.get t) (hf : FrOn μ F a S) : FrOn μ fr a S := fun t ht v hv => hf t ht v (by rw [← h t ht]; exact hv)
theorem Sound.congr {o : Oper} {fr F : Fr} {σ σ' : St} {v : Value} (h : ∀ t ∈ slots o, fr.get t = F.get t) (hs : Sound P o fr σ v σ') : Sound P o F σ v σ' :=
  fun W μ a w hf hr next Q hn => hs W μ a w (FrOn.congr h hf) hr next Q hn
theorem Reckons.congr {o : Oper} {fr F : Fr} {v : Value} (h : ∀ t ∈ slots o, fr.get t = F.get t) (hs : Reckons P o fr v) : Reckons P o F v :=
  fun μ a w hf => hs μ a w (FrOn.congr h hf)

theorem again_inv (hcall : CallOK P call) {o : Oper} {fr : Fr} {v : Value} {K : Res} (hok : okOp P o = true) (ha : acts P o = false) : ∀ {l : List St}, again P call o fr v K l = some r →
    K = some r ∧ ∀ σ ∈ l, Sound P o fr σ v σ
  | [], h => ⟨h, fun _ h => by cases h⟩
  | σ :: l, h => by
    simp only [again] at h
    obtain ⟨u, σ', h1, h2, h3⟩ := aOp_inv hcall hok h
    obtain ⟨rfl, h4⟩ := chk_inv h1
    obtain ⟨h5, h6⟩ := again_inv hcall hok ha h4
    obtain ⟨rfl, _⟩ := h3 ha
    exact ⟨h5, fun x hx => by cases hx with | head => exact h2 | tail _ hx => exact h6 x hx⟩
theorem still_inv (hcall : CallOK P call) {fr : Fr} {σ : St} {K : Res} : ∀ {l : List (Oper × Value)}, (∀ x ∈ l, okOp P x.1 = true ∧ acts P x.1 = false) → still P call fr σ K l = some r →
    K = some r ∧ ∀ x ∈ l, Sound P x.1 fr σ x.2 σ
  | [], _, h => ⟨h, fun _ h => by cases h⟩
  | (o, v) :: l, hl, h => by
    simp only [still] at h
    obtain ⟨hok, ha⟩ := hl (o, v) (by simp)
    obtain ⟨u, σ', h1, h2, h3⟩ := aOp_inv hcall hok h
    obtain ⟨rfl, h4⟩ := chk_inv h1
    obtain ⟨h5, h6⟩ := still_inv hcall (fun x hx => hl x (by simp [hx])) h4
    obtain ⟨rfl, _⟩ := h3 ha
    exact ⟨h5, fun x hx => by cases hx with | head => exact h2 | tail _ hx => exact h6 x hx⟩

theorem those_mem {β : Type} {l : List (Nat × β)} {is : List Nat} {i : Nat} {x : β} (hi : i ∈ is) (h : oneOf i l = [x]) : x ∈ those l is := by
  induction is with
  | nil => cases hi
  | cons j is ih =>
    simp only [those, List.mem_append]
    cases hi with
    | head => left; rw [h]; simp
    | tail _ hi => exact .inr (ih hi)
theorem oneOf_sub {β : Type} {i : Nat} : ∀ {l : List (Nat × β)} {x : β}, x ∈ oneOf i l → ∃ j, (j, x) ∈ l
  | [], x, h => by cases h
  | (j, y) :: l, x, h => by
    simp only [oneOf] at h
    cases hb : Nat.beq i j with
    | true => rw [hb] at h; simp at h; subst h; exact ⟨j, by simp⟩
    | false => rw [hb] at h; obtain ⟨j', h'⟩ := oneOf_sub (by simpa using h); exact ⟨j', by simp [h']⟩
theorem those_sub {β : Type} {l : List (Nat × β)} {is : List Nat} {x : β} (h : x ∈ those l is) : ∃ j, (j, x) ∈ l := by
  induction is with
  | nil => cases h
  | cons i is ih =>
    simp only [those, List.mem_append] at h
    rcases h with h | h
    · exact oneOf_sub h
    · exact ih h
theorem oneOf_cons {β : Type} {k i : Nat} {x : β} {l : List (Nat × β)} (h : k ≠ i) : oneOf k ((i, x) :: l) = oneOf k l := by simp [oneOf, nbeq_ne h]
theorem oneOf_here {β : Type} {i : Nat} {x : β} {l : List (Nat × β)} : oneOf i ((i, x) :: l) = [x] := by simp [oneOf]

theorem loose_acts {o : Oper} (h : loose o = true) : acts P o = true := by
  unfold loose at h
  unfold acts
  split at h <;> simp_all
theorem aOp_inv2 (hcall : CallOK P call) {o : Oper} {fr : Fr} {σ : St} {K : Value → St → Res} (hok : okOp P o = true) (h : aOp P call o fr σ K = some r) :
    ∃ v σ', K v σ' = some r ∧ Told P o fr σ v σ' ∧ (loose o = true → ∃ (val : Nat → Value) (vs : List Value) (e : TypeId), v = val σ.next ∧ σ' = σ.new (.own vs e) ∧ Lays P o fr val vs e) := by
  by_cases hl : loose o = true
  · obtain ⟨val, vs, e, h1, h2⟩ := loose_inv hok hl h
    exact ⟨_, _, h1, ⟨(h2.ran σ).sound, fun ha => by rw [loose_acts hl] at ha; cases ha⟩, fun _ => ⟨val, vs, e, rfl, rfl, h2⟩⟩
  · obtain ⟨v, σ', h1, h2⟩ := aOp_inv hcall hok h
    exact ⟨v, σ', h1, h2, fun h => absurd h hl⟩

/-- What one place of a region's run tells. -/
structure At (P : Program) (u : Nat → List Nat) (all : List Oper) (f0 F : Fr) (H : Nat → Fr) (v : Nat → Value) (s : Nat → St) (g : Nat → Bool) (j : Nat) (o : Oper) : Prop where
  guard : match o.guard with
    | none => g j = true
    | some (q, w) => ∃ d x, (all[q]?).bind (·.dst) = some d ∧ F.get d = some x ∧ ((∃ c, x = .bool c ∧ g j = (c == w)) ∨ (∃ A, x = .tuple A ∧ g j = false))
  dst : ∀ d, o.dst = some d → F.get d = some (v j)
  skip : g j = false → v j = undef ∧ s (j + 1) = s j
  own : ∀ t ∈ slots o, ∀ x, (H j).get t = some x → (∃ (k : Nat) (ok : Oper), k < j ∧ all[k]? = some ok ∧ ok.dst = some t ∧ x = v k) ∨ ((∀ (k : Nat) (ok : Oper), all[k]? = some ok → ok.dst = some t → j ≤ k) ∧ f0.get t = some x)
  run : g j = true → Sound P o (H j) (s j) (v j) (s (j + 1))
  quiet : g j = true → acts P o = false → s (j + 1) = s j
  reck : g j = true → acts P o = false → looks P o = false → Reckons P o (H j) (v j)
  act : g j = true → acts P o = true → ∀ k < j, k ∈ u j → g k = true → ∀ x, all[k]? = some x → acts P x = false → looks P x = true → Sound P x (H k) (s (j + 1)) (v k) (s (j + 1))
  look : g j = true → acts P o = false → looks P o = true → ∀ k < j, k ∈ u j → g k = true → ∀ x, all[k]? = some x → acts P x = true → Sound P o (H j) (s k) (v j) (s k)
  lays : g j = true → loose o = true → ∃ (val : Nat → Value) (vs : List Value) (e : TypeId), v j = val (s j).next ∧ s (j + 1) = (s j).new (.own vs e) ∧ Lays P o (H j) val vs e

/-- What is remembered is what was. -/
structure Kept (P : Program) (all : List Oper) (f0 fr : Fr) (H : Nat → Fr) (v : Nat → Value) (s : Nat → St) (g : Nat → Bool) (i : Nat) (past : Past) : Prop where
  r1 : ∀ x ∈ past.reads, okOp P x.2.1 = true ∧ acts P x.2.1 = false
  r2 : ∀ k < i, g k = true → ∀ o, all[k]? = some o → acts P o = false → looks P o = true → oneOf k past.reads = [(o, v k)]
  a2 : ∀ k < i, g k = true → ∀ o, all[k]? = some o → acts P o = true → oneOf k past.acts = [s k]
  r3 : ∀ k < i, ∀ o, all[k]? = some o → acts P o = false → looks P o = true → ∀ t ∈ slots o, (H k).get t = fr.get t
  fr1 : ∀ t x, fr.get t = some x → (∃ (k : Nat) (ok : Oper), k < i ∧ all[k]? = some ok ∧ ok.dst = some t ∧ x = v k) ∨ ((∀ (k : Nat) (ok : Oper), all[k]? = some ok → ok.dst = some t → i ≤ k) ∧ f0.get t = some x)

structure Static (P : Program) (n : Nat) (u : Nat → List Nat) (all : List Oper) : Prop where
  ok : ∀ (i : Nat) (o : Oper), all[i]? = some o → okOp P o = true
  gd : ∀ (i : Nat) (o : Oper) (q : Nat) (w : Bool), all[i]? = some o → o.guard = some (q, w) → q < i
  dn : ∀ (i : Nat) (o : Oper) (d : Nat), all[i]? = some o → o.dst = some d → d < n
  dd : ∀ (i j : Nat) (o o' : Oper) (d : Nat), all[i]? = some o → all[j]? = some o' → o.dst = some d → o'.dst = some d → i = j
  sl : ∀ (i j : Nat) (o o' : Oper) (t : Nat), all[i]? = some o → all[j]? = some o' → o'.dst = some t → t ∈ slots o → acts P o = false → looks P o = true → j < i

theorem trace (hcall : CallOK P call) {n : Nat} {u : Nat → List Nat} {all : List Oper} (hst : Static P n u all) {K : Fr → St → Res} {f0 : Fr} :
    ∀ (rest : List Oper) (i : Nat) (past : Past) (fr : Fr) (H0 : Nat → Fr) (v0 : Nat → Value) (s0 : Nat → St) (g0 : Nat → Bool), rest = all.drop i → i + rest.length = all.length → aOps P call all (some u) rest i past fr (s0 i) K = some r →
      Kept P all f0 fr H0 v0 s0 g0 i past →
      ∃ (F : Fr) (H : Nat → Fr) (v : Nat → Value) (s : Nat → St) (g : Nat → Bool), K F (s all.length) = some r ∧ (∀ k < i, v k = v0 k ∧ g k = g0 k ∧ H k = H0 k) ∧ (∀ k ≤ i, s k = s0 k) ∧
        (∀ t, (∀ j o, i ≤ j → all[j]? = some o → o.dst ≠ some t) → fr.get t = F.get t) ∧ ∀ j o, i ≤ j → all[j]? = some o → At P u all f0 F H v s g j o := by
  intro rest
  induction rest with
  | nil =>
    intro i past fr H0 v0 s0 g0 hrest hlen h hk
    simp only [aOps] at h
    simp only [List.length_nil, Nat.add_zero] at hlen
    subst hlen
    exact ⟨fr, H0, v0, s0, g0, h, fun _ _ => ⟨rfl, rfl, rfl⟩, fun _ _ => rfl, fun _ _ => rfl, fun j o hj ho => by have := (List.getElem?_eq_some_iff.1 ho).1; omega⟩
  | cons o rest ih =>
    intro i past fr H0 v0 s0 g0 hrest hlen h hk
    have hoi : all[i]? = some o := by
      have : (all.drop i)[0]? = some o := by rw [← hrest]; rfl
      simpa using this
    have hnext : rest = all.drop (i + 1) := by rw [← List.drop_drop, ← hrest]; rfl
    have hlen2 : i + 1 + rest.length = all.length := by simp at hlen; omega
    have hop := hst.ok i o hoi
    simp only [aOps] at h
    obtain ⟨fr', b, h1, hsame, hg⟩ := guardIs_inv h
    -- one step on
    have step : ∀ (x : Value) (σ' : St) (past' : Past), aOps P call all (some u) rest (i + 1) past' (fr'.put o.dst x) σ' K = some r →
        (∀ y ∈ past'.reads, okOp P y.2.1 = true ∧ acts P y.2.1 = false) →
        (∀ k < i, oneOf k past'.reads = oneOf k past.reads) → (∀ k < i, oneOf k past'.acts = oneOf k past.acts) →
        (b = true → acts P o = false → looks P o = true → oneOf i past'.reads = [(o, x)]) → (b = true → acts P o = true → oneOf i past'.acts = [s0 i]) →
        ∃ (F : Fr) (H : Nat → Fr) (v : Nat → Value) (s : Nat → St) (g : Nat → Bool), K F (s all.length) = some r ∧ (∀ k < i, v k = v0 k ∧ g k = g0 k ∧ H k = H0 k) ∧ (∀ k ≤ i, s k = s0 k) ∧ H i = fr' ∧ v i = x ∧ g i = b ∧ s (i + 1) = σ' ∧
          (∀ t, (∀ j o, i ≤ j → all[j]? = some o → o.dst ≠ some t) → fr.get t = F.get t) ∧ (∀ d, o.dst = some d → F.get d = some x) ∧ ∀ j o, i + 1 ≤ j → all[j]? = some o → At P u all f0 F H v s g j o := by
      intro x σ' past' h2 hr1 hr2 ha2 hri hai
      let H1 : Nat → Fr := fun k => if k = i then fr' else H0 k
      let v1 : Nat → Value := fun k => if k = i then x else v0 k
      let g1 : Nat → Bool := fun k => if k = i then b else g0 k
      let s1 : Nat → St := fun k => if k = i + 1 then σ' else s0 k
      have hs1 : s1 (i + 1) = σ' := by simp [s1]
      obtain ⟨F, H, v, s, g, e1, e2, e3, e4, e5⟩ := ih (i + 1) past' (fr'.put o.dst x) H1 v1 s1 g1 hnext hlen2 (by rw [hs1]; exact h2) ⟨hr1, fun k hk1 hgk o' ho' hact hlk => by
          by_cases hki : k = i
          · subst hki
            rw [hoi] at ho'; cases ho'
            rw [hri (by simpa [g1] using hgk) hact hlk]
            simp [v1]
          · rw [hr2 k (by omega), hk.r2 k (by omega) (by simpa [g1, hki] using hgk) o' ho' hact hlk]
            simp [v1, hki], fun k hk1 hgk o' ho' hact => by
          by_cases hki : k = i
          · subst hki
            rw [hoi] at ho'; cases ho'
            rw [hai (by simpa [g1] using hgk) hact]
            simp [s1]
          · have hki2 : k ≠ i + 1 := by omega
            rw [ha2 k (by omega), hk.a2 k (by omega) (by simpa [g1, hki] using hgk) o' ho' hact]
            simp [s1, hki2], fun k hk1 o' ho' hact hlk t ht => by
          have hne : o.dst ≠ some t := fun e => by have := hst.sl k i o' o t ho' hoi e ht hact hlk; omega
          have hput : (fr'.put o.dst x).get t = fr'.get t := by
            cases hod : o.dst with
            | none => rfl
            | some d =>
              have hdt : d ≠ t := fun e => hne (by rw [hod, e])
              simp only [Fr.put, Fr.get, nbeq_ne hdt]; rfl
          rw [hput]
          by_cases hki : k = i
          · simp [H1, hki]
          · simp only [H1, hki, if_false]; rw [hsame t]; exact hk.r3 k (by omega) o' ho' hact hlk t ht, fun t y hy => by
          by_cases hod : o.dst = some t
          · rw [hod] at hy
            simp [Fr.put, Fr.get] at hy
            exact .inl ⟨i, o, by omega, hoi, hod, by simp [v1, hy]⟩
          · have hput : (fr'.put o.dst x).get t = fr'.get t := by
              cases hod2 : o.dst with
              | none => rfl
              | some d =>
                have hdt : d ≠ t := fun e => hod (by rw [hod2, e])
                simp only [Fr.put, Fr.get, nbeq_ne hdt]; rfl
            rw [hput, hsame t] at hy
            rcases hk.fr1 t y hy with ⟨k, ok, w1, w2, w3, w4⟩ | ⟨w1, w2⟩
            · exact .inl ⟨k, ok, by omega, w2, w3, by rw [w4]; simp [v1, show k ≠ i by omega]⟩
            · refine .inr ⟨fun k ok hok hkd => ?_, w2⟩
              have := w1 k ok hok hkd
              have hne : k ≠ i := fun e => by subst e; rw [hoi] at hok; cases hok; exact hod hkd
              omega⟩
      have hd : ∀ t, (∀ j o', i + 1 ≤ j → all[j]? = some o' → o'.dst ≠ some t) → (fr'.put o.dst x).get t = F.get t := e4
      refine ⟨F, H, v, s, g, e1, fun k hk1 => ?_, fun k hk1 => ?_, ?_, ?_, ?_, ?_, fun t ht => ?_, fun d hod => ?_, e5⟩
      · have := e2 k (by omega)
        have hki : k ≠ i := by omega
        simpa [v1, g1, H1, hki] using this
      · have := e3 k (by omega)
        have hki : k ≠ i + 1 := by omega
        simpa [s1, hki] using this
      · have := (e2 i (by omega)).2.2; simpa [H1] using this
      · have := (e2 i (by omega)).1; simpa [v1] using this
      · have := (e2 i (by omega)).2.1; simpa [g1] using this
      · have := e3 (i + 1) (by omega); simpa [s1] using this
      · rw [← hd t (fun j o' hj => ht j o' (by omega)), ← hsame t]
        have hne := ht i o (by omega) hoi
        cases hod : o.dst with
        | none => rfl
        | some d =>
          have hdt : d ≠ t := fun e => hne (by rw [hod, e])
          simp only [Fr.put, Fr.get, nbeq_ne hdt]; rfl
      · rw [← hd d (fun j o' hj ho' e => by have := hst.dd i j o o' d hoi ho' hod e; omega)]
        rw [hod]
        simp [Fr.put, Fr.get]
    have ownI : ∀ (v : Nat → Value), (∀ k < i, v k = v0 k) → ∀ t ∈ slots o, ∀ x, fr'.get t = some x → (∃ (k : Nat) (ok : Oper), k < i ∧ all[k]? = some ok ∧ ok.dst = some t ∧ x = v k) ∨ ((∀ (k : Nat) (ok : Oper), all[k]? = some ok → ok.dst = some t → i ≤ k) ∧ f0.get t = some x) := by
      intro v hv t _ x hx
      rw [hsame t] at hx
      rcases hk.fr1 t x hx with ⟨k, ok, w1, w2, w3, w4⟩ | h
      · exact .inl ⟨k, ok, w1, w2, w3, by rw [hv k w1]; exact w4⟩
      · exact .inr h
    have guardF : ∀ (F : Fr) (g : Nat → Bool), g i = b → (∀ d x, fr.get d = some x → (∃ q w, o.guard = some (q, w) ∧ (all[q]?).bind (·.dst) = some d) → F.get d = some x) → (match o.guard with
        | none => g i = true
        | some (q, w) => ∃ d x, (all[q]?).bind (·.dst) = some d ∧ F.get d = some x ∧ ((∃ c, x = .bool c ∧ g i = (c == w)) ∨ (∃ A, x = .tuple A ∧ g i = false))) := by
      intro F g hgi hF
      cases hgd : o.guard with
      | none => rw [hgd] at hg; simpa [hgi] using hg
      | some qw =>
        obtain ⟨q, w⟩ := qw
        rw [hgd] at hg
        obtain ⟨d, x, h3, h4, h5⟩ := hg
        exact ⟨d, x, h3, hF d x h4 ⟨q, w, hgd, h3⟩, by rw [hgi]; exact h5⟩
    have guardAll : ∀ (F : Fr), (∀ t, (∀ j o, i ≤ j → all[j]? = some o → o.dst ≠ some t) → fr.get t = F.get t) → ∀ d x, fr.get d = some x → (∃ q w, o.guard = some (q, w) ∧ (all[q]?).bind (·.dst) = some d) → F.get d = some x := by
      intro F hF d x hx ⟨q, w, hgd, hq⟩
      rw [← hF d (fun j o' hj ho' e => ?_)]
      · exact hx
      · obtain ⟨oq, hoq, hqd⟩ := Option.bind_eq_some_iff.1 hq
        have h3 := hst.dd q j oq o' d hoq ho' hqd e
        have h4 := hst.gd i o q w hoi hgd
        omega
    cases b with
    | false =>
      simp only [Bool.false_eq_true, if_false] at h1
      obtain ⟨F, H, v, s, g, e1, e2, e3, eH, e4, e5, e6, e7, e8, e9⟩ := step undef (s0 i) past h1 hk.r1 (fun _ _ => rfl) (fun _ _ => rfl) (fun h => by cases h) (fun h => by cases h)
      refine ⟨F, H, v, s, g, e1, e2, e3, e7, fun j o' hj ho' => ?_⟩
      by_cases hji : j = i
      · subst hji
        rw [hoi] at ho'; cases ho'
        refine ⟨guardF F g e5 (guardAll F e7), fun d hd => by rw [e4]; exact e8 d hd, fun _ => ⟨e4, by rw [e6, e3 j (Nat.le_refl _)]⟩, by rw [eH]; exact ownI v (fun k hk1 => (e2 k hk1).1), fun h => (by rw [e5] at h; cases h), fun h => (by rw [e5] at h; cases h), fun h => (by rw [e5] at h; cases h), fun h => (by rw [e5] at h; cases h), fun h => (by rw [e5] at h; cases h), fun h => (by rw [e5] at h; cases h)⟩
      · exact e9 j o' (by omega) ho'
    | true =>
      simp only [if_true] at h1
      obtain ⟨x, σ', h2, ⟨hsound, htold⟩, hlays⟩ := aOp_inv2 hcall hop h1
      cases hact : acts P o with
      | true =>
        rw [hact] at h2
        simp only [cond_true] at h2
        have hreads : ∀ y ∈ those past.reads (u i), okOp P y.1 = true ∧ acts P y.1 = false := by
          intro y hy
          obtain ⟨j, hj⟩ := those_sub hy
          exact hk.r1 _ hj
        obtain ⟨h3, h4⟩ := still_inv hcall hreads h2
        obtain ⟨F, H, v, s, g, e1, e2, e3, eH, e4, e5, e6, e7, e8, e9⟩ := step x σ' _ h3 hk.r1 (fun _ _ => rfl) (fun k hki => oneOf_cons (by omega)) (fun _ h => (by rw [hact] at h; cases h)) (fun _ _ => oneOf_here)
        refine ⟨F, H, v, s, g, e1, e2, e3, e7, fun j o' hj ho' => ?_⟩
        by_cases hji : j = i
        · subst hji
          rw [hoi] at ho'; cases ho'
          refine ⟨guardF F g e5 (guardAll F e7), fun d hd => by rw [e4]; exact e8 d hd, fun h => (by rw [e5] at h; cases h), by rw [eH]; exact ownI v (fun k hk1 => (e2 k hk1).1), fun _ => ?_, fun _ h => (by rw [hact] at h; cases h), fun _ h => (by rw [hact] at h; cases h), fun _ _ k hkj hku hgk y hy hya hyl => ?_, fun _ h => (by rw [hact] at h; cases h), fun _ hl => by rw [e3 j (Nat.le_refl _), e4, e6, eH]; exact hlays hl⟩
          · rw [e3 j (Nat.le_refl _), e4, e6, eH]; exact hsound
          · have h5 := hk.r2 k hkj (by rw [← (e2 k hkj).2.1]; exact hgk) y hy hya hyl
            have h6 := h4 _ (those_mem hku h5)
            rw [e6, (e2 k hkj).1, (e2 k hkj).2.2]
            exact h6.congr (fun t ht => by rw [hsame t]; exact (hk.r3 k hkj y hy hya hyl t ht).symm)
        · exact e9 j o' (by omega) ho'
      | false =>
        obtain ⟨hσ, hreck⟩ := htold hact
        subst hσ
        rw [hact] at h2
        simp only [cond_false] at h2
        cases hlk : looks P o with
        | true =>
          rw [hlk] at h2
          simp only [cond_true] at h2
          obtain ⟨h3, h4⟩ := again_inv hcall hop hact h2
          obtain ⟨F, H, v, s, g, e1, e2, e3, eH, e4, e5, e6, e7, e8, e9⟩ := step x (s0 i) _ h3 (fun y hy => by
            cases hy with
            | head => exact ⟨hop, hact⟩
            | tail _ hy => exact hk.r1 y hy) (fun k hki => oneOf_cons (by omega)) (fun _ _ => rfl) (fun _ _ _ => oneOf_here) (fun _ h => (by rw [hact] at h; cases h))
          refine ⟨F, H, v, s, g, e1, e2, e3, e7, fun j o' hj ho' => ?_⟩
          by_cases hji : j = i
          · subst hji
            rw [hoi] at ho'; cases ho'
            refine ⟨guardF F g e5 (guardAll F e7), fun d hd => by rw [e4]; exact e8 d hd, fun h => (by rw [e5] at h; cases h), by rw [eH]; exact ownI v (fun k hk1 => (e2 k hk1).1), fun _ => ?_, fun _ _ => by rw [e6, e3 j (Nat.le_refl _)], fun _ _ h => (by rw [hlk] at h; cases h), fun _ h => (by rw [hact] at h; cases h), fun _ _ _ k hkj hku hgk y hy hya => ?_, fun _ hl => by rw [loose_acts hl] at hact; cases hact⟩
            · rw [e3 j (Nat.le_refl _), e4, e6, eH]; exact hsound
            · have h5 := hk.a2 k hkj (by rw [← (e2 k hkj).2.1]; exact hgk) y hy hya
              have h6 := h4 _ (those_mem hku h5)
              rw [e3 k (by omega), e4, eH]
              exact h6
          · exact e9 j o' (by omega) ho'
        | false =>
          rw [hlk] at h2
          simp only [cond_false] at h2
          obtain ⟨F, H, v, s, g, e1, e2, e3, eH, e4, e5, e6, e7, e8, e9⟩ := step x (s0 i) past h2 hk.r1 (fun _ _ => rfl) (fun _ _ => rfl) (fun _ _ h => (by rw [hlk] at h; cases h)) (fun _ h => (by rw [hact] at h; cases h))
          refine ⟨F, H, v, s, g, e1, e2, e3, e7, fun j o' hj ho' => ?_⟩
          by_cases hji : j = i
          · subst hji
            rw [hoi] at ho'; cases ho'
            refine ⟨guardF F g e5 (guardAll F e7), fun d hd => by rw [e4]; exact e8 d hd, fun h => (by rw [e5] at h; cases h), by rw [eH]; exact ownI v (fun k hk1 => (e2 k hk1).1), fun _ => ?_, fun _ _ => by rw [e6, e3 j (Nat.le_refl _)], fun _ _ _ => ?_, fun _ h => (by rw [hact] at h; cases h), fun _ _ h => (by rw [hlk] at h; cases h), fun _ hl => by rw [loose_acts hl] at hact; cases hact⟩
            · rw [e3 j (Nat.le_refl _), e4, e6, eH]; exact hsound
            · rw [e4, eH]; exact hreck hlk
          · exact e9 j o' (by omega) ho'

end Go.AM
