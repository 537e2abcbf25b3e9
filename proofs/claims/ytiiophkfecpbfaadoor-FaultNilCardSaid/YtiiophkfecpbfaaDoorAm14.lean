/-
  THE ABSTRACT MACHINE IS SOUND: code, loops, functions.
-/
import Derived.Test.YtiiophkfecpbfaaDoorAm13
import Derived.LoopN
set_option linter.unusedVariables false
set_option linter.unusedSimpArgs false
set_option linter.unusedSectionVars false
namespace Go.AM
open Go.RowKit
variable [Laid]

variable {P : Program} {r : Value × St}

def okPlain (P : Program) (n : Nat) (o : Oper) : Bool := okOp P o && (match o.dst with | some d => Nat.blt d n | none => true)
def okCode (P : Program) (n : Nat) (ann : Ann) : Code → Bool
  | .skip => true
  | .region id ops draw => bif draw then P.follows .mixedOrders && okDrawn P n (ann.un id) ops.toList else ops.toList.all (okPlain P n)
  | .seq a b => okCode P n ann a && okCode P n ann b
  | .cond c t e => okOpnd c && (okCode P n ann t && okCode P n ann e)
  | .block _ c => okCode P n ann c
  | .loop c => okCode P n ann c
  | .exit _ => true
  | .ret => true
  | _ => false

def Ex.real : Ex → Exit
  | .normal => .normal
  | .exit i => .exit i
  | .ret => .ret

/-- Behind a piece of code. -/
def Post (W : Base) (μ : Mp) (n : Nat) (r : Value × St) (K : Ex → Fr → St → Res) (Q : Exit → Act → World → Prop) : Prop :=
  ∀ ex fr' σ' μ' a' w', K ex fr' σ' = some r → μ.le μ' → FrRel μ' fr' a' → Rel W μ' σ' w' → a'.tmps.size = n → a'.defers = [] → Q ex.real a' w'
theorem Post.le {W : Base} {μ μ' : Mp} {n : Nat} {K : Ex → Fr → St → Res} {Q : Exit → Act → World → Prop} (h : Post W μ n r K Q) (hl : μ.le μ') : Post W μ' n r K Q :=
  fun ex fr' σ' μ2 a' w' hK hl2 => h ex fr' σ' μ2 a' w' hK (hl.trans hl2)

theorem code_sound {call : FuncId → List Value → St → Res} (hcall : CallOK P call) {L : Nat} {ann : Ann} {n : Nat} {W : Base} : ∀ (c : Code), okCode P n ann c = true → ∀ {fr : Fr} {σ : St} {K : Ex → Fr → St → Res} {Q : Exit → Act → World → Prop},
    evCode P call L ann c fr σ K = some r → ∀ {μ : Mp} {a : Act} {w : World}, FrRel μ fr a → Rel W μ σ w → a.tmps.size = n → a.defers = [] → Post W μ n r K Q → c.wp P Q a w := by
  intro c
  induction c with
  | skip => intro _ fr σ K Q h μ a w hf hr hn hd hp; exact wp_skip (hp .normal fr σ μ a w h (Mp.le.refl μ) hf hr hn hd)
  | region id ops draw =>
    intro hok fr σ K Q h μ a w hf hr hn hd hp
    simp only [evCode] at h
    cases draw with
    | false =>
      simp only [okCode, cond_false] at hok h
      refine wp_region ?_
      have := ops_sound hcall (ops := ops) (n := n) (W := W) (Q := Q) (K := fun fr' σ' => K .normal fr' σ') (fun o ho => by
        have h1 := List.all_eq_true.1 hok o ho
        unfold okPlain at h1
        rw [Bool.and_eq_true] at h1
        exact ⟨h1.1, fun d hd => by have h2 := h1.2; rw [hd] at h2; simpa [Nat.blt_eq] using h2⟩) ops.toList 0 ⟨[], []⟩ fr σ (by simp) h μ a w hf hr hn hd (fun fr' σ' μ' a' w' hK => hp .normal fr' σ' μ' a' w' hK)
      rw [List.range_eq_range']
      simpa using this
    | true =>
      simp only [okCode, cond_true, Bool.and_eq_true] at hok h
      refine wp_region_any hok.1 ?_
      exact drawn_sound hcall hok.2 h hf (hr.heap (w' := { w with drawn := w.drawn + 1 }) rfl rfl rfl rfl) hn hd (fun fr' σ' μ' a' w' hK => hp .normal fr' σ' μ' a' w' hK)
  | seq x y ihx ihy =>
    intro hok fr σ K Q h μ a w hf hr hn hd hp
    simp only [okCode, Bool.and_eq_true] at hok
    simp only [evCode] at h
    refine wp_seq (ihx hok.1 h hf hr hn hd (fun ex fr' σ' μ' a' w' hK hle hf' hr' hn' hd' => ?_))
    cases ex with
    | normal =>
      simp only [pt] at hK
      exact ihy hok.2 hK (hf'.cut _) hr' hn' hd' (hp.le hle)
    | exit i => exact hp (.exit i) fr' σ' μ' a' w' hK hle hf' hr' hn' hd'
    | ret => exact hp .ret fr' σ' μ' a' w' hK hle hf' hr' hn' hd'
  | cond c t e iht ihe =>
    intro hok fr σ K Q h μ a w hf hr hn hd hp
    simp only [okCode, Bool.and_eq_true] at hok
    simp only [evCode] at h
    obtain ⟨v, h1, hv⟩ := opnd_inv hok.1 h
    obtain ⟨b, e1, h2⟩ := asB_inv h1
    subst e1
    have hc := (hv μ a (opT c) (fun _ h => h) (hf.on _)).bool_inv
    rcases br_inv h2 with ⟨rfl, h3⟩ | ⟨rfl, h3⟩
    · exact wp_cond_true hc (iht hok.2.1 h3 hf hr hn hd hp)
    · exact wp_cond_false hc (ihe hok.2.2 h3 hf hr hn hd hp)
  | block id c ih =>
    intro hok fr σ K Q h μ a w hf hr hn hd hp
    simp only [okCode] at hok
    simp only [evCode] at h
    refine wp_block (ih hok h hf hr hn hd (fun ex fr' σ' μ' a' w' hK hle hf' hr' hn' hd' => ?_))
    cases ex with
    | normal => exact hp .normal fr' σ' μ' a' w' hK hle hf' hr' hn' hd'
    | exit i =>
      simp only at hK
      by_cases hi : i = id
      · subst hi
        have : Nat.beq i i = true := by simp
        rw [this] at hK
        simp only [Ex.real, Exit.inBlock, if_true]
        exact hp .normal fr' σ' μ' a' w' hK hle hf' hr' hn' hd'
      · rw [nbeq_ne hi] at hK
        simp only [Ex.real, Exit.inBlock, hi, if_false]
        exact hp (.exit i) fr' σ' μ' a' w' hK hle hf' hr' hn' hd'
    | ret => exact hp .ret fr' σ' μ' a' w' hK hle hf' hr' hn' hd'
  | loop c ih =>
    intro hok fr σ K Q h μ a w hf hr hn hd hp
    simp only [okCode] at hok
    simp only [evCode] at h
    refine wp_loop_rounds L ?_
    have key : ∀ (m : Nat) (fr : Fr) (σ : St) (μ' : Mp) (a : Act) (w : World), iter (fr1 c) (evCode P call L ann c) (ann.at c) K m fr σ = some r → μ.le μ' → FrRel μ' fr a → Rel W μ' σ w → a.tmps.size = n → a.defers = [] → Code.rounds P c Q m a w := by
      intro m
      induction m with
      | zero => intro fr σ μ' a w h; simp [iter] at h
      | succ m ihm =>
        intro fr σ μ' a w h hle hf hr hn hd
        simp only [iter] at h
        rw [rounds_succ]
        refine ih hok h (hf.cut _) hr hn hd (fun ex fr' σ' μ2 a' w' hK hle2 hf' hr' hn' hd' => ?_)
        cases ex with
        | normal => exact ihm _ _ μ2 a' w' hK (hle.trans hle2) (hf'.cut _) hr' hn' hd'
        | exit i => exact hp (.exit i) fr' σ' μ2 a' w' hK (hle.trans hle2) hf' hr' hn' hd'
        | ret => exact hp .ret fr' σ' μ2 a' w' hK (hle.trans hle2) hf' hr' hn' hd'
    exact key L _ σ μ a w h (Mp.le.refl μ) (hf.cut _) hr hn hd
  | exit id => intro _ fr σ K Q h μ a w hf hr hn hd hp; exact wp_exit (hp (.exit id) fr σ μ a w h (Mp.le.refl μ) hf hr hn hd)
  | ret => intro _ fr σ K Q h μ a w hf hr hn hd hp; exact wp_ret (hp .ret fr σ μ a w h (Mp.le.refl μ) hf hr hn hd)
  | _ => intro hok; cases hok

/-! ### Results -/
def resOne (tmps : Array Value) (x : ResultVar) : Sem Value :=
  match x with
  | .tmp t => pure (tmps.getD t undef)
  | .cell a t => do loadVar t (← asAddr (tmps.getD a undef))

theorem results_eq (fn : Func) (tmps : Array Value) : results fn tmps = (do let vs ← fn.results.mapM (resOne tmps); pure (if h : vs.size = 1 then vs[0] else .tuple vs)) := rfl

theorem outs_inv {fr : Fr} {σ : St} : ∀ {l : List ResultVar} {K : List Value → Res}, outs P fr σ l K = some r →
    ∃ vs, K vs = some r ∧ ∀ (W : Base) (μ : Mp) (a : Act) (w : World), FrRel μ fr a → Rel W μ σ w → ∃ vs', LRel μ vs vs' ∧ (l.mapM (resOne a.tmps)).run P w = .ok vs' w
  | [], K, h => ⟨[], h, fun W μ a w _ _ => ⟨[], .nil μ, by simp⟩⟩
  | .tmp t :: l, K, h => by
    simp only [outs] at h
    split at h
    · rename_i v hv
      obtain ⟨vs, h1, h2⟩ := outs_inv h
      refine ⟨v :: vs, h1, fun W μ a w hf hr => ?_⟩
      obtain ⟨vs', h3, h4⟩ := h2 W μ a w hf hr
      obtain ⟨v', h5, h6⟩ := hf t v hv
      refine ⟨v' :: vs', .cons h6 h3, ?_⟩
      have h7 : (resOne a.tmps (.tmp t)).run P w = .ok v' w := by simp [resOne, h5]
      simp [List.mapM_cons, h7, h4]
    · cases h
  | .cell x t :: l, K, h => by
    simp only [outs] at h
    split at h
    · rename_i v hv
      obtain ⟨ad, e1, h1⟩ := asP_inv h
      subst e1
      obtain ⟨q, off, e2, h2⟩ := adr_inv h1
      subst e2
      obtain ⟨u, h3, hu⟩ := aLoad_inv h2
      obtain ⟨vs, h4, h5⟩ := outs_inv h3
      refine ⟨u :: vs, h4, fun W μ a w hf hr => ?_⟩
      obtain ⟨vs', h6, h7⟩ := h5 W μ a w hf hr
      obtain ⟨v', h8, h9⟩ := hf x _ hv
      obtain ⟨p, hp, e3⟩ := h9.ptr_inv
      obtain ⟨u', h10, h11⟩ := hu W μ w p hr hp
      refine ⟨u' :: vs', .cons h11 h6, ?_⟩
      have h12 : (resOne a.tmps (.cell x t)).run P w = .ok u' w := by
        have : a.tmps.getD x undef = .pointer (some ⟨p.b, p.s + off, none⟩) := by simp [h8, e3]
        simp [resOne, this, asAddr, h10]
      simp [List.mapM_cons, h12, h7]
    · cases h

theorem pack_rel {μ : Mp} : ∀ {vs vs' : List Value}, LRel μ vs vs' → VRel μ (pack vs) (if h : vs'.toArray.size = 1 then vs'.toArray[0] else .tuple vs'.toArray)
  | [], vs', h => by rw [h.inv_nil]; exact VRel.undef μ
  | [v], vs', h => by
    obtain ⟨y, m, e1, h1, h2⟩ := h.inv
    rw [h2.inv_nil] at e1
    subst e1
    simpa [pack] using h1
  | v :: u :: l, vs', h => by
    have hl := h.1
    simp only [List.length_cons] at hl
    have : vs'.toArray.size ≠ 1 := by simp; omega
    rw [dif_neg this]
    exact LRel.tuple (by simpa using h)

/-! ### Functions -/
structure DefOK (P : Program) (f : FuncId) (fn : Func) (bd : Code) (ann : Ann) : Prop where
  func : P.funcs[f]? = some fn
  body : fn.body = some bd
  name : fn.name ≠ "runtime.NumGoroutine"
  room : fn.params.size + fn.nfree ≤ fn.ntmps
  code : okCode P fn.ntmps ann bd = true
def PrimOK (P : Program) (f : FuncId) (g : List Value → St → Res) : Prop := CallOK P fun f' args σ => if f' = f then g args σ else none
def EnvOK (P : Program) (env : FuncId → Def) : Prop := ∀ f, match env f with
  | .code fn body ann => DefOK P f fn body ann
  | .prim g => PrimOK P f g
  | .no => True

theorem frame0_get : ∀ (l : List Value) (i t : Nat) (v : Value), (frame0 l i).get t = some v → i ≤ t ∧ l[t - i]? = some v
  | [], i, t, v, h => by simp [frame0, Fr.get] at h
  | x :: l, i, t, v, h => by
    simp only [frame0, Fr.get] at h
    by_cases hit : i = t
    · subst hit
      have : Nat.beq i i = true := by simp
      rw [this] at h
      simp at h
      subst h
      simp
    · rw [nbeq_ne hit] at h
      obtain ⟨h1, h2⟩ := frame0_get l (i + 1) t v (by simpa using h)
      refine ⟨by omega, ?_⟩
      have : t - i = (t - (i + 1)) + 1 := by omega
      rw [this]
      simpa using h2

theorem call_sound {env : FuncId → Def} (henv : EnvOK P env) {L : Nat} : ∀ n, CallOK P (evCall P env L n)
  | 0 => fun f args σ v σ' h => by simp [evCall] at h
  | n + 1 => fun f args σ v σ' h => by
    simp only [evCall] at h
    have he := henv f
    split at h
    · cases h
    · rename_i g hg
      rw [hg] at he
      exact he f args σ v σ' (by simpa using h)
    · rename_i fn body ann hc
      rw [hc] at he
      simp only at he
      obtain ⟨hb, h1⟩ := need_inv h
      have hlen : args.length = fn.params.size + fn.nfree := Nat.eq_of_beq_eq_true hb
      refine ⟨⟨fn, he.func, he.name, by rw [he.body]; rfl⟩, fun W μ w args' hl hr => ?_⟩
      have hroom := he.room
      have hll := hl.1
      refine calls_of_wp he.func he.body ?_
      refine code_sound (call_sound henv n) (n := fn.ntmps) body he.code h1 (μ := μ) (fun t x hx => ?_) hr (by simp; omega) rfl (fun ex fr' σ2 μ' a' w' hK hle hf' hr' hn' hd' => ?_)
      · obtain ⟨_, h2⟩ := frame0_get args 0 t x hx
        obtain ⟨x', h3, h4⟩ := hl.get (by simpa using h2)
        have hlt : t < args'.length := (List.getElem?_eq_some_iff.1 h3).1
        exact ⟨x', by rw [Array.getElem?_append_left (by simpa using hlt)]; simpa using h3, h4⟩
      · have hend : outs P fr' σ2 fn.results.toList (fun vs => some (pack vs, σ2)) = some (v, σ') → ∃ v', (results fn a'.tmps).run P w' = .ok v' w' ∧ After W μ v σ' (.returned v') w' := by
          intro ho
          obtain ⟨vs, h2, h3⟩ := outs_inv ho
          cases h2
          obtain ⟨vs', h4, h5⟩ := h3 W μ' a' w' hf' hr'
          refine ⟨_, ?_, μ', hle, pack_rel h4, hr'⟩
          simp [results_eq, Array.mapM_eq_mapM_toList, h5]
        cases ex with
        | normal => obtain ⟨v', h2, h3⟩ := hend hK; exact ⟨hd', v', h2, h3⟩
        | exit i => cases hK
        | ret => obtain ⟨v', h2, h3⟩ := hend hK; exact ⟨hd', v', h2, h3⟩

end Go.AM
