/-
  BLOCKS AHEAD OF THEIR TURN: laid aside, adopted later.
-/
import Derived.Test.YtiiophkfecpbfaaDoorAmE
set_option linter.unusedVariables false
set_option linter.unusedSimpArgs false
set_option linter.unusedSectionVars false
namespace Go.AM
open Go.RowKit
variable [Laid]
variable {W : Base} {μ : Mp} {σ : St} {w : World}

/-- One more block that nobody touches. -/
def Base.lay (B : Base) (b : Nat) (o : Obj) : Base := ⟨B.w, fun k => if k = b then some o else B.ex k⟩

/-- A new block, laid aside. -/
theorem Rel.aside (h : Rel W μ σ w) (ob : Obj) : Rel (W.lay w.heap.size ob) μ σ (w.alloc ob) := by
  have hold : ∀ b, b < w.heap.size → (w.alloc ob).heap[b]? = w.heap[b]? := fun b hb => heap_alloc_old w ob b hb
  have hcell : ∀ a : Addr, a.block < w.heap.size → (w.alloc ob).cell? a = w.cell? a := fun a ha => World.cell?_alloc_lt w _ a ha
  have hfree : ∀ b, b < w.heap.size → W.free b → (W.lay w.heap.size ob).free b := fun b hb hf => ⟨hf.1, by
    show (if b = w.heap.size then some ob else W.ex b) = none
    rw [if_neg (by omega)]; exact hf.2⟩
  refine ⟨h.below.alloc h.below.size _, h.fresh, fun r p B hp hB => by have := h.lt r p B hp hB; simp; omega, fun r vs e hr => ?_, fun r vs hr => ?_, fun r kv hr => ?_, h.inj, h.laid, fun b o he => ?_, fun r p B hp hB => ?_⟩
  · obtain ⟨p, c, hp, hb, hc, hs, hn, hvs⟩ := h.own r vs e hr
    have hlt := h.lt _ _ _ hp hr
    exact ⟨p, c, hp, hfree _ hlt hb, by rw [hold _ hlt]; exact hc, hs, hn, hvs⟩
  · obtain ⟨p, hp, hvs⟩ := h.ro r vs hr
    exact ⟨p, hp, fun i v hi => by obtain ⟨v', h1, h2⟩ := hvs i v hi; exact ⟨v', by rw [hcell _ (h.lt _ _ _ hp hr)]; exact h1, h2⟩⟩
  · obtain ⟨p, es, ck, hp, hb, hm, hlen, hk⟩ := h.mp r kv hr
    have hlt := h.lt _ _ _ hp hr
    exact ⟨p, es, ck, hp, hfree _ hlt hb, by rw [hold _ hlt]; exact hm, hlen, hk⟩
  · replace he : (if b = w.heap.size then some ob else W.ex b) = some o := he
    by_cases hb : b = w.heap.size
    · rw [if_pos hb] at he; cases he; subst hb; exact heap_alloc_new w _
    · rw [if_neg hb] at he
      rw [hold b (h.exLt he)]; exact h.extra b o he
  · have hlt := h.lt r p B hp hB
    show (if p.b = w.heap.size then some ob else W.ex p.b) = none
    rw [if_neg (by omega)]; exact h.apart r p B hp hB

/-- What was laid aside is taken in. -/
theorem Rel.adopt {b : Nat} {cur : Array Value} {e : TypeId} (h : Rel (W.lay b (.cells cur e (0, 0))) μ σ w) (hf : W.free b) (vs : List Value) (hl : vs.length ≤ cur.size) (hv : ∀ (i : Nat) (v : Value), vs[i]? = some v → ∃ v', cur[i]? = some v' ∧ VRel μ v v') :
    μ.le (μ.put σ.next ⟨b, 0, cur.size⟩) ∧ Rel W (μ.put σ.next ⟨b, 0, cur.size⟩) (σ.new (.own vs e)) w := by
  have hle : μ.le (μ.put σ.next ⟨b, 0, cur.size⟩) := Mp.put_le (h.fresh _ (Nat.le_refl _)).1
  have hput : (μ.put σ.next ⟨b, 0, cur.size⟩) σ.next = some ⟨b, 0, cur.size⟩ := by simp [Mp.put]
  have hex : (W.lay b (.cells cur e (0, 0))).ex b = some (.cells cur e (0, 0)) := by simp [Base.lay]
  have hb0 := h.extra b _ hex
  have hne : ∀ r p B, μ r = some p → σ.get r = some B → p.b ≠ b := fun r p B hp hB hpb => by
    have := h.apart r p B hp hB
    rw [hpb, hex] at this; cases this
  have hlay : ∀ k o, W.ex k = some o → (W.lay b (.cells cur e (0, 0))).ex k = some o := fun k o he => by
    show (if k = b then _ else W.ex k) = some o
    rw [if_neg (fun e => by subst e; rw [hf.2] at he; cases he)]; exact he
  have hunlay : ∀ k, (W.lay b (.cells cur e (0, 0))).ex k = none → W.ex k = none := fun k he => by
    cases hk : W.ex k with
    | none => rfl
    | some o => rw [hlay k o hk] at he; cases he
  refine ⟨hle, h.below, ?_, ?_, ?_, ?_, ?_, ?_, h.laid, fun k o he => h.extra k o (hlay k o he), fun r q B hq hB => ?_⟩
  · intro r hr
    have hr' : σ.next + 1 ≤ r := hr
    have hne : r ≠ σ.next := by omega
    have := h.fresh r (by omega)
    exact ⟨by simp [Mp.put, hne, this.1], by simp [St.new, hne, this.2]⟩
  · intro r p B hp hB
    simp only [Mp.put] at hp
    simp only [St.new] at hB
    split at hp
    · cases hp; exact (Array.getElem?_eq_some_iff.1 hb0).1
    · rename_i hne
      rw [if_neg hne] at hB
      exact h.lt r p B hp hB
  · intro r us e' hr
    simp only [St.new] at hr
    split at hr
    · rename_i hrn
      subst hrn
      cases hr
      exact ⟨_, cur, hput, hf, hb0, rfl, by simpa using hl, fun i v hi => by obtain ⟨v', h1, h2⟩ := hv i v hi; exact ⟨v', by simpa using h1, h2.mono hle⟩⟩
    · obtain ⟨p, c, hp, hb, hc, hs, hn, hvs⟩ := h.own r us e' hr
      exact ⟨p, c, hle _ _ hp, ⟨hb.1, hunlay _ hb.2⟩, hc, hs, hn, fun i v hi => by obtain ⟨v', h1, h2⟩ := hvs i v hi; exact ⟨v', h1, h2.mono hle⟩⟩
  · intro r us hr
    simp only [St.new] at hr
    split at hr
    · cases hr
    · obtain ⟨p, hp, hvs⟩ := h.ro r us hr
      exact ⟨p, hle _ _ hp, fun i v hi => by obtain ⟨v', h1, h2⟩ := hvs i v hi; exact ⟨v', h1, h2.mono hle⟩⟩
  · intro r kv hr
    simp only [St.new] at hr
    split at hr
    · cases hr
    · obtain ⟨p, es, ck, hp, hb, hm, hlen, hk⟩ := h.mp r kv hr
      exact ⟨p, es, ck, hle _ _ hp, ⟨hb.1, hunlay _ hb.2⟩, hm, hlen, fun i k v e hi he => by obtain ⟨h1, h2, h3⟩ := hk i k v e hi he; exact ⟨h1, h2.mono hle, h3⟩⟩
  · intro r r' B B' p p' hr hw hr' hp hp' hpb
    simp only [St.new] at hr hr'
    simp only [Mp.put] at hp hp'
    split at hp <;> split at hp'
    · rename_i h1 h2; rw [h1, h2]
    · rename_i h1 h2; cases hp; rw [if_neg h2] at hr'; exact absurd hpb.symm (hne r' p' _ hp' hr')
    · rename_i h1 h2; cases hp'; rw [if_neg h1] at hr; exact absurd hpb (hne r p _ hp hr)
    · rename_i h1 h2
      rw [if_neg h1] at hr
      rw [if_neg h2] at hr'
      exact h.inj r r' B B' p p' hr hw hr' hp hp' hpb
  · simp only [Mp.put] at hq
    simp only [St.new] at hB
    split at hq
    · cases hq; exact hf.2
    · rename_i hn
      rw [if_neg hn] at hB
      exact hunlay _ (h.apart r q B hq hB)
end Go.AM
