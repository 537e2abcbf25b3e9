/-
  RoundSafe, in plain words: what has been frozen, and marked, as a round goes on.
-/
import Derived.Test.YtmbofnomfmhmdaaRqE
set_option linter.unusedVariables false
set_option linter.unusedSimpArgs false
set_option linter.unusedSectionVars false
namespace Go.AM.Rq
open Go.Proofs

def bit (l : List Bool) (v : Int) : Bool := l.getD v.toNat false
theorem bit_set {l : List Bool} (hl : l.length = 4) {u v : Int} (hu : 0 ≤ u ∧ u < 4) (hv : 0 ≤ v ∧ v < 4) : bit (l.set u.toNat true) v = if v = u then true else bit l v := by
  unfold bit
  rw [List.getD_eq_getElem?_getD, List.getElem?_set, List.getD_eq_getElem?_getD]
  by_cases h : v = u
  · subst h; rw [if_pos rfl, if_pos rfl, if_pos (by omega)]; rfl
  · rw [if_neg h, if_neg (by omega)]

/-- What is known of a round, and of what was answered. -/
structure J (s : RS) (vs : List Int) (fz mk : List Bool) (late : Bool) : Prop where
  fl : fz.length = 4
  ml : mk.length = 4
  rng : ∀ v ∈ vs, 0 ≤ v ∧ v < 4
  on : s.number ≠ 0 → s.vols = vs ∧ vs ≠ [] ∧
    ((s.phase = 1 ∧ s.marked = false ∧ (∀ v ∈ vs, v ∈ s.an → bit fz v = true) ∧ (∀ v ∈ vs, bit mk v = false)) ∨
     (s.phase = 2 ∧ s.marked = false ∧ (∀ v ∈ vs, bit fz v = true) ∧ (∀ v ∈ vs, bit mk v = true ↔ v ∈ s.an)) ∨
     (s.phase = 3 ∧ ((s.marked = true ∧ ∀ v ∈ vs, bit mk v = true) ∨ (s.marked = false ∧ late = true ∧ ∃ v ∈ vs, bit mk v = false))))
def allB (b : List Bool) (vs : List Int) : Bool := vs.all (bit b)
/-- What must be of an answer. -/
def Okay (s s' : RS) (x : List Cmd) (vs : List Int) (fz mk : List Bool) (late : Bool) : Prop :=
  (∀ c ∈ x, (c.1 = 2 → allB fz vs = true) ∧ (c.1 = 3 → allB mk vs = true ∨ late = true)) ∧ (s.number ≠ 0 → s'.number = 0 → s'.done = s.number ∧ s'.complete = allB mk vs)
theorem Okay.idle {s : RS} {vs : List Int} {fz mk : List Bool} {late : Bool} : Okay s s [] vs fz mk late := ⟨by simp, fun h h' => absurd h' h⟩

theorem addTo_mem {v u : Int} {an : List Int} : u ∈ addTo v an ↔ u = v ∨ u ∈ an := by
  unfold addTo
  split
  · rename_i h; exact ⟨.inr, fun h' => h'.elim (fun e => e ▸ h) id⟩
  · rw [List.mem_append, List.mem_singleton]; exact ⟨fun h => h.elim .inr .inl, fun h => h.elim .inr .inl⟩

theorem all_in {s : RS} {v : Int} (h : RS.lack { s with an := addTo v s.an } = []) : ∀ u ∈ s.vols, u = v ∨ u ∈ s.an := by
  intro u hu
  unfold RS.lack at h
  have := List.filter_eq_nil_iff.1 h u hu
  exact addTo_mem.1 (Classical.byContradiction fun hc => this (decide_eq_true hc))
theorem allB_of {b : List Bool} {vs : List Int} (h : ∀ v ∈ vs, bit b v = true) : allB b vs = true := List.all_eq_true.2 h
theorem allB_no {b : List Bool} {vs : List Int} {v : Int} (hv : v ∈ vs) (h : bit b v = false) : allB b vs = false := by
  cases h' : allB b vs with
  | false => rfl
  | true => have := List.all_eq_true.1 h' v hv; rw [h] at this; cases this

theorem J.begin {s : RS} {number : Int} {l : List Int} (hg : Good l) (h0 : s.number = 0) : J { s with number := number, latest := number, vols := l, phase := 1, an := [], left := 6, marked := false, live := true } l [false, false, false, false] [false, false, false, false] false ∧
    Okay s { s with number := number, latest := number, vols := l, phase := 1, an := [], left := 6, marked := false, live := true } (l.map fun v => (1, v, number)) l [false, false, false, false] [false, false, false, false] false := by
  refine ⟨⟨rfl, rfl, hg.1, fun _ => ⟨rfl, hg.2.2, .inl ⟨rfl, rfl, by simp, fun v hv => ?_⟩⟩⟩, fun c hc => ?_, fun h => absurd h0 h⟩
  · have := hg.1 v hv
    have : v = 0 ∨ v = 1 ∨ v = 2 ∨ v = 3 := by omega
    rcases this with rfl | rfl | rfl | rfl <;> rfl
  · obtain ⟨v, _, rfl⟩ := List.mem_map.1 hc
    exact ⟨fun h => by simp at h, fun h => by simp at h⟩

theorem J.answered {s s' : RS} {vs : List Int} {fz mk : List Bool} {late : Bool} {v : Int} {x : List Cmd} (h : J s vs fz mk late) (hn : s.number ≠ 0) (hv : v ∈ s.vols) (ha : Answered s v x s') :
    J s' vs (if s.phase = 1 then fz.set v.toNat true else fz) (if s.phase = 2 then mk.set v.toNat true else mk) late ∧
      Okay s s' x vs (if s.phase = 1 then fz.set v.toNat true else fz) (if s.phase = 2 then mk.set v.toNat true else mk) late := by
  obtain ⟨e1, e2, hp⟩ := h.on hn
  have hvv : v ∈ vs := e1 ▸ hv
  have hv4 := h.rng v hvv
  have hfl : (if s.phase = 1 then fz.set v.toNat true else fz).length = 4 := by split; rw [List.length_set]; exact h.fl; exact h.fl
  have hml : (if s.phase = 2 then mk.set v.toNat true else mk).length = 4 := by split; rw [List.length_set]; exact h.ml; exact h.ml
  rcases hp with ⟨p1, p2, p3, p4⟩ | ⟨p1, p2, p3, p4⟩ | ⟨p1, p2⟩
  · have q2 : ¬ s.phase = 2 := by omega
    rw [if_neg q2] at hml ⊢
    rw [if_pos p1] at hfl ⊢
    have hset : ∀ u ∈ vs, u = v ∨ u ∈ s.an → bit (fz.set v.toNat true) u = true := fun u hu hor => by
      rw [bit_set h.fl hv4 (h.rng u hu)]
      split
      · rfl
      · exact p3 u hu (hor.resolve_left (by assumption))
    rcases ha with ⟨a1, rfl, rfl⟩ | ⟨a1, ⟨a2, rfl, rfl⟩ | ⟨a2, _⟩ | ⟨a2, _⟩⟩
    · exact ⟨⟨hfl, hml, h.rng, fun _ => ⟨e1, e2, .inl ⟨p1, p2, fun u hu hm => hset u hu (addTo_mem.1 hm), p4⟩⟩⟩, by simp, fun _ h0 => absurd h0 hn⟩
    · have hall : ∀ u ∈ vs, bit (fz.set v.toNat true) u = true := fun u hu => hset u hu (all_in a1 u (by rw [e1]; exact hu))
      refine ⟨⟨hfl, hml, h.rng, fun _ => ⟨e1, e2, .inr (.inl ⟨rfl, p2, hall, fun u hu => ⟨fun hb => ?_, fun hm => by cases hm⟩⟩)⟩⟩, fun c hc => ?_, fun _ h0 => absurd h0 hn⟩
      · rw [p4 u hu] at hb; cases hb
      · obtain ⟨w, _, rfl⟩ := List.mem_map.1 hc
        exact ⟨fun _ => allB_of hall, fun h3 => by simp at h3⟩
    · omega
    · omega
  · have q1 : ¬ s.phase = 1 := by omega
    rw [if_neg q1] at hfl ⊢
    rw [if_pos p1] at hml ⊢
    have hset : ∀ u ∈ vs, bit (mk.set v.toNat true) u = true ↔ u = v ∨ u ∈ s.an := fun u hu => by
      rw [bit_set h.ml hv4 (h.rng u hu)]
      split
      · rename_i e; exact ⟨fun _ => .inl e, fun _ => rfl⟩
      · rename_i e; rw [p4 u hu]; exact ⟨.inr, fun h => h.resolve_left e⟩
    rcases ha with ⟨a1, rfl, rfl⟩ | ⟨a1, ⟨a2, _⟩ | ⟨a2, rfl, rfl⟩ | ⟨a2, _⟩⟩
    · exact ⟨⟨hfl, hml, h.rng, fun _ => ⟨e1, e2, .inr (.inl ⟨p1, p2, p3, fun u hu => by rw [hset u hu]; exact addTo_mem.symm⟩)⟩⟩, by simp, fun _ h0 => absurd h0 hn⟩
    · omega
    · have hall : ∀ u ∈ vs, bit (mk.set v.toNat true) u = true := fun u hu => (hset u hu).2 (all_in a1 u (by rw [e1]; exact hu))
      refine ⟨⟨hfl, hml, h.rng, fun _ => ⟨e1, e2, .inr (.inr ⟨rfl, .inl ⟨rfl, hall⟩⟩)⟩⟩, fun c hc => ?_, fun _ h0 => absurd h0 hn⟩
      obtain ⟨w, _, rfl⟩ := List.mem_map.1 hc
      exact ⟨fun h3 => by simp at h3, fun _ => .inl (allB_of hall)⟩
    · omega
  · have q1 : ¬ s.phase = 1 := by omega
    have q2 : ¬ s.phase = 2 := by omega
    rw [if_neg q1] at hfl ⊢
    rw [if_neg q2] at hml ⊢
    rcases ha with ⟨a1, rfl, rfl⟩ | ⟨a1, ⟨a2, _⟩ | ⟨a2, _⟩ | ⟨a2, rfl, rfl⟩⟩
    · exact ⟨⟨hfl, hml, h.rng, fun _ => ⟨e1, e2, .inr (.inr ⟨p1, p2⟩)⟩⟩, by simp, fun _ h0 => absurd h0 hn⟩
    · omega
    · omega
    · refine ⟨⟨hfl, hml, h.rng, fun h0 => absurd rfl h0⟩, by simp, fun _ _ => ⟨rfl, ?_⟩⟩
      rcases p2 with ⟨m1, m2⟩ | ⟨m1, _, u, hu, m2⟩
      · exact m1.trans (allB_of m2).symm
      · exact m1.trans (allB_no hu m2).symm

theorem J.ticked {s s' : RS} {vs : List Int} {fz mk : List Bool} {late : Bool} {x : List Cmd} (h : J s vs fz mk late) (hi : Inv s) (ha : Ticked s x s') :
    J s' vs fz mk (late || decide (x ≠ [])) ∧ Okay s s' x vs fz mk (late || decide (x ≠ [])) := by
  have hlate : ∀ c ∈ x, (late || decide (x ≠ [])) = true := fun c hc => by rw [decide_eq_true (List.ne_nil_of_mem hc)]; simp
  rcases ha with ⟨a1, rfl, rfl⟩ | ⟨a1, a2, rfl, rfl⟩ | ⟨a1, a2, a3, rfl, rfl⟩ | ⟨a1, a2, a3, rfl, rfl⟩
  · rw [show (late || decide (([] : List Cmd) ≠ [])) = late by simp]
    exact ⟨⟨h.fl, h.ml, h.rng, fun h0 => absurd a1 h0⟩, Okay.idle⟩
  · rw [show (late || decide (([] : List Cmd) ≠ [])) = late by simp]
    exact ⟨⟨h.fl, h.ml, h.rng, h.on⟩, by simp, fun _ h0 => absurd h0 a1⟩
  · obtain ⟨e1, e2, hp⟩ := h.on a1
    have hl : (late || decide ((s.vols.map fun v => ((3, v, s.number) : Cmd)) ≠ [])) = true := by
      rw [decide_eq_true (by rw [e1]; simpa using e2)]; simp
    refine ⟨⟨h.fl, h.ml, h.rng, fun _ => ⟨e1, e2, .inr (.inr ⟨rfl, .inr ⟨?_, hl, ?_⟩⟩)⟩⟩, fun c hc => ⟨fun h2 => ?_, fun _ => .inr hl⟩, fun _ h0 => absurd h0 a1⟩
    · rcases hp with ⟨_, p2, _⟩ | ⟨_, p2, _⟩ | ⟨p1, _⟩
      · exact p2
      · exact p2
      · exact absurd p1 a3
    · rcases hp with ⟨_, _, _, p4⟩ | ⟨p1, _, _, p4⟩ | ⟨p1, _⟩
      · obtain ⟨u, hu⟩ := List.exists_mem_of_ne_nil _ e2
        exact ⟨u, hu, p4 u hu⟩
      · obtain ⟨u, hu⟩ := List.exists_mem_of_ne_nil _ (hi.lk a1)
        unfold RS.lack at hu
        rw [List.mem_filter, e1, decide_eq_true_eq] at hu
        refine ⟨u, hu.1, ?_⟩
        cases hb : bit mk u with
        | false => rfl
        | true => exact absurd ((p4 u hu.1).1 hb) hu.2
      · exact absurd p1 a3
    · obtain ⟨w, _, rfl⟩ := List.mem_map.1 hc
      simp at h2
  · have hx : ∀ c ∈ s.cmds, c.1 = 3 := fun c hc => by
      obtain ⟨w, _, rfl⟩ := List.mem_map.1 hc
      exact a3
    obtain ⟨e1, e2, hp⟩ := h.on a1
    refine ⟨⟨h.fl, h.ml, h.rng, fun _ => ⟨e1, e2, .inr (.inr ⟨a3, ?_⟩)⟩⟩, fun c hc => ⟨fun h2 => by have := hx c hc; omega, fun _ => .inr (hlate c hc)⟩, fun _ h0 => absurd h0 a1⟩
    rcases hp with ⟨p1, _⟩ | ⟨p1, _⟩ | ⟨_, p2⟩
    · omega
    · omega
    · rcases p2 with p2 | ⟨m1, m2, m3⟩
      · exact .inl p2
      · exact .inr ⟨m1, by rw [m2]; rfl, m3⟩
end Go.AM.Rq
