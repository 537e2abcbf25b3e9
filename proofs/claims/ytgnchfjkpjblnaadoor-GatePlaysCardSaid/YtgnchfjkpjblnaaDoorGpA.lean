/-
  THE GATE's calls, one by one: what each answers, what it leaves.
-/
import Derived.Test.YtgnchfjkpjblnaaDoorAm20
import Derived.Test.YtgnchfjkpjblnaaDoorGpE
set_option linter.unusedVariables false
set_option linter.unusedSimpArgs false
set_option linter.unusedSectionVars false
namespace Go.AM.Gp
open Go.Proofs

structure Cal where
  id : Int
  block : Int
  data : ByteArray
def c3 (c : Cal) : List Value := [.int .i64 c.id, .int .i64 c.block, .string c.data]
theorem c3_len (c : Cal) : (c3 c).length = 3 := rfl
theorem c3_one (c : Cal) : (c3 c).all oneCell = true := rfl
def Cal.agg (c : Cal) : Value := .agg [.int .i64 c.id, .int .i64 c.block, .string c.data].toArray

/-- What a gate holds. -/
structure GS where
  round : Int
  left : Int
  latest : Int
  w : List Cal
def GS.freeze (g : GS) (r t : Int) : Option GS := if r < 1 then none else if t < 1 then none else if r ≠ g.round ∧ r ≤ g.latest then none else some ⟨r, t, r, g.w⟩
def GS.open (g : GS) : GS := ⟨0, 0, g.latest, []⟩
def GS.tick (g : GS) : GS × List Cal := if g.round = 0 then (g, []) else if g.left - 1 > 0 then (⟨g.round, g.left - 1, g.latest, g.w⟩, []) else (g.open, g.w)
def GS.thaw (g : GS) (r : Int) : Option (GS × List Cal) := if g.round = 0 then none else if g.round ≠ r then none else some (g.open, g.w)
structure GS.Ok (g : GS) : Prop where
  idle : g.round = 0 → g.w = []
  few : g.w.length ≤ 4
  left : 0 ≤ g.left ∧ g.left ≤ 9223372036854775807
  left1 : g.round ≠ 0 → 1 ≤ g.left
  round : 0 ≤ g.round
  late : g.round ≠ 0 → g.round = g.latest
  latest : 0 ≤ g.latest
theorem GS.Ok.open {g : GS} (h : g.Ok) : g.open.Ok := ⟨fun _ => rfl, by simp [GS.open], by simp [GS.open], by simp [GS.open], by simp [GS.open], by simp [GS.open], h.latest⟩
theorem GS.Ok.freeze {g g' : GS} (h : g.Ok) {r t : Int} (ht : t ≤ 9223372036854775807) (e : g.freeze r t = some g') : g'.Ok ∧ g' = ⟨r, t, r, g.w⟩ ∧ 1 ≤ r ∧ 1 ≤ t ∧ (r = g.round ∨ g.latest < r) := by
  unfold GS.freeze at e
  split at e
  · cases e
  split at e
  · cases e
  split at e
  · cases e
  rename_i h1 h2 h3
  simp only [Option.some.injEq] at e
  subst e
  refine ⟨⟨fun h0 => ?_, h.few, ⟨?_, ht⟩, fun _ => ?_, ?_, fun _ => rfl, ?_⟩, rfl, by omega, by omega, by omega⟩ <;> simp only at * <;> omega
theorem GS.Ok.tick {g : GS} (h : g.Ok) : g.tick.1.Ok := by
  unfold GS.tick
  split
  · exact h
  split
  · rename_i h1 h2
    have := h.left
    exact ⟨fun h0 => absurd h0 h1, h.few, ⟨by simp only; omega, by simp only; omega⟩, fun _ => by simp only; omega, h.round, h.late, h.latest⟩
  · exact h.open
theorem GS.Ok.thaw {g : GS} (h : g.Ok) {r : Int} {p : GS × List Cal} (e : g.thaw r = some p) : p = (g.open, g.w) ∧ g.round ≠ 0 := by
  unfold GS.thaw at e
  split at e
  · cases e
  split at e
  · cases e
  · exact ⟨(Option.some.inj e).symm, by assumption⟩

/-- A gate: what it holds, of which blocks. -/
structure Gate (σ : St) (a : Nat) (F : List Nat) (g : GS) : Prop where
  ex : ∃ qs ad z, F = a :: qs ∧ a ∉ qs ∧ σ.get a = some (.own [.int .i64 g.round, .int .i64 g.left, .int .i64 g.latest, .slice ad g.w.length z] 44) ∧ Row c3 3 56 σ ad z qs g.w
  lt : ∀ q ∈ F, q < σ.next
theorem Gate.same {σ σ' : St} {a : Nat} {F S : List Nat} {g : GS} (h : Gate σ a F g) (hs : Same σ σ' S) (hF : ∀ q ∈ F, q ∉ S) : Gate σ' a F g := by
  obtain ⟨qs, ad, z, rfl, h1, h2, h3⟩ := h.ex
  exact ⟨⟨qs, ad, z, rfl, h1, by rw [hs.2 a (h.lt a (by simp)) (hF a (by simp))]; exact h2, h3.same hs (fun q hq => hF q (by simp [hq]))⟩, fun q hq => by have := h.lt q hq; have := hs.1; omega⟩
theorem Gate.idle {σ σ' : St} {a : Nat} {F : List Nat} {g : GS} (h : Gate σ a F g) (hs : Same σ σ' []) : Gate σ' a F g := h.same hs (by simp)

theorem new_spec (L k : Nat) (σ : St) : ∃ σ', evCall Tryd.prog env L (k + 1) 7 [] σ = some (.pointer (some ⟨σ.next, 0, none⟩), σ') ∧ Gate σ' σ.next [σ.next] ⟨0, 0, 0, []⟩ ∧ Same σ σ' [] := by
  rw [f7_eq]
  exact ⟨_, rfl, ⟨⟨[], none, 0, rfl, by simp, by rw [get_new_same]; rfl, Row.nil _ _ _ _⟩, by simp⟩, Same.new _ _ _⟩

/-- The number of the error. -/
def fcode (r t : Int) : Int := if r < 1 then 1 else if t < 1 then 1 else 10

section
variable {σ : St} {a : Nat} {F : List Nat} {g : GS} (h : Gate σ a F g) (L k : Nat)
include h
theorem frozen_spec : evCall Tryd.prog env L (k + 1) 12 [.pointer (some ⟨a, 0, none⟩)] σ = some (.int .i64 g.round, σ) := by
  obtain ⟨qs, ad, z, rfl, hne, hg, hrow⟩ := h.ex
  rw [f12_eq, ld_at hg 0 _ rfl, asI_i]
theorem waiting_spec : evCall Tryd.prog env L (k + 1) 23 [.pointer (some ⟨a, 0, none⟩)] σ = some (.int .i64 g.w.length, σ) := by
  obtain ⟨qs, ad, z, rfl, hne, hg, hrow⟩ := h.ex
  rw [f23_eq, ld_at hg 3 _ rfl, asSl_s]

/-- The head's words are others: the thing's blocks stay. -/
theorem Gate.head {r l t : Int} {σ' : St} (hs : Same σ σ' [a]) (hg : ∀ ad z, σ.get a = some (.own [.int .i64 g.round, .int .i64 g.left, .int .i64 g.latest, .slice ad g.w.length z] 44) → σ'.get a = some (.own [.int .i64 r, .int .i64 l, .int .i64 t, .slice ad g.w.length z] 44)) :
    Gate σ' a F ⟨r, l, t, g.w⟩ ∧ Turn σ σ' F F := by
  obtain ⟨qs, ad, z, rfl, hne, hg0, hrow⟩ := h.ex
  have hlt := h.lt
  have hn := hs.1
  exact ⟨⟨⟨qs, ad, z, rfl, hne, hg _ _ hg0, hrow.same hs (fun q hq => by simp; rintro rfl; exact hne hq)⟩, fun q hq => by have := hlt q hq; omega⟩, hs.mono (by simp), fun q hq => ⟨.inl hq, by have := hlt q hq; omega⟩⟩

theorem freeze_spec (r t : Int) : (∃ g' σ', g.freeze r t = some g' ∧ evCall Tryd.prog env L (k + 3) 8 [.pointer (some ⟨a, 0, none⟩), .int .i64 r, .int .i64 t] σ = some (.nilIface, σ') ∧ Gate σ' a F g' ∧ Turn σ σ' F F) ∨
    (∃ v σ', g.freeze r t = none ∧ evCall Tryd.prog env L (k + 3) 8 [.pointer (some ⟨a, 0, none⟩), .int .i64 r, .int .i64 t] σ = some (v, σ') ∧ Err σ' v (fcode r t) r ∧ Same σ σ' []) := by
  have h' := h
  obtain ⟨qs, ad, z, rfl, hne, hg, hrow⟩ := h.ex
  rw [f8_eq]
  unfold GS.freeze
  by_cases h1 : r < 1
  · obtain ⟨v, σ', g1, g2⟩ := wrong_spec L k σ r 1 (by omega)
    rw [decide_eq_true h1, br_true, g1, bnd_some]
    exact .inr ⟨v, σ', by rw [if_pos h1], rfl, by unfold fcode; rw [if_pos h1]; exact g2⟩
  rw [decide_eq_false h1, br_false]
  by_cases h2 : t < 1
  · obtain ⟨v, σ', g1, g2⟩ := wrong_spec L k σ r 1 (by omega)
    rw [decide_eq_true h2, br_true, g1, bnd_some]
    exact .inr ⟨v, σ', by rw [if_neg h1, if_pos h2], rfl, by unfold fcode; rw [if_neg h1, if_pos h2]; exact g2⟩
  rw [decide_eq_false h2, br_false, ld_at hg 0 _ rfl, asI_i]
  have hput : ∃ σ', (∀ K : St → Res, (σ.put a 0 [.int .i64 r] fun v11 => St.put v11 a 2 [.int .i64 r] fun v12 => St.put v12 a 1 [.int .i64 t] K) = K σ') ∧ Same σ σ' [a] ∧ σ'.get a = some (.own [.int .i64 r, .int .i64 t, .int .i64 r, .slice ad g.w.length z] 44) := by
    have g1 : (σ.set a (.own (List.set [.int .i64 g.round, .int .i64 g.left, .int .i64 g.latest, .slice ad g.w.length z] 0 (.int .i64 r)) 44)).get a = some (.own [.int .i64 r, .int .i64 g.left, .int .i64 g.latest, .slice ad g.w.length z] 44) := by rw [get_set_same]; rfl
    have s1 := Same.set σ a (.own (List.set [.int .i64 g.round, .int .i64 g.left, .int .i64 g.latest, .slice ad g.w.length z] 0 (.int .i64 r)) 44)
    have p1 := fun K => put_int hg 0 .i64 r (by simp) K
    generalize σ.set a (.own (List.set [.int .i64 g.round, .int .i64 g.left, .int .i64 g.latest, .slice ad g.w.length z] 0 (.int .i64 r)) 44) = σ1 at g1 s1 p1
    have g2 : (σ1.set a (.own (List.set [.int .i64 r, .int .i64 g.left, .int .i64 g.latest, .slice ad g.w.length z] 2 (.int .i64 r)) 44)).get a = some (.own [.int .i64 r, .int .i64 g.left, .int .i64 r, .slice ad g.w.length z] 44) := by rw [get_set_same]; rfl
    have s2 := Same.set σ1 a (.own (List.set [.int .i64 r, .int .i64 g.left, .int .i64 g.latest, .slice ad g.w.length z] 2 (.int .i64 r)) 44)
    have p2 := fun K => put_int g1 2 .i64 r (by simp) K
    generalize σ1.set a (.own (List.set [.int .i64 r, .int .i64 g.left, .int .i64 g.latest, .slice ad g.w.length z] 2 (.int .i64 r)) 44) = σ2 at g2 s2 p2
    have p3 := fun K => put_int g2 1 .i64 t (by simp) K
    exact ⟨_, fun K => by rw [p1, p2, p3], (s1.trans s2).trans (Same.set _ _ _), by rw [get_set_same]; rfl⟩
  obtain ⟨σ', hp, hs, hg'⟩ := hput
  have hhead := h'.head (r := r) (l := t) (t := r) hs (fun ad' z' e => by
    rw [hg] at e; simp only [Option.some.injEq, Blk.own.injEq, List.cons.injEq, Value.slice.injEq, and_true, true_and] at e
    obtain ⟨rfl, rfl⟩ := e; exact hg')
  by_cases h3 : r = g.round
  · rw [show (r != g.round) = false by simpa using h3, br_false, hp]
    exact .inl ⟨_, σ', by rw [if_neg h1, if_neg h2, if_neg (by omega)], rfl, hhead.1, hhead.2⟩
  · rw [show (r != g.round) = true by simpa using h3, br_true, ld_at hg 2 _ rfl, asI_i]
    by_cases h4 : r ≤ g.latest
    · obtain ⟨v, σ', g1, g2⟩ := wrong_spec L k σ r 10 (by omega)
      rw [decide_eq_true h4, br_true, g1, bnd_some]
      exact .inr ⟨v, σ', by rw [if_neg h1, if_neg h2, if_pos ⟨h3, h4⟩], rfl, by unfold fcode; rw [if_neg h1, if_neg h2]; exact g2⟩
    · rw [decide_eq_false h4, br_false, hp]
      exact .inl ⟨_, σ', by rw [if_neg h1, if_neg h2, if_neg (by omega)], rfl, hhead.1, hhead.2⟩

/-- A gate opens: what waited is told. -/
theorem opens_put {l : Int} {ad : Option Addr} {z : Nat} {qs : List Nat} (hF : F = a :: qs) (hne : a ∉ qs) {σ1 : St} (hs : Same σ σ1 [a]) (hg : σ1.get a = some (.own [.int .i64 g.round, .int .i64 l, .int .i64 g.latest, .slice ad g.w.length z] 44)) (hrow : Row c3 3 56 σ ad z qs g.w) :
    ∃ σ', (∀ K : St → Res, (σ1.put a 3 [.slice none 0 0] fun v10 => St.put v10 a 0 [.int .i64 0] fun v11 => St.put v11 a 1 [.int .i64 0] K) = K σ') ∧ Gate σ' a [a] g.open ∧ Row c3 3 56 σ' ad z qs g.w ∧ Turn σ σ' F [a] := by
  subst hF
  have hlt := h.lt
  have hal := hlt a (by simp)
  have g1 : (σ1.set a (.own (List.set [.int .i64 g.round, .int .i64 l, .int .i64 g.latest, .slice ad g.w.length z] 3 (.slice none 0 0)) 44)).get a = some (.own [.int .i64 g.round, .int .i64 l, .int .i64 g.latest, .slice none 0 0] 44) := by rw [get_set_same]; rfl
  have s1 := Same.set σ1 a (.own (List.set [.int .i64 g.round, .int .i64 l, .int .i64 g.latest, .slice ad g.w.length z] 3 (.slice none 0 0)) 44)
  have p1 := fun K => put_sl hg 3 none 0 0 (by simp) K
  generalize σ1.set a (.own (List.set [.int .i64 g.round, .int .i64 l, .int .i64 g.latest, .slice ad g.w.length z] 3 (.slice none 0 0)) 44) = σ2 at g1 s1 p1
  have g2 : (σ2.set a (.own (List.set [.int .i64 g.round, .int .i64 l, .int .i64 g.latest, .slice none 0 0] 0 (.int .i64 0)) 44)).get a = some (.own [.int .i64 0, .int .i64 l, .int .i64 g.latest, .slice none 0 0] 44) := by rw [get_set_same]; rfl
  have s2 := Same.set σ2 a (.own (List.set [.int .i64 g.round, .int .i64 l, .int .i64 g.latest, .slice none 0 0] 0 (.int .i64 0)) 44)
  have p2 := fun K => put_int g1 0 .i64 0 (by simp) K
  generalize σ2.set a (.own (List.set [.int .i64 g.round, .int .i64 l, .int .i64 g.latest, .slice none 0 0] 0 (.int .i64 0)) 44) = σ3 at g2 s2 p2
  have p3 := fun K => put_int g2 1 .i64 0 (by simp) K
  have s3 := Same.set σ3 a (.own (List.set [.int .i64 0, .int .i64 l, .int .i64 g.latest, .slice none 0 0] 1 (.int .i64 0)) 44)
  have hs4 := ((hs.trans s1).trans s2).trans s3
  have hn4 := hs4.1
  exact ⟨_, fun K => by rw [p1, p2, p3], ⟨⟨[], none, 0, rfl, by simp, by rw [get_set_same]; rfl, Row.nil _ _ _ _⟩, fun q hq => by simp at hq; omega⟩,
    hrow.same hs4 (fun q hq => by simp; rintro rfl; exact hne hq), hs4.mono (by simp), fun q hq => by simp at hq; subst hq; exact ⟨.inl (by simp), by omega⟩⟩

theorem tick_spec (hok : g.Ok) : ∃ ad z qo σ' F', evCall Tryd.prog env L (k + 2) 10 [.pointer (some ⟨a, 0, none⟩)] σ = some (.slice ad g.tick.2.length z, σ') ∧ Gate σ' a F' g.tick.1 ∧ Row c3 3 56 σ' ad z qo g.tick.2 ∧ Turn σ σ' F F' ∧ ∀ q ∈ qo, q ∈ F := by
  rw [f10_eq, frozen_spec h, bnd_some, asI_i]
  have h' := h
  obtain ⟨qs, ad, z, hF, hne, hg, hrow⟩ := h.ex
  unfold GS.tick
  by_cases h0 : g.round = 0
  · rw [show (g.round == 0) = true by simpa using h0, br_true, if_pos h0]
    exact ⟨none, 0, [], σ, F, rfl, h, Row.nil _ _ _ _, .idle (Same.refl _ _) h.lt, by simp⟩
  · have hl := hok.left
    have hl1 := hok.left1 h0
    rw [show (g.round == 0) = false by simpa using h0, br_false, if_neg h0, f25_eq, show ((0 : Int) == 0) = true from rfl, br_true, ld_at hg 1 _ rfl, asI_i, wrap_in _ (by omega) (by omega), put_int hg 1 _ _ (by simp)]
    have g1 : (σ.set a (.own (List.set [.int .i64 g.round, .int .i64 g.left, .int .i64 g.latest, .slice ad g.w.length z] 1 (.int .i64 (g.left - 1))) 44)).get a = some (.own [.int .i64 g.round, .int .i64 (g.left - 1), .int .i64 g.latest, .slice ad g.w.length z] 44) := by rw [get_set_same]; rfl
    have s1 := Same.set σ a (.own (List.set [.int .i64 g.round, .int .i64 g.left, .int .i64 g.latest, .slice ad g.w.length z] 1 (.int .i64 (g.left - 1))) 44)
    generalize σ.set a (.own (List.set [.int .i64 g.round, .int .i64 g.left, .int .i64 g.latest, .slice ad g.w.length z] 1 (.int .i64 (g.left - 1))) 44) = σ1 at g1 s1
    rw [ld_at g1 1 _ rfl, asI_i]
    by_cases h1 : g.left - 1 > 0
    · have hhead := h'.head (r := g.round) (l := g.left - 1) (t := g.latest) s1 (fun ad' z' e => by
        rw [hg] at e; simp only [Option.some.injEq, Blk.own.injEq, List.cons.injEq, Value.slice.injEq, and_true, true_and] at e
        obtain ⟨rfl, rfl⟩ := e; exact g1)
      rw [decide_eq_true h1, br_true, if_pos h1, bnd_some, asSl_s]
      exact ⟨none, 0, [], σ1, F, rfl, hhead.1, Row.nil _ _ _ _, hhead.2, by simp⟩
    · obtain ⟨σ2, p, hG, hR, hT⟩ := opens_put h hF hne s1 g1 hrow
      rw [decide_eq_false h1, br_false, if_neg h1, ld_at g1 3 _ rfl, asSl_s, p, bnd_some, asSl_s]
      exact ⟨ad, z, qs, σ2, [a], rfl, hG, hR, hT, fun q hq => by rw [hF]; simp [hq]⟩

theorem thaw_spec (r : Int) : (∃ ad z qo σ', g.thaw r = some (g.open, g.w) ∧ evCall Tryd.prog env L (k + 3) 9 [.pointer (some ⟨a, 0, none⟩), .int .i64 r] σ = some (.tuple #[.slice ad g.w.length z, .nilIface], σ') ∧ Gate σ' a [a] g.open ∧ Row c3 3 56 σ' ad z qo g.w ∧ Turn σ σ' F [a] ∧ ∀ q ∈ qo, q ∈ F) ∨
    (∃ v σ', g.thaw r = none ∧ evCall Tryd.prog env L (k + 3) 9 [.pointer (some ⟨a, 0, none⟩), .int .i64 r] σ = some (.tuple #[.slice none 0 0, v], σ') ∧ Err σ' v 9 r ∧ Same σ σ' []) := by
  obtain ⟨qs, ad, z, hF, hne, hg, hrow⟩ := h.ex
  rw [f9_eq, ld_at hg 0 _ rfl, asI_i]
  unfold GS.thaw
  by_cases h0 : g.round = 0
  · obtain ⟨v, σ', g1, g2⟩ := wrong_spec L k σ r 9 (by omega)
    rw [show (g.round == 0) = true by simpa using h0, br_true, g1, bnd_some, if_pos h0]
    exact .inr ⟨v, σ', rfl, rfl, g2⟩
  rw [show (g.round == 0) = false by simpa using h0, br_false, ld_at hg 0 _ rfl, asI_i, if_neg h0]
  by_cases h1 : g.round = r
  · obtain ⟨σ2, p, hG, hR, hT⟩ := opens_put h hF hne (Same.refl σ _) hg hrow
    rw [show (g.round != r) = false by simpa using h1, br_false, f25_eq, show ((2 : Int) == 0) = false from rfl, br_false, show ((2 : Int) == 1) = false from rfl, br_false, show ((2 : Int) == 2) = true from rfl, br_true, ld_at hg 3 _ rfl, asSl_s, p, bnd_some, asSl_s, if_neg (by omega)]
    exact .inl ⟨ad, z, qs, σ2, rfl, rfl, hG, hR, hT, fun q hq => by rw [hF]; simp [hq]⟩
  · obtain ⟨v, σ', g1, g2⟩ := wrong_spec L k σ r 9 (by omega)
    rw [show (g.round != r) = true by simpa using h1, br_true, g1, bnd_some, if_pos h1]
    exact .inr ⟨v, σ', rfl, rfl, g2⟩

theorem enter_spec (hok : g.Ok) (c : Cal) : (g.round = 0 ∧ ∃ σ', evCall Tryd.prog env L (k + 3) 18 [.pointer (some ⟨a, 0, none⟩), c.agg] σ = some (.tuple #[.bool true, .nilIface], σ') ∧ Same σ σ' []) ∨
    (g.round ≠ 0 ∧ 4 ≤ g.w.length ∧ ∃ v σ', evCall Tryd.prog env L (k + 3) 18 [.pointer (some ⟨a, 0, none⟩), c.agg] σ = some (.tuple #[.bool false, v], σ') ∧ Err σ' v 7 g.round ∧ Same σ σ' []) ∨
    (g.round ≠ 0 ∧ g.w.length < 4 ∧ ∃ σ' F', evCall Tryd.prog env L (k + 3) 18 [.pointer (some ⟨a, 0, none⟩), c.agg] σ = some (.tuple #[.bool false, .nilIface], σ') ∧ Gate σ' a F' ⟨g.round, g.left, g.latest, g.w ++ [c]⟩ ∧ Turn σ σ' F F') := by
  obtain ⟨qs, ad, z, rfl, hne, hg, hrow⟩ := h.ex
  have hlt := h.lt
  have hal := hlt a (by simp)
  unfold Cal.agg
  rw [f18_eq]
  generalize hσ1 : σ.new (Blk.own [Value.int IntKind.i64 c.id, Value.int IntKind.i64 c.block, Value.string c.data] 56) = σ1
  have hn1 : σ1.get σ.next = some (Blk.own [Value.int IntKind.i64 c.id, Value.int IntKind.i64 c.block, Value.string c.data] 56) := by rw [← hσ1, get_new_same]
  have hs1 : Same σ σ1 [] := by rw [← hσ1]; exact Same.new _ _ _
  have hx1 : σ1.next = σ.next + 1 := by rw [← hσ1]; rfl
  have hg1 : σ1.get a = _ := (hs1.2 a hal (by simp)).trans hg
  rw [ld_at hg1 0 _ rfl, asI_i]
  by_cases h0 : g.round = 0
  · rw [show (g.round == 0) = true by simpa using h0, br_true]
    exact .inl ⟨h0, σ1, rfl, hs1⟩
  rw [show (g.round == 0) = false by simpa using h0, br_false, ld_at hg1 3 _ rfl, asSl_s]
  by_cases h4 : (g.w.length : Int) ≥ 4
  · obtain ⟨v, σ', g1, g2⟩ := wrong_spec L k σ1 g.round 7 (by omega)
    rw [decide_eq_true h4, br_true, ld_at hg1 0 _ rfl, asI_i, g1, bnd_some]
    exact .inr (.inl ⟨h0, by omega, v, σ', rfl, g2.1, hs1.trans g2.2⟩)
  · rw [decide_eq_false h4, br_false, ld_at hg1 3 _ rfl, asSl_s, lds_all (n := 3) hn1 rfl, uncons_c, asI_i, uncons_c, asI_i, uncons_c, asS_s, endl_n]
    generalize hσ3 : σ1.new (Blk.own [Value.int IntKind.i64 c.id, Value.int IntKind.i64 c.block, Value.string c.data] 56) = σ3
    have hn3 : σ3.get σ1.next = some (Blk.own [Value.int IntKind.i64 c.id, Value.int IntKind.i64 c.block, Value.string c.data] 56) := by rw [← hσ3, get_new_same]
    have hs3 : Same σ1 σ3 [] := by rw [← hσ3]; exact Same.new _ _ _
    have hs13 := hs1.trans hs3
    have h3n := hs13.1
    have hg3 : σ3.get a = _ := (hs13.2 a hal (by simp)).trans hg
    have hrow3 := hrow.same hs13 (fun _ _ => by simp)
    rw [ld_at hg3 3 _ rfl, asSl_s, chk_same, row_all (n := 3) hn3 rfl (by omega)]
    obtain ⟨ad', z', qs', σ4, hgrow, hrow4, hs4, hq4⟩ := grow_row (by_ := 32) hrow3 c3_len c3_one (by omega) [c] [.int .i64 c.id, .int .i64 c.block, .string c.data] rfl 1 rfl (by unfold roomTop; omega) (by unfold sizeTop; omega)
    rw [hgrow]
    have hg4 : σ4.get a = _ := (hs4.2 a (by omega) hne).trans hg3
    have h4n := hs4.1
    rw [put_sl hg4 3 _ _ _ (by simp)]
    have hs5 := Same.set σ4 a (.own (List.set [.int .i64 g.round, .int .i64 g.left, .int .i64 g.latest, .slice ad g.w.length z] 3 (.slice ad' (g.w.length + 1) z')) 44)
    have hg5 : (σ4.set a (.own (List.set [.int .i64 g.round, .int .i64 g.left, .int .i64 g.latest, .slice ad g.w.length z] 3 (.slice ad' (g.w.length + 1) z')) 44)).get a = some (.own [.int .i64 g.round, .int .i64 g.left, .int .i64 g.latest, .slice ad' (g.w ++ [c]).length z'] 44) := by rw [get_set_same, List.length_append]; rfl
    generalize σ4.set a (.own (List.set [.int .i64 g.round, .int .i64 g.left, .int .i64 g.latest, .slice ad g.w.length z] 3 (.slice ad' (g.w.length + 1) z')) 44) = σ5 at hs5 hg5
    have h5n := hs5.1
    have hne' : a ∉ qs' := fun hx => by
      rcases hq4 a hx with hx | hx
      · exact hne hx
      · omega
    refine .inr (.inr ⟨h0, by omega, σ5, a :: qs', rfl, ⟨⟨qs', ad', z', rfl, hne', hg5, hrow4.same hs5 (fun q hq => by simp; rintro rfl; exact hne' hq)⟩, fun q hq => ?_⟩, ⟨⟨by omega, fun j hj hS => ?_⟩, fun q hq => ?_⟩⟩)
    · rcases List.mem_cons.1 hq with rfl | hq
      · omega
      · have := hrow4.lt q hq; omega
    · simp only [List.mem_cons, not_or] at hS
      rw [hs5.2 j (by omega) (by simp; exact hS.1), hs4.2 j (by omega) hS.2, hs13.2 j hj (by simp)]
    · rcases List.mem_cons.1 hq with rfl | hq
      · exact ⟨.inl (by simp), by omega⟩
      · refine ⟨?_, by have := hrow4.lt q hq; omega⟩
        rcases hq4 q hq with hq | hq
        · exact .inl (by simp [hq])
        · exact .inr (by omega)
end

theorem known_spec (L k : Nat) (σ : St) : evCall Tryd.prog env L (k + 1) 22 [.int .i64 7] σ = some (.bool true, σ) := by
  rw [f22_eq, show ((7 : Int) == 1) = false from rfl, br_false, show ((7 : Int) == 7) = true from rfl, br_true, br_true]

end Go.AM.Gp
