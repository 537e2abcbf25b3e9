/-
  GatePlays: the document's gate.
-/
import Derived.Test.YtgnchfjkpjblnaaDoorGpB
set_option linter.unusedVariables false
set_option linter.unusedSimpArgs false
set_option linter.unusedSectionVars false
namespace Go.AM.Gp
open Go.Proofs Go.RowKit

/-- The document's gate: what it holds, of which blocks. -/
structure RGate (σ : St) (a : Nat) (F : List Nat) (g : GS) : Prop where
  ex : ∃ qs ad z, F = a :: qs ∧ a ∉ qs ∧ σ.get a = some (.own [.int .i64 g.round, .int .i64 g.left, .int .i64 g.latest, .slice ad g.w.length z] 42) ∧ Row c3 3 46 σ ad z qs g.w
  lt : ∀ q ∈ F, q < σ.next
theorem RGate.same {σ σ' : St} {a : Nat} {F S : List Nat} {g : GS} (h : RGate σ a F g) (hs : Same σ σ' S) (hF : ∀ q ∈ F, q ∉ S) : RGate σ' a F g := by
  obtain ⟨qs, ad, z, rfl, h1, h2, h3⟩ := h.ex
  exact ⟨⟨qs, ad, z, rfl, h1, by rw [hs.2 a (h.lt a (by simp)) (hF a (by simp))]; exact h2, h3.same hs (fun q hq => hF q (by simp [hq]))⟩, fun q hq => by have := h.lt q hq; have := hs.1; omega⟩
theorem RGate.idle {σ σ' : St} {a : Nat} {F : List Nat} {g : GS} (h : RGate σ a F g) (hs : Same σ σ' []) : RGate σ' a F g := h.same hs (by simp)


section
variable {σ : St} {a : Nat} {F : List Nat} {g : GS} (h : RGate σ a F g) (L k : Nat)
include h
/-- The head's words are others: the thing's blocks stay. -/
theorem RGate.head {r l t : Int} {σ' : St} (hs : Same σ σ' [a]) (hg : ∀ ad z, σ.get a = some (.own [.int .i64 g.round, .int .i64 g.left, .int .i64 g.latest, .slice ad g.w.length z] 42) → σ'.get a = some (.own [.int .i64 r, .int .i64 l, .int .i64 t, .slice ad g.w.length z] 42)) :
    RGate σ' a F ⟨r, l, t, g.w⟩ ∧ Turn σ σ' F F := by
  obtain ⟨qs, ad, z, rfl, hne, hg0, hrow⟩ := h.ex
  have hlt := h.lt
  have hn := hs.1
  exact ⟨⟨⟨qs, ad, z, rfl, hne, hg _ _ hg0, hrow.same hs (fun q hq => by simp; rintro rfl; exact hne hq)⟩, fun q hq => by have := hlt q hq; omega⟩, hs.mono (by simp), fun q hq => ⟨.inl hq, by have := hlt q hq; omega⟩⟩


theorem rfreeze_spec (r t : Int) : (∃ g' σ', g.freeze r t = some g' ∧ evCall Tryd.prog env L (k + 1) 14 [.pointer (some ⟨a, 0, none⟩), .int .i64 r, .int .i64 t] σ = some (.int .i64 0, σ') ∧ RGate σ' a F g' ∧ Turn σ σ' F F) ∨
    (g.freeze r t = none ∧ evCall Tryd.prog env L (k + 1) 14 [.pointer (some ⟨a, 0, none⟩), .int .i64 r, .int .i64 t] σ = some (.int .i64 (fcode r t), σ)) := by
  have h' := h
  obtain ⟨qs, ad, z, rfl, hne, hg, hrow⟩ := h.ex
  rw [f14_eq]
  unfold GS.freeze fcode
  by_cases h1 : r < 1
  · rw [decide_eq_true h1, br_true, if_pos h1, if_pos h1]
    exact .inr ⟨rfl, rfl⟩
  rw [decide_eq_false h1, br_false, if_neg h1, if_neg h1]
  by_cases h2 : t < 1
  · rw [decide_eq_true h2, br_true, if_pos h2, if_pos h2]
    exact .inr ⟨rfl, rfl⟩
  rw [decide_eq_false h2, br_false, ld_at hg 0 _ rfl, asI_i, if_neg h2, if_neg h2]
  have hput : ∃ σ', (∀ K : St → Res, (σ.put a 0 [.int .i64 r] fun v11 => St.put v11 a 2 [.int .i64 r] fun v12 => St.put v12 a 1 [.int .i64 t] K) = K σ') ∧ Same σ σ' [a] ∧ σ'.get a = some (.own [.int .i64 r, .int .i64 t, .int .i64 r, .slice ad g.w.length z] 42) := by
    have g1 : (σ.set a (.own (List.set [.int .i64 g.round, .int .i64 g.left, .int .i64 g.latest, .slice ad g.w.length z] 0 (.int .i64 r)) 42)).get a = some (.own [.int .i64 r, .int .i64 g.left, .int .i64 g.latest, .slice ad g.w.length z] 42) := by rw [get_set_same]; rfl
    have s1 := Same.set σ a (.own (List.set [.int .i64 g.round, .int .i64 g.left, .int .i64 g.latest, .slice ad g.w.length z] 0 (.int .i64 r)) 42)
    have p1 := fun K => put_int hg 0 .i64 r (by simp) K
    generalize σ.set a (.own (List.set [.int .i64 g.round, .int .i64 g.left, .int .i64 g.latest, .slice ad g.w.length z] 0 (.int .i64 r)) 42) = σ1 at g1 s1 p1
    have g2 : (σ1.set a (.own (List.set [.int .i64 r, .int .i64 g.left, .int .i64 g.latest, .slice ad g.w.length z] 2 (.int .i64 r)) 42)).get a = some (.own [.int .i64 r, .int .i64 g.left, .int .i64 r, .slice ad g.w.length z] 42) := by rw [get_set_same]; rfl
    have s2 := Same.set σ1 a (.own (List.set [.int .i64 r, .int .i64 g.left, .int .i64 g.latest, .slice ad g.w.length z] 2 (.int .i64 r)) 42)
    have p2 := fun K => put_int g1 2 .i64 r (by simp) K
    generalize σ1.set a (.own (List.set [.int .i64 r, .int .i64 g.left, .int .i64 g.latest, .slice ad g.w.length z] 2 (.int .i64 r)) 42) = σ2 at g2 s2 p2
    have p3 := fun K => put_int g2 1 .i64 t (by simp) K
    exact ⟨_, fun K => by rw [p1, p2, p3], (s1.trans s2).trans (Same.set _ _ _), by rw [get_set_same]; rfl⟩
  obtain ⟨σ', hp, hs, hg'⟩ := hput
  have hhead := h'.head (r := r) (l := t) (t := r) hs (fun ad' z' e => by
    rw [hg] at e; simp only [Option.some.injEq, Blk.own.injEq, List.cons.injEq, Value.slice.injEq, and_true, true_and] at e
    obtain ⟨rfl, rfl⟩ := e; exact hg')
  by_cases h3 : r = g.round
  · rw [show (r != g.round) = false by simpa using h3, br_false, hp]
    exact .inl ⟨_, σ', by rw [if_neg (by omega)], rfl, hhead.1, hhead.2⟩
  · rw [show (r != g.round) = true by simpa using h3, br_true, ld_at hg 2 _ rfl, asI_i]
    by_cases h4 : r ≤ g.latest
    · rw [decide_eq_true h4, br_true]
      exact .inr ⟨by rw [if_pos ⟨h3, h4⟩], rfl⟩
    · rw [decide_eq_false h4, br_false, hp]
      exact .inl ⟨_, σ', by rw [if_neg (by omega)], rfl, hhead.1, hhead.2⟩

/-- It opens: what waited is told. -/
theorem ropen_spec {l : Int} {ad : Option Addr} {z : Nat} {qs : List Nat} (hF : F = a :: qs) (hne : a ∉ qs) {σ1 : St} (hs : Same σ σ1 [a]) (hg : σ1.get a = some (.own [.int .i64 g.round, .int .i64 l, .int .i64 g.latest, .slice ad g.w.length z] 42)) (hrow : Row c3 3 46 σ ad z qs g.w) :
    ∃ σ', evCall Tryd.prog env L (k + 1) 27 [.pointer (some ⟨a, 0, none⟩)] σ1 = some (.slice ad g.w.length z, σ') ∧ RGate σ' a [a] g.open ∧ Row c3 3 46 σ' ad z qs g.w ∧ Turn σ σ' F [a] := by
  subst hF
  have hlt := h.lt
  have hal := hlt a (by simp)
  rw [f27_eq, ld_at hg 3 _ rfl, asSl_s, put_int hg 0 _ _ (by simp)]
  have g1 : (σ1.set a (.own (List.set [.int .i64 g.round, .int .i64 l, .int .i64 g.latest, .slice ad g.w.length z] 0 (.int .i64 0)) 42)).get a = some (.own [.int .i64 0, .int .i64 l, .int .i64 g.latest, .slice ad g.w.length z] 42) := by rw [get_set_same]; rfl
  have s1 := Same.set σ1 a (.own (List.set [.int .i64 g.round, .int .i64 l, .int .i64 g.latest, .slice ad g.w.length z] 0 (.int .i64 0)) 42)
  generalize σ1.set a (.own (List.set [.int .i64 g.round, .int .i64 l, .int .i64 g.latest, .slice ad g.w.length z] 0 (.int .i64 0)) 42) = σ2 at g1 s1
  rw [put_int g1 1 _ _ (by simp)]
  have g2 : (σ2.set a (.own (List.set [.int .i64 0, .int .i64 l, .int .i64 g.latest, .slice ad g.w.length z] 1 (.int .i64 0)) 42)).get a = some (.own [.int .i64 0, .int .i64 0, .int .i64 g.latest, .slice ad g.w.length z] 42) := by rw [get_set_same]; rfl
  have s2 := Same.set σ2 a (.own (List.set [.int .i64 0, .int .i64 l, .int .i64 g.latest, .slice ad g.w.length z] 1 (.int .i64 0)) 42)
  generalize σ2.set a (.own (List.set [.int .i64 0, .int .i64 l, .int .i64 g.latest, .slice ad g.w.length z] 1 (.int .i64 0)) 42) = σ3 at g2 s2
  rw [put_sl g2 3 none 0 0 (by simp)]
  have s3 := Same.set σ3 a (.own (List.set [.int .i64 0, .int .i64 0, .int .i64 g.latest, .slice ad g.w.length z] 3 (.slice none 0 0)) 42)
  have hs4 := ((hs.trans s1).trans s2).trans s3
  have hn4 := hs4.1
  exact ⟨_, rfl, ⟨⟨[], none, 0, rfl, by simp, by rw [get_set_same]; rfl, Row.nil _ _ _ _⟩, fun q hq => by simp at hq; omega⟩,
    hrow.same hs4 (fun q hq => by simp; rintro rfl; exact hne hq), hs4.mono (by simp), fun q hq => by simp at hq; subst hq; exact ⟨.inl (by simp), by omega⟩⟩

theorem rtick_spec (hok : g.Ok) : ∃ ad z qo σ' F', evCall Tryd.prog env L (k + 2) 20 [.pointer (some ⟨a, 0, none⟩)] σ = some (.slice ad g.tick.2.length z, σ') ∧ RGate σ' a F' g.tick.1 ∧ Row c3 3 46 σ' ad z qo g.tick.2 ∧ Turn σ σ' F F' := by
  have h' := h
  obtain ⟨qs, ad, z, hF, hne, hg, hrow⟩ := h.ex
  rw [f20_eq, ld_at hg 0 _ rfl, asI_i]
  unfold GS.tick
  by_cases h0 : g.round = 0
  · rw [show (g.round == 0) = true by simpa using h0, br_true, if_pos h0]
    exact ⟨none, 0, [], σ, F, rfl, h, Row.nil _ _ _ _, .idle (Same.refl _ _) h.lt⟩
  · have hl := hok.left
    have hl1 := hok.left1 h0
    rw [show (g.round == 0) = false by simpa using h0, br_false, if_neg h0, ld_at hg 1 _ rfl, asI_i, wrap_in _ (by omega) (by omega), put_int hg 1 _ _ (by simp)]
    have g1 : (σ.set a (.own (List.set [.int .i64 g.round, .int .i64 g.left, .int .i64 g.latest, .slice ad g.w.length z] 1 (.int .i64 (g.left - 1))) 42)).get a = some (.own [.int .i64 g.round, .int .i64 (g.left - 1), .int .i64 g.latest, .slice ad g.w.length z] 42) := by rw [get_set_same]; rfl
    have s1 := Same.set σ a (.own (List.set [.int .i64 g.round, .int .i64 g.left, .int .i64 g.latest, .slice ad g.w.length z] 1 (.int .i64 (g.left - 1))) 42)
    generalize σ.set a (.own (List.set [.int .i64 g.round, .int .i64 g.left, .int .i64 g.latest, .slice ad g.w.length z] 1 (.int .i64 (g.left - 1))) 42) = σ1 at g1 s1
    rw [ld_at g1 1 _ rfl, asI_i]
    by_cases h1 : g.left - 1 > 0
    · have hhead := h'.head (r := g.round) (l := g.left - 1) (t := g.latest) s1 (fun ad' z' e => by
        rw [hg] at e; simp only [Option.some.injEq, Blk.own.injEq, List.cons.injEq, Value.slice.injEq, and_true, true_and] at e
        obtain ⟨rfl, rfl⟩ := e; exact g1)
      rw [decide_eq_true h1, br_true, if_pos h1]
      exact ⟨none, 0, [], σ1, F, rfl, hhead.1, Row.nil _ _ _ _, hhead.2⟩
    · obtain ⟨σ2, p, hG, hR, hT⟩ := ropen_spec h L k hF hne s1 g1 hrow
      rw [decide_eq_false h1, br_false, if_neg h1, p, bnd_some, asSl_s]
      exact ⟨ad, z, qs, σ2, [a], rfl, hG, hR, hT⟩

theorem rthaw_spec (r : Int) : (∃ ad z qo σ', g.thaw r = some (g.open, g.w) ∧ evCall Tryd.prog env L (k + 2) 15 [.pointer (some ⟨a, 0, none⟩), .int .i64 r] σ = some (.tuple #[.slice ad g.w.length z, .int .i64 0], σ') ∧ RGate σ' a [a] g.open ∧ Row c3 3 46 σ' ad z qo g.w ∧ Turn σ σ' F [a]) ∨
    (g.thaw r = none ∧ evCall Tryd.prog env L (k + 2) 15 [.pointer (some ⟨a, 0, none⟩), .int .i64 r] σ = some (.tuple #[.slice none 0 0, .int .i64 9], σ)) := by
  obtain ⟨qs, ad, z, hF, hne, hg, hrow⟩ := h.ex
  rw [f15_eq, ld_at hg 0 _ rfl, asI_i]
  unfold GS.thaw
  by_cases h0 : g.round = 0
  · rw [show (g.round == 0) = true by simpa using h0, br_true, if_pos h0]
    exact .inr ⟨rfl, rfl⟩
  rw [show (g.round == 0) = false by simpa using h0, br_false, ld_at hg 0 _ rfl, asI_i, if_neg h0]
  by_cases h1 : g.round = r
  · obtain ⟨σ2, p, hG, hR, hT⟩ := ropen_spec h L k hF hne (Same.refl σ _) hg hrow
    rw [show (g.round != r) = false by simpa using h1, br_false, p, bnd_some, asSl_s, if_neg (by simpa using h1)]
    exact .inl ⟨ad, z, qs, σ2, rfl, rfl, hG, hR, hT⟩
  · rw [show (g.round != r) = true by simpa using h1, br_true, if_pos h1]
    exact .inr ⟨rfl, rfl⟩

theorem renter_spec (hok : g.Ok) (c : Cal) : (g.round = 0 ∧ ∃ σ', evCall Tryd.prog env L (k + 1) 19 [.pointer (some ⟨a, 0, none⟩), c.agg] σ = some (.tuple #[.bool true, .int .i64 0], σ') ∧ Same σ σ' []) ∨
    (g.round ≠ 0 ∧ 4 ≤ g.w.length ∧ ∃ σ', evCall Tryd.prog env L (k + 1) 19 [.pointer (some ⟨a, 0, none⟩), c.agg] σ = some (.tuple #[.bool false, .int .i64 7], σ') ∧ Same σ σ' []) ∨
    (g.round ≠ 0 ∧ g.w.length < 4 ∧ ∃ σ' F', evCall Tryd.prog env L (k + 1) 19 [.pointer (some ⟨a, 0, none⟩), c.agg] σ = some (.tuple #[.bool false, .int .i64 0], σ') ∧ RGate σ' a F' ⟨g.round, g.left, g.latest, g.w ++ [c]⟩ ∧ Turn σ σ' F F') := by
  obtain ⟨qs, ad, z, rfl, hne, hg, hrow⟩ := h.ex
  have hlt := h.lt
  have hal := hlt a (by simp)
  unfold Cal.agg
  rw [f19_eq]
  generalize hσ1 : σ.new (Blk.own [Value.int IntKind.i64 c.id, Value.int IntKind.i64 c.block, Value.string c.data] 46) = σ1
  have hn1 : σ1.get σ.next = some (Blk.own [Value.int IntKind.i64 c.id, Value.int IntKind.i64 c.block, Value.string c.data] 46) := by rw [← hσ1, get_new_same]
  have hs1 : Same σ σ1 [] := by rw [← hσ1]; exact Same.new _ _ _
  have hx1 : σ1.next = σ.next + 1 := by rw [← hσ1]; rfl
  have hg1 : σ1.get a = _ := (hs1.2 a hal (by simp)).trans hg
  rw [ld_at hg1 0 _ rfl, asI_i]
  by_cases h0 : g.round = 0
  · rw [show (g.round == 0) = true by simpa using h0, br_true]
    exact .inl ⟨h0, σ1, rfl, hs1⟩
  rw [show (g.round == 0) = false by simpa using h0, br_false, ld_at hg1 3 _ rfl, asSl_s]
  by_cases h4 : 4 ≤ g.w.length
  · have := hok.few
    rw [show ((g.w.length : Int) == 4) = true by rw [beq_iff_eq]; omega, br_true]
    exact .inr (.inl ⟨h0, h4, σ1, rfl, hs1⟩)
  · generalize hσ2 : σ1.new (Blk.own [] 46) = σ2
    have hs2 : Same σ1 σ2 [] := by rw [← hσ2]; exact Same.new _ _ _
    have hx2 : σ2.next = σ1.next + 1 := by rw [← hσ2]; rfl
    have hn2 : σ2.get σ1.next = some (.own [] 46) := by rw [← hσ2, get_new_same]
    have hs12 := hs1.trans hs2
    have hg2 : σ2.get a = _ := (hs12.2 a hal (by simp)).trans hg
    have hrow2 := hrow.same hs12 (fun _ _ => by simp)
    rw [show ((g.w.length : Int) == 4) = false by rw [beq_eq_false_iff_ne]; omega, br_false, ld_at hg2 3 _ rfl, asSl_s, ld_at hg1 3 _ rfl, asSl_s, chk_same, hrow2.read c3_len _ rfl]
    have hR0 : Row c3 3 46 σ2 (some ⟨σ1.next, 0, none⟩) 3 [σ1.next] ([] : List Cal) := ⟨by simp; omega, .inr ⟨σ1.next, [], rfl, rfl, rfl, by simpa using hn2⟩⟩
    obtain ⟨ad3, z3, q3, σ3, hgrow3, hrow3, hs3, hq3⟩ := grow_row (by_ := 32) hR0 c3_len c3_one (by omega) g.w (g.w.flatMap c3) rfl g.w.length rfl (by unfold roomTop; simp; omega) (by unfold sizeTop; simp; omega)
    simp only [List.length_nil, Nat.zero_add, List.nil_append] at hgrow3 hrow3
    have n3 := hs3.1
    have s13 : Same σ1 σ3 [] := hs2.fresh hs3 (fun x hx => .inr (by simp at hx; omega))
    have s03 : Same σ σ3 [] := hs1.trans s13
    have hn3 : σ3.get σ.next = _ := (s13.2 σ.next (by omega) (by simp)).trans hn1
    have hn2' : σ2.get σ.next = _ := (hs2.2 σ.next (by omega) (by simp)).trans hn1
    rw [hgrow3, lds_all (n := 3) hn3 rfl, uncons_c, asI_i, uncons_c, asI_i, uncons_c, asS_s, endl_n, lds_all (n := 3) hn1 rfl, uncons_c, asI_i, uncons_c, asI_i, uncons_c, asS_s, endl_n, chk_same, lds_all (n := 3) hn2' rfl, uncons_c, asI_i, uncons_c, asI_i, uncons_c, asS_s, endl_n, chk_same]
    generalize hσ4 : σ3.new (Blk.own [Value.int IntKind.i64 c.id, Value.int IntKind.i64 c.block, Value.string c.data] 46) = σ4
    have hn4 : σ4.get σ3.next = some (Blk.own [Value.int IntKind.i64 c.id, Value.int IntKind.i64 c.block, Value.string c.data] 46) := by rw [← hσ4, get_new_same]
    have hs4 : Same σ3 σ4 [] := by rw [← hσ4]; exact Same.new _ _ _
    have s04 := s03.trans hs4
    have n4 := hs4.1
    have hg4 : σ4.get a = _ := (s04.2 a hal (by simp)).trans hg
    rw [ld_at hg4 3 _ rfl, asSl_s, chk_same, row_all (n := 3) hn4 rfl (by omega)]
    obtain ⟨ad5, z5, q5, σ5, hgrow5, hrow5, hs5, hq5⟩ := grow_row (by_ := 32) (hrow3.same hs4 (by simp)) c3_len c3_one (by omega) [c] [.int .i64 c.id, .int .i64 c.block, .string c.data] rfl 1 rfl (by unfold roomTop; omega) (by unfold sizeTop; omega)
    have hq3n : ∀ q ∈ q3, σ.next ≤ q := fun q hq => by rcases hq3 q hq with h | h; simp at h; omega; omega
    have hne5 : a ∉ q3 := fun h => by have := hq3n a h; omega
    have hg5 : σ5.get a = _ := (hs5.2 a (by omega) hne5).trans hg4
    have s05 : Same σ σ5 [] := s04.fresh hs5 (fun x hx => .inr (hq3n x hx))
    have n5 := hs5.1
    rw [hgrow5, put_sl hg5 3 _ _ _ (by simp)]
    have hs6 := Same.set σ5 a (.own (List.set [.int .i64 g.round, .int .i64 g.left, .int .i64 g.latest, .slice ad g.w.length z] 3 (.slice ad5 (g.w.length + 1) z5)) 42)
    have hg6 : (σ5.set a (.own (List.set [.int .i64 g.round, .int .i64 g.left, .int .i64 g.latest, .slice ad g.w.length z] 3 (.slice ad5 (g.w.length + 1) z5)) 42)).get a = some (.own [.int .i64 g.round, .int .i64 g.left, .int .i64 g.latest, .slice ad5 (g.w ++ [c]).length z5] 42) := by rw [get_set_same, List.length_append]; rfl
    generalize σ5.set a (.own (List.set [.int .i64 g.round, .int .i64 g.left, .int .i64 g.latest, .slice ad g.w.length z] 3 (.slice ad5 (g.w.length + 1) z5)) 42) = σ6 at hs6 hg6
    have n6 := hs6.1
    have hq5n : ∀ q ∈ q5, σ.next ≤ q := fun q hq => by rcases hq5 q hq with h | h; exact hq3n q h; omega
    have hne6 : a ∉ q5 := fun h => by have := hq5n a h; omega
    refine .inr (.inr ⟨h0, by omega, σ6, a :: q5, rfl, ⟨⟨q5, ad5, z5, rfl, hne6, hg6, hrow5.same hs6 (fun q hq => by simp; rintro rfl; exact hne6 hq)⟩, fun q hq => ?_⟩, ⟨⟨by omega, fun j hj hS => ?_⟩, fun q hq => ?_⟩⟩)
    · rcases List.mem_cons.1 hq with rfl | hq
      · omega
      · have := hrow5.lt q hq; omega
    · simp only [List.mem_cons, not_or] at hS
      rw [hs6.2 j (by omega) (by simp; exact hS.1), s05.2 j hj (by simp)]
    · rcases List.mem_cons.1 hq with rfl | hq
      · exact ⟨.inl (by simp), by omega⟩
      · exact ⟨.inr (hq5n q hq), by have := hrow5.lt q hq; omega⟩
end

end Go.AM.Gp
