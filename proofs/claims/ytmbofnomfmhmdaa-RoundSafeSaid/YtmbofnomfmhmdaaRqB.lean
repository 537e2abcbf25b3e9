/-
  THE ROUND's calls, more: Begin, Tick; what a program that does nothing answers wrongly.
-/
import Derived.Test.YtmbofnomfmhmdaaRqA
set_option linter.unusedVariables false
set_option linter.unusedSimpArgs false
set_option linter.unusedSectionVars false
namespace Go.AM.Rq
open Go.Proofs

section
variable {σ : St} {a : Nat} {F : List Nat} {s : RS} (h : Rnd σ a F s) (L k : Nat)
include h

theorem begin_spec (hL : 2000 < L) (number : Int) {ad : Option Addr} {q z : Nat} {l : List Int} (hl : l.length ≤ 1000) (hR : Src σ ad q l) (hq : l ≠ [] → q ∉ F) :
    (s.number = 0 ∧ s.latest < number ∧ Good l ∧ ∃ adO zO qO F' σ', evCall Try.prog env L (k + 4) 8 [.pointer (some ⟨a, 0, none⟩), .int .i64 number, .slice ad l.length z] σ = some (.tuple #[.slice adO l.length zO, .nilIface], σ') ∧ Row c3i 3 37 σ' adO zO qO (l.map fun v => (1, v, number)) ∧
      Rnd σ' a F' { s with number := number, latest := number, vols := l, phase := 1, an := [], left := 6, marked := false, live := true } ∧ Turn σ σ' F F' ∧ ∀ q ∈ qO, σ.next ≤ q ∧ q ∉ F') ∨
    (¬ (s.number = 0 ∧ s.latest < number ∧ Good l) ∧ ∃ v σ', evCall Try.prog env L (k + 4) 8 [.pointer (some ⟨a, 0, none⟩), .int .i64 number, .slice ad l.length z] σ = some (.tuple #[.slice none 0 0, .iface 62 v], σ') ∧ Same σ σ' []) := by
  have h' := h
  have hlt := h.lt
  obtain ⟨qs, ad0, z0, mq, m, rfl, h1, h2, h3, hg, h5, h6⟩ := h.ex
  have hal := hlt a (by simp)
  rw [f8_eq, ld_at hg 0 _ rfl, asI_i]
  by_cases hn : s.number = 0
  case neg =>
    obtain ⟨v, σ', g1, g2⟩ := wrong_spec L (k + 1) σ number 9 (by omega)
    rw [show (s.number != 0) = true by simpa using hn, br_true, g1, bnd_some]
    exact .inr ⟨fun h => hn h.1, v, σ', rfl, g2⟩
  rw [show (s.number != 0) = false by simpa using hn, br_false, ld_at hg 1 _ rfl, asI_i]
  by_cases hlate : number ≤ s.latest
  · obtain ⟨v, σ', g1, g2⟩ := wrong_spec L (k + 1) σ number 10 (by omega)
    rw [decide_eq_true hlate, br_true, g1, bnd_some]
    exact .inr ⟨fun h => (by have := h.2.1; omega), v, σ', rfl, g2⟩
  obtain ⟨v, σ1, g1, ⟨b, rfl, hb⟩, hs1⟩ := right_spec L (k + 2) hL hl hR (z := z)
  rw [decide_eq_false hlate, br_false, g1, bnd_some, asB_b]
  cases b with
  | false =>
    obtain ⟨v, σ', g2, g3⟩ := wrong_spec L (k + 1) σ1 number 1 (by omega)
    rw [not_false, br_true, g2, bnd_some]
    exact .inr ⟨fun h => (by have := hb.2 h.2.2; cases this), v, σ', rfl, hs1.trans g3⟩
  | true =>
  have hgood := hb.1 rfl
  have hx1 := hs1.1
  have hg1 : σ1.get a = _ := (hs1.2 a hal (by simp)).trans hg
  obtain ⟨σ2, p2, g2, s2, n2⟩ := putf hg1 0 (.int .i64 number) (by simp [hd]) rfl
  obtain ⟨σ3, p3, g3, s3, n3⟩ := putf g2 1 (.int .i64 number) (by simp [hd]) rfl
  obtain ⟨σ4, p4, g4, s4, n4⟩ := putf g3 6 (.bool false) (by simp [hd]) rfl
  have s14 := (s2.trans s3).trans s4
  rw [not_true, br_false, p2, p3, p4]
  have hqa : q ∉ [a] := by
    have := hq hgood.2.2
    simp at this ⊢
    exact fun e => this.1 e
  have hR4 : Src σ4 ad q l := (hR.idle hs1).same s14 hqa
  obtain ⟨ad5, z5, q5, σ5, g5, hR5, hs5, hq5⟩ := clone_spec L (k + 2) (z := z) (by omega) hR4
  rw [g5, bnd_some, asSl_s]
  have hx5 := hs5.1
  have hg5 : σ5.get a = _ := (hs5.2 a (by omega) (by simp)).trans g4
  obtain ⟨σ6, p6, g6, s6, n6⟩ := putf hg5 2 (.slice ad5 l.length z5) (by simp [hd]) rfl
  rw [p6]
  have hne5 : a ∉ q5 := fun hx => by have := hq5 a hx; omega
  have hmq5 : ∀ x ∈ q5, x ∉ mq := fun x hx hm => by have := hq5 x hx; have := hlt x (by simp [hm]); omega
  have hRnd : Rnd σ6 a (a :: (q5 ++ mq)) { s with number := number, latest := number, vols := l, marked := false } := by
    refine ⟨⟨q5, ad5, z5, mq, m, rfl, hne5, h2, hmq5, g6, hR5.same s6 (fun x hx => by simp; rintro rfl; exact hne5 hx), h6.imp id ?_⟩, fun x hx => ?_⟩
    · rintro ⟨b, rfl, rfl, hb⟩
      have hbl := hlt b (by simp)
      have hba : b ≠ a := fun e => h2 (by simp [e])
      exact ⟨b, rfl, rfl, by rw [s6.2 b (by omega) (by simpa using hba), hs5.2 b (by omega) (by simp), s14.2 b (by omega) (by simpa using hba), hs1.2 b hbl (by simp)]; exact hb⟩
    · simp only [List.mem_cons, List.mem_append] at hx
      rcases hx with rfl | hx | hx
      · omega
      · have := hR5.lt x hx; omega
      · have := hlt x (by simp [hx]); omega
  have hT6 : Turn σ σ6 (a :: (qs ++ mq)) (a :: (q5 ++ mq)) := by
    refine ⟨⟨by omega, fun x hx hS => ?_⟩, fun x hx => ⟨?_, hRnd.lt x hx⟩⟩
    · have hxa : x ∉ [a] := by simp at hS ⊢; exact hS.1
      rw [s6.2 x (by omega) hxa, hs5.2 x (by omega) (by simp), s14.2 x (by omega) hxa, hs1.2 x hx (by simp)]
    · simp only [List.mem_cons, List.mem_append] at hx ⊢
      rcases hx with rfl | hx | hx
      · exact .inl (.inl rfl)
      · exact .inr (by have := hq5 x hx; omega)
      · exact .inl (.inr (.inr hx))
  obtain ⟨v, σ7, g7, adO, zO, qO, F7, rfl, hO7, hR7, hT7, hq7⟩ := enter_spec L k hL hRnd hl 1
  rw [g7, bnd_some, asSl_s]
  exact .inl ⟨hn, by omega, hgood, adO, zO, qO, F7, σ7, rfl, hO7, hR7, hT6.trans hT7, fun x hx => ⟨by have := (hq7 x hx).1; have := hT6.same.1; omega, (hq7 x hx).2⟩⟩

/-- The head's words alone are others. -/
theorem Rnd.head {σ' : St} (s' : RS) (hv : s'.vols = s.vols) (han : s'.an = s.an) (hli : s'.live = s.live) (hs : Same σ σ' [a]) (hg : ∀ ad z m, σ.get a = some (.own (hd s ad z m) 28) → σ'.get a = some (.own (hd s' ad z m) 28)) : Rnd σ' a F s' ∧ Turn σ σ' F F := by
  have hlt := h.lt
  obtain ⟨qs, ad0, z0, mq, m, rfl, h1, h2, h3, hg0, h5, h6⟩ := h.ex
  have hx := hs.1
  refine ⟨⟨⟨qs, ad0, z0, mq, m, rfl, h1, h2, h3, hg _ _ _ hg0, by rw [hv]; exact h5.same hs (fun q hq => by simp; rintro rfl; exact h1 hq), ?_⟩, fun q hq => by have := hlt q hq; omega⟩, hs.mono (by simp), fun q hq => ⟨.inl hq, by have := hlt q hq; omega⟩⟩
  rw [han, hli]
  refine h6.imp id ?_
  rintro ⟨b, rfl, rfl, hb⟩
  exact ⟨b, rfl, rfl, by rw [hs.2 b (hlt b (by simp)) (by simp; rintro rfl; exact h2 (by simp))]; exact hb⟩

theorem tick_spec (hL : 2000 < L) (hl : s.vols.length ≤ 1000) (hleft : -1000 ≤ s.left ∧ s.left ≤ 1000) :
    Ends (fun v σ' => ∃ adO zO qO F' out s', v = .slice adO out.length zO ∧ Row c3i 3 37 σ' adO zO qO out ∧ Rnd σ' a F' s' ∧ Turn σ σ' F F' ∧ (∀ q ∈ qO, σ.next ≤ q ∧ q ∉ F') ∧
      ((s.number = 0 ∧ out = [] ∧ s' = s) ∨ (s.number ≠ 0 ∧ s.left - 1 > 0 ∧ out = [] ∧ s' = { s with left := s.left - 1 }) ∨
       (s.number ≠ 0 ∧ s.left - 1 ≤ 0 ∧ s.phase ≠ 3 ∧ out = s.vols.map (fun v => (3, v, s.number)) ∧ s' = { s with phase := 3, an := [], left := 6, live := true }) ∨
       (s.number ≠ 0 ∧ s.left - 1 ≤ 0 ∧ s.phase = 3 ∧ out = s.cmds ∧ s' = { s with left := 6 })))
      (evCall Try.prog env L (k + 4) 10 [.pointer (some ⟨a, 0, none⟩)] σ) := by
  have h' := h
  rw [f10_eq, number_spec h L (k + 2), bnd_some, asI_i]
  by_cases hn : s.number = 0
  · rw [show (s.number == 0) = true by simpa using hn, br_true]
    exact .leaf ⟨none, 0, [], F, [], s, rfl, Row.nil _ _ _ _, h, .idle (Same.refl _ _) h.lt, by simp, .inl ⟨hn, rfl, rfl⟩⟩
  rw [show (s.number == 0) = false by simpa using hn, br_false]
  obtain ⟨qs, ad0, z0, mq, m, hF, h1, h2, h3, hg, h5, h6⟩ := h.ex
  obtain ⟨σ1, p1, g1, s1, n1⟩ := putf hg 5 (.int .i64 (s.left - 1)) (by simp [hd]) rfl
  rw [ld_at hg 5 _ rfl, asI_i, wrap_in _ (by omega) (by omega), p1, ld_at g1 5 _ rfl, asI_i]
  obtain ⟨hR1, hT1⟩ := h'.head { s with left := s.left - 1 } rfl rfl rfl s1 (fun ad' z' m' e => by
    rw [hg] at e; simp only [hd, Option.some.injEq, Blk.own.injEq, List.cons.injEq, Value.slice.injEq, Value.map.injEq, and_true, true_and] at e
    obtain ⟨⟨rfl, rfl⟩, rfl⟩ := e; exact g1)
  by_cases hpos : s.left - 1 > 0
  · rw [decide_eq_true hpos, br_true]
    exact .leaf ⟨none, 0, [], F, [], _, rfl, Row.nil _ _ _ _, hR1, hT1, by simp, .inr (.inl ⟨hn, hpos, rfl, rfl⟩)⟩
  · rw [decide_eq_false hpos, br_false, ld_at g1 3 _ rfl, asI_i]
    by_cases hp : s.phase = 3
    · obtain ⟨v, σ2, g2, adO, zO, qO, rfl, hO, hR2, hT2, hq2⟩ := tell_spec L (k + 1) hL hR1 hl
      rw [show (s.phase != 3) = false by simpa using hp, br_false, g2, bnd_some, asSl_s]
      exact .leaf ⟨adO, zO, qO, F, _, _, rfl, hO, hR2, hT1.trans hT2, fun x hx => ⟨by have := (hq2 x hx).1; omega, (hq2 x hx).2⟩, .inr (.inr (.inr ⟨hn, by omega, hp, rfl, rfl⟩))⟩
    · obtain ⟨v, σ2, g2, adO, zO, qO, F2, rfl, hO, hR2, hT2, hq2⟩ := enter_spec L k hL hR1 hl 3
      rw [show (s.phase != 3) = true by simpa using hp, br_true, g2, bnd_some, asSl_s]
      exact .leaf ⟨adO, zO, qO, F2, s.vols.map (fun v => (3, v, s.number)), _, by rw [List.length_map], hO, hR2, hT1.trans hT2, fun x hx => ⟨by have := (hq2 x hx).1; omega, (hq2 x hx).2⟩, .inr (.inr (.inl ⟨hn, by omega, hp, rfl, rfl⟩))⟩
end

def zero : RS := ⟨0, 0, [], 0, [], 0, false, 0, false, false⟩
theorem new_rnd (σ : St) : Rnd (σ.new (.own (hd zero none 0 none) 28)) σ.next [σ.next] zero ∧ Same σ (σ.new (.own (hd zero none 0 none) 28)) [] :=
  ⟨⟨⟨[], none, 0, [], none, rfl, by simp, by simp, by simp, get_new_same _ _, Row.nil _ _ _ _, .inl ⟨rfl, rfl, rfl, rfl⟩⟩, by simp⟩, Same.new _ _ _⟩

theorem awake_spec (L k : Nat) (hL : 2000 < L) (σ : St) : ∃ σ', evCall Try.prog env L (k + 5) 7 [] σ = some (.bool true, σ') ∧ Same σ σ' [] := by
  rw [f7_eq]
  obtain ⟨hR1, hs1⟩ := new_rnd σ
  rw [show hd zero none 0 none = [Value.int .i64 0, .int .i64 0, .slice none 0 0, .int .i64 0, .map none, .int .i64 0, .bool false, .int .i64 0, .bool false] from rfl] at hR1 hs1
  generalize σ.new (Blk.own [Value.int .i64 0, .int .i64 0, .slice none 0 0, .int .i64 0, .map none, .int .i64 0, .bool false, .int .i64 0, .bool false] 28) = σ1 at hR1 hs1
  generalize hσ2 : σ1.new (Blk.own [Value.int .i64 0, .int .i64 2] 3) = σ2
  have hn2 : σ2.get σ1.next = some (Blk.own [Value.int .i64 0, .int .i64 2] 3) := by rw [← hσ2, get_new_same]
  have hs2 : Same σ1 σ2 [] := by rw [← hσ2]; exact Same.new _ _ _
  have hx2 : σ2.next = σ1.next + 1 := by rw [← hσ2]; rfl
  have hlt1 := hR1.lt σ.next (by simp)
  have hsrc : Src σ2 (some ⟨σ1.next, 0, none⟩) σ1.next [0, 2] := ⟨fun _ => ⟨by omega, rfl, [Value.int .i64 0, .int .i64 2], by simp [St.cells, hn2, Blk.cells], by simp, fun i x hi => by
    match i, hi with
    | 0, hi => simp at hi; subst hi; rfl
    | 1, hi => simp at hi; subst hi; rfl⟩⟩
  rcases begin_spec (hR1.idle hs2) L k hL 1 (z := 1) (by simp) hsrc (fun _ => by simp; omega) with ⟨_, _, _, adO, zO, qO, F', σ3, g3, hO, hR3, hT3, hq3⟩ | ⟨hno, _⟩
  · rw [show ([0, 2] : List Int).length = 2 from rfl] at g3
    rw [g3, bnd_some, asT_t, toList2, uncons_c, asSl_s, uncons_c, endl_n, eqNil_nil, br_true, show (((2 : Nat) : Int) == 2) = true from rfl, br_true, need_of (by rfl)]
    obtain ⟨q0, e0, hat⟩ := hO.at c3i_len (i := 0) (a := (1, 0, 1)) rfl
    obtain ⟨q1, e1, hat1⟩ := hO.at c3i_len (i := 1) (a := (1, 2, 1)) rfl
    have : q1 = q0 := by rw [e0] at e1; cases e1; rfl
    subst this
    rw [e0, adr_some, hat 0 (.int .i64 1) _ (by omega) rfl (by omega), asI_i, show ((1 : Int) == 1) = true from rfl, br_true, need_of (by rfl), adr_some, hat1 1 (.int .i64 2) _ (by omega) rfl (by omega), asI_i, show ((2 : Int) == 2) = true from rfl, br_true, number_spec hR3 L (k + 3), bnd_some, asI_i]
    have h1n := hs1.1
    exact ⟨σ3, rfl, (hs1.trans hs2).fresh hT3.same (fun x hx => .inr (by simp at hx; omega))⟩
  · exact absurd ⟨rfl, by simp [zero], by decide, by decide, by decide⟩ hno

end Go.AM.Rq
