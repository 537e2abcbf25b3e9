/-
  RoundEnds, in plain words: what is still told, and why a round comes to its end.
-/
import Derived.Test.YtmbofnomfmhmdaaRqD
import Derived.Test.YtmbofnomfmhmdaaAm21
import Derived.Test.YtmbofnomfmhmdaaAm22
set_option linter.unusedVariables false
set_option linter.unusedSimpArgs false
set_option linter.unusedSectionVars false
namespace Go.AM.Rq
open Go.Proofs

abbrev Cmd := Int × Int × Int

/-! ### A queue: a slice, from some place on -/
structure Told (σ : St) (ad : Option Addr) (z : Nat) (qs : List Nat) (l : List Cmd) : Prop where
  lt : ∀ q ∈ qs, q < σ.next
  is : (ad = none ∧ l = [] ∧ z = 0 ∧ qs = []) ∨ ∃ q pre rest, qs = [q] ∧ ad = some ⟨q, List.length pre, none⟩ ∧ z = 3 ∧ σ.get q = some (.own (pre ++ (l.flatMap c3i ++ rest)) 37)
theorem Told.same {σ σ' : St} {ad : Option Addr} {z : Nat} {l : List Cmd} {qs S : List Nat} (h : Told σ ad z qs l) (hs : Same σ σ' S) (hq : ∀ q ∈ qs, q ∉ S) : Told σ' ad z qs l :=
  ⟨fun q hq => by have := hs.1; have := h.lt q hq; omega, h.is.imp id (fun ⟨q, pre, rest, e1, a, b, e⟩ => ⟨q, pre, rest, e1, a, b, by rw [hs.2 q (h.lt q (by rw [e1]; simp)) (hq q (by rw [e1]; simp))]; exact e⟩)⟩
theorem Told.head {σ : St} {ad : Option Addr} {z : Nat} {c : Cmd} {l : List Cmd} {qs : List Nat} (h : Told σ ad z qs (c :: l)) : ∃ q o, ad = some ⟨q, o, none⟩ ∧ z = 3 ∧ (∀ K : List Value → Res, σ.lds q (o + 0) 3 K = K (c3i c)) ∧ Told σ (subA ad 3) z qs l := by
  rcases h.is with ⟨_, h1, _⟩ | ⟨q, pre, rest, e1, e2, e3, e5⟩
  · cases h1
  · subst e2; subst e3
    refine ⟨q, pre.length, rfl, rfl, fun K => ?_, ⟨h.lt, .inr ⟨q, pre ++ c3i c, rest, e1, ?_, rfl, ?_⟩⟩⟩
    · rw [lds_own _ e5 (by simp [c3i])]
      congr 1
      rw [Nat.add_zero, List.drop_left]
      rfl
    · simp [subA, c3i]
    · rw [e5]; simp [List.append_assoc]
theorem Told.row {σ : St} {ad : Option Addr} {z : Nat} {qs : List Nat} {l : List Cmd} (h : Row c3i 3 37 σ ad z qs l) : Told σ ad z qs l := by
  refine ⟨h.lt, h.is.imp (fun ⟨a, b, c, d⟩ => ⟨a, b, c, d⟩) ?_⟩
  rintro ⟨q, rest, e1, e2, e3, e4⟩
  exact ⟨q, [], rest, e1, e2, e3, e4⟩
theorem Told.grow {σ : St} {ad : Option Addr} {z n m : Nat} {qs : List Nat} {l : List Cmd} (h : Told σ ad z qs l) (hl : n = l.length) (hn : n ≤ 100000) (news : List Cmd) (hm : m = news.length) (hm1 : m ≤ 1000) :
    ∃ ad' z' qs' σ', (∀ K, grow 37 3 24 ad n z m (news.flatMap c3i) σ K = K ad' (l ++ news).length z' σ') ∧ Told σ' ad' z' qs' (l ++ news) ∧ Turn σ σ' qs qs' := by
  subst hl hm
  by_cases h0 : news.length = 0
  · have hnil := List.eq_nil_of_length_eq_zero h0
    subst hnil
    rw [List.append_nil]
    exact ⟨ad, z, qs, σ, fun K => by simp [AM.grow], h, .idle (Same.refl _ _) h.lt⟩
  · have hcond : (l.length + news.length) * 24 ≤ roomTop ∧ l.length + news.length ≤ sizeTop ∧ 0 < 3 ∧ (news.flatMap c3i).all oneCell = true := ⟨by unfold roomTop; omega, by unfold sizeTop; omega, by omega, flat_one c3i c3i_one news⟩
    rcases h.is with ⟨rfl, rfl, rfl, rfl⟩ | ⟨q, pre, rest, rfl, rfl, rfl, e5⟩
    · refine ⟨some ⟨σ.next, 0, none⟩, 3, [σ.next], σ.new (.own (news.flatMap c3i) 37), fun K => ?_, ⟨by simp, .inr ⟨_, [], [], rfl, rfl, rfl, by simp⟩⟩, ⟨Same.new _ _ _, fun q hq => by simp at hq; simp; omega⟩⟩
      simp only [AM.grow, h0, if_false, hcond, if_true, and_self]
      simp
    · have hlen := flat_length c3i _ c3i_len l
      refine ⟨some ⟨σ.next, 0, none⟩, 3, [σ.next], (σ.del q).new (.own ((l ++ news).flatMap c3i) 37), fun K => ?_, ⟨by simp, .inr ⟨_, [], [], rfl, rfl, rfl, ?_⟩⟩, ⟨⟨by simp, fun k hk hS => ?_⟩, fun q hq => by simp at hq; simp; omega⟩⟩
      · unfold AM.grow
        rw [if_neg h0, if_pos hcond]
        simp only [e5]
        rw [if_pos ⟨trivial, trivial, by simp only [List.length_append, hlen]; omega⟩, List.drop_left, ← hlen, List.take_left, List.flatMap_append, List.length_append]
      · have := get_new_same (σ.del q) (.own ((l ++ news).flatMap c3i) 37)
        simpa using this
      · simp only [List.mem_singleton] at hS
        rw [get_new (by simp; omega), get_del hS]

/-! ### What a round keeps -/
theorem l6 : (0 : Int) ≤ 6 ∧ (6 : Int) ≤ 6 := by decide
def Ticked (s : RS) (out : List Cmd) (s' : RS) : Prop :=
  (s.number = 0 ∧ out = [] ∧ s' = s) ∨ (s.number ≠ 0 ∧ s.left - 1 > 0 ∧ out = [] ∧ s' = { s with left := s.left - 1 }) ∨
       (s.number ≠ 0 ∧ s.left - 1 ≤ 0 ∧ s.phase ≠ 3 ∧ out = s.vols.map (fun v => (3, v, s.number)) ∧ s' = { s with phase := 3, an := [], left := 6, live := true }) ∨
       (s.number ≠ 0 ∧ s.left - 1 ≤ 0 ∧ s.phase = 3 ∧ out = s.cmds ∧ s' = { s with left := 6 })
structure Inv (s : RS) : Prop where
  p : s.number ≠ 0 → s.phase = 1 ∨ s.phase = 2 ∨ s.phase = 3
  live : s.number ≠ 0 → s.live = true
  len : s.vols.length ≤ 20
  left : 0 ≤ s.left ∧ s.left ≤ 6
  vs : s.number ≠ 0 → s.vols ≠ []
  lk : s.number ≠ 0 → s.lack ≠ []
theorem lack_all {s : RS} (h : s.an = []) : s.lack = s.vols := by
  unfold RS.lack; rw [h]; simp
theorem Inv.begin {s : RS} {number : Int} {l : List Int} (hg : Good l) (hl : l.length ≤ 20) : Inv { s with number := number, latest := number, vols := l, phase := 1, an := [], left := 6, marked := false, live := true } :=
  ⟨fun _ => .inl rfl, fun _ => rfl, hl, l6, fun _ => hg.2.2, fun _ => by rw [lack_all rfl]; exact hg.2.2⟩
theorem Inv.answered {s s' : RS} {v : Int} {out : List Cmd} (h : Inv s) (hn : s.number ≠ 0) (ha : Answered s v out s') : Inv s' ∧ out.length ≤ 20 := by
  have hl := h.len
  rcases ha with ⟨hk, rfl, rfl⟩ | ⟨_, ⟨_, rfl, rfl⟩ | ⟨_, rfl, rfl⟩ | ⟨_, rfl, rfl⟩⟩
  · exact ⟨⟨h.p, h.live, h.len, h.left, h.vs, fun _ => hk⟩, by simp⟩
  · exact ⟨⟨fun _ => .inr (.inl rfl), fun _ => rfl, h.len, l6, h.vs, fun _ => by rw [lack_all rfl]; exact h.vs hn⟩, by rw [List.length_map]; exact hl⟩
  · exact ⟨⟨fun _ => .inr (.inr rfl), fun _ => rfl, h.len, l6, h.vs, fun _ => by rw [lack_all rfl]; exact h.vs hn⟩, by rw [List.length_map]; exact hl⟩
  · exact ⟨⟨fun h => absurd rfl h, fun h => absurd rfl h, by simp, h.left, fun h => absurd rfl h, fun h => absurd rfl h⟩, by simp⟩
theorem cmds_len (s : RS) : s.cmds.length = s.lack.length := List.length_map ..
theorem Inv.ticked {s s' : RS} {out : List Cmd} (h : Inv s) (ha : Ticked s out s') : Inv s' ∧ out.length ≤ 20 := by
  have hl := h.len
  have hf := h.left
  rcases ha with ⟨a, rfl, rfl⟩ | ⟨a, b, rfl, rfl⟩ | ⟨a, b, c, rfl, rfl⟩ | ⟨a, b, c, rfl, rfl⟩
  · exact ⟨h, by simp⟩
  · exact ⟨⟨h.p, h.live, h.len, ⟨by show 0 ≤ s.left - 1; omega, by show s.left - 1 ≤ 6; omega⟩, h.vs, h.lk⟩, by simp⟩
  · exact ⟨⟨fun _ => .inr (.inr rfl), fun _ => rfl, h.len, l6, h.vs, fun _ => by rw [lack_all rfl]; exact h.vs a⟩, by rw [List.length_map]; exact hl⟩
  · exact ⟨⟨h.p, h.live, h.len, l6, h.vs, h.lk⟩, by rw [cmds_len]; exact Nat.le_trans (lack_len s) hl⟩

/-! ### Why it ends: all that lack are among the first commands that are still told, and of these there are few -/
def Run (N : Int) (s : RS) (out : List Cmd) (B : Nat) (w : Bool) : Prop :=
  s.number = N ∧ ∃ a b, out = a ++ b ∧ (∀ v ∈ s.lack, (s.phase, v, N) ∈ a) ∧ (s.phase ≠ 3 → b = []) ∧
    ((s.phase = 1 ∧ B + a.length ≤ 20) ∨ (s.phase = 2 ∧ B + a.length ≤ 40) ∨ (s.phase = 3 ∧ B + a.length ≤ 60)) ∧ (s.phase = 3 → s.marked = true ∨ w = true)
def Over (N : Int) (s : RS) (w : Bool) : Prop := s.number = 0 ∧ s.done = N ∧ (s.complete = true ∨ w = true) ∧ s.vols = []
def Cov (N : Int) (s : RS) (out : List Cmd) (B : Nat) (w : Bool) : Prop := Run N s out B w ∨ Over N s w

theorem mem_cmds {N p : Int} {l : List Int} {v : Int} (h : v ∈ l) : (p, v, N) ∈ l.map fun v => (p, v, N) := List.mem_map.2 ⟨v, h, rfl⟩
theorem Cov.begin {s : RS} {N : Int} {l : List Int} (hl : l.length ≤ 20) : Cov N { s with number := N, latest := N, vols := l, phase := 1, an := [], left := 6, marked := false, live := true } (l.map fun v => (1, v, N)) 0 false :=
  .inl ⟨rfl, _, [], (List.append_nil _).symm, fun v hv => by rw [lack_all rfl] at hv; exact mem_cmds hv, fun _ => rfl, .inl ⟨rfl, by rw [List.length_map]; omega⟩, fun h => by simp at h⟩
theorem lack_sub {s : RS} {v x : Int} (h : x ∈ RS.lack { s with an := addTo v s.an }) : x ∈ s.lack ∧ x ≠ v := by
  unfold RS.lack at h ⊢
  rw [List.mem_filter] at h ⊢
  obtain ⟨h1, h2⟩ := h
  have h3 : x ∉ addTo v s.an := of_decide_eq_true h2
  have hmem : ∀ w, w ∈ addTo v s.an ↔ w = v ∨ w ∈ s.an := fun w => by
    unfold addTo
    by_cases h : v ∈ s.an
    · rw [if_pos h]; exact ⟨.inr, fun hw => hw.elim (fun e => e ▸ h) id⟩
    · rw [if_neg h, List.mem_append, List.mem_singleton]; exact or_comm
  exact ⟨⟨h1, decide_eq_true fun hx => h3 ((hmem x).2 (.inr hx))⟩, fun e => h3 ((hmem x).2 (.inl e))⟩

/-- An answer to a command that was taken out of the queue (c), or came from elsewhere. -/
theorem Run.answered {N : Int} {s s' : RS} {out x : List Cmd} {B : Nat} {w : Bool} {v : Int} (hN : N ≠ 0) (h : s.number = N ∧ ∃ a b, out = a ++ b ∧ (∀ u ∈ s.lack, u ≠ v → (s.phase, u, N) ∈ a) ∧ (s.phase ≠ 3 → b = []) ∧
    ((s.phase = 1 ∧ B + a.length ≤ 20) ∨ (s.phase = 2 ∧ B + a.length ≤ 40) ∨ (s.phase = 3 ∧ B + a.length ≤ 60)) ∧ (s.phase = 3 → s.marked = true ∨ w = true)) (hi : Inv s) (ha : Answered s v x s') : Cov N s' (out ++ x) B w := by
  obtain ⟨h1, a, b, rfl, h2, h3, h4, h5⟩ := h
  have hl := hi.len
  rcases ha with ⟨hk, rfl, rfl⟩ | ⟨_, ⟨hp, rfl, rfl⟩ | ⟨hp, rfl, rfl⟩ | ⟨hp, rfl, rfl⟩⟩
  · exact .inl ⟨h1, a, b, List.append_nil _, fun u hu => h2 u (lack_sub hu).1 (lack_sub hu).2, h3, h4, h5⟩
  · obtain rfl := h3 (by omega)
    rw [List.append_nil]
    exact .inl ⟨h1, a ++ _, [], (List.append_nil _).symm, fun u hu => by rw [lack_all rfl] at hu; rw [h1]; exact List.mem_append_right _ (mem_cmds hu), fun _ => rfl, .inr (.inl ⟨rfl, by rw [List.length_append, List.length_map]; omega⟩), fun h => by simp at h⟩
  · obtain rfl := h3 (by omega)
    rw [List.append_nil]
    exact .inl ⟨h1, a ++ _, [], (List.append_nil _).symm, fun u hu => by rw [lack_all rfl] at hu; rw [h1]; exact List.mem_append_right _ (mem_cmds hu), fun _ => rfl, .inr (.inr ⟨rfl, by rw [List.length_append, List.length_map]; omega⟩), fun _ => .inl rfl⟩
  · exact .inr ⟨rfl, h1, h5 hp, rfl⟩

theorem Cov.answered {N : Int} {s s' : RS} {out x : List Cmd} {B : Nat} {w : Bool} {v : Int} (hN : N ≠ 0) (h : Cov N s out B w) (hn : s.number ≠ 0) (hi : Inv s) (ha : Answered s v x s') : Cov N s' (out ++ x) B w := by
  rcases h with ⟨h1, a, b, e, h2, h3, h4, h5⟩ | h
  · exact Run.answered hN ⟨h1, a, b, e, fun u hu _ => h2 u hu, h3, h4, h5⟩ hi ha
  · exact absurd h.1 hn
theorem Cov.popped {N : Int} {s s' : RS} {c : Cmd} {out x : List Cmd} {B : Nat} {w : Bool} (hN : N ≠ 0) (h : Cov N s (c :: out) B w) (hn : s.number ≠ 0) (hi : Inv s) (hc : c.1 = s.phase) (hc2 : c.2.2 = s.number) (ha : Answered s c.2.1 x s') : Cov N s' (out ++ x) (B + 1) w := by
  rcases h with ⟨h1, a, b, e, h2, h3, h4, h5⟩ | h
  · match a, e with
    | [], e =>
      have := hi.lk hn
      match hk : s.lack, this with
      | u :: _, _ => have := h2 u (by rw [hk]; simp); simp at this
    | c' :: a, e =>
      simp only [List.cons_append, List.cons.injEq] at e
      obtain ⟨rfl, rfl⟩ := e
      refine Run.answered hN ⟨h1, a, b, rfl, fun u hu hne => ?_, h3, ?_, h5⟩ hi ha
      · rcases List.mem_cons.1 (h2 u hu) with e | e
        · exact absurd (by rw [← e]) hne
        · exact e
      · simp only [List.length_cons] at h4; omega
  · exact absurd h.1 hn
theorem Cov.stale {N : Int} {s : RS} {c : Cmd} {out : List Cmd} {B : Nat} {w : Bool} (h : Cov N s (c :: out) B w) (hi : Inv s) (hN : N ≠ 0) (hc : ¬ (s.number ≠ 0 ∧ c.2.2 = s.number ∧ c.1 = s.phase ∧ c.2.1 ∈ s.vols)) : Cov N s out (B + 1) w := by
  rcases h with ⟨h1, a, b, e, h2, h3, h4, h5⟩ | h
  · match a, e with
    | [], e =>
      have := hi.lk (by omega)
      match hk : s.lack, this with
      | u :: _, _ => have := h2 u (by rw [hk]; simp); simp at this
    | c' :: a, e =>
      simp only [List.cons_append, List.cons.injEq] at e
      obtain ⟨rfl, rfl⟩ := e
      refine .inl ⟨h1, a, b, rfl, fun u hu => ?_, h3, ?_, h5⟩
      · rcases List.mem_cons.1 (h2 u hu) with e | e
        · exact absurd ⟨by omega, by rw [← e, h1], by rw [← e], by rw [← e]; exact (List.mem_filter.1 hu).1⟩ hc
        · exact e
      · simp only [List.length_cons] at h4; omega
  · exact .inr h
theorem Cov.ticked {N : Int} {s s' : RS} {out x : List Cmd} {B : Nat} {w : Bool} (h : Cov N s out B w) (hi : Inv s) (ha : Ticked s x s') : Cov N s' (out ++ x) B true := by
  have hl := hi.len
  rcases h with ⟨h1, a, b, rfl, h2, h3, h4, h5⟩ | ⟨g1, g2, g3, g4⟩
  · rcases ha with ⟨a1, rfl, rfl⟩ | ⟨a1, b1, rfl, rfl⟩ | ⟨a1, b1, c1, rfl, rfl⟩ | ⟨a1, b1, c1, rfl, rfl⟩
    · exact .inl ⟨h1, a, b, List.append_nil _, h2, h3, h4, fun _ => .inr rfl⟩
    · exact .inl ⟨h1, a, b, List.append_nil _, h2, h3, h4, fun _ => .inr rfl⟩
    · obtain rfl := h3 c1
      rw [List.append_nil]
      exact .inl ⟨h1, a ++ _, [], (List.append_nil _).symm, fun u hu => by rw [lack_all rfl] at hu; rw [h1]; exact List.mem_append_right _ (mem_cmds hu), fun _ => rfl, .inr (.inr ⟨rfl, by rw [List.length_append, List.length_map]; omega⟩), fun _ => .inr rfl⟩
    · exact .inl ⟨h1, a, b ++ _, List.append_assoc .., h2, fun h => absurd c1 h, h4, fun _ => .inr rfl⟩
  · rcases ha with ⟨a1, rfl, rfl⟩ | ⟨a1, _⟩ | ⟨a1, _⟩ | ⟨a1, _⟩
    · exact .inr ⟨g1, g2, .inr rfl, g4⟩
    · exact absurd g1 a1
    · exact absurd g1 a1
    · exact absurd g1 a1
theorem Cov.some {N : Int} {s : RS} {out : List Cmd} {B : Nat} {w : Bool} (h : Cov N s out B w) (hi : Inv s) (hn : s.number ≠ 0) : out ≠ [] ∧ B < 60 ∧ s.number = N := by
  rcases h with ⟨h1, a, b, rfl, h2, h3, h4, h5⟩ | h
  · have := hi.lk hn
    match hk : s.lack, this with
    | u :: _, _ =>
      have := h2 u (by rw [hk]; simp)
      have h6 := List.length_pos_of_mem this
      exact ⟨fun e => by rw [(List.append_eq_nil_iff.1 e).1] at h6; simp at h6, by omega, h1⟩
  · exact absurd h.1 hn
end Go.AM.Rq
