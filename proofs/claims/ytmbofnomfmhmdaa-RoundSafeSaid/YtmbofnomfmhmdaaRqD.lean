/-
  THE ROUND's calls, more: Answer.
-/
import Derived.Test.YtmbofnomfmhmdaaRqB
set_option linter.unusedVariables false
set_option linter.unusedSimpArgs false
set_option linter.unusedSectionVars false
namespace Go.AM.Rq
open Go.Proofs

theorem index_loop (L k : Nat) {σ : St} {l : List Int} {ad : Option Addr} {z : Nat} {qs : List Nat} (hl : l.length ≤ 1000) (hR : Row c1 1 3 σ ad z qs l) (v : Int) : ∀ n i : Nat, i ≤ l.length → l.length - i < n → v ∉ l.take i →
    ∃ x : Int, lpAt Try.prog env L k 23 [true, false, true] [] n [(0, .slice ad l.length z), (1, .int .i64 v), (7, .int .i64 l.length), (8, .int .i64 i)] σ = some (.int .i64 x, σ) ∧ (decide (x ≥ 0) = decide (v ∈ l))
  | 0, i, _, h, _ => by omega
  | n + 1, i, hi, h, hno => by
    rw [f23_l2]
    by_cases hie : i = l.length
    · subst hie
      rw [List.take_length] at hno
      rw [decide_eq_false (by omega), br_false]
      exact ⟨-1, rfl, by rw [decide_eq_false hno]; rfl⟩
    · have hget : l[i]? = some l[i] := List.getElem?_eq_getElem (by omega)
      have hmem := List.mem_of_getElem? hget
      obtain ⟨q, e, hat⟩ := hR.at c1_len hget
      have htk : l.take (i + 1) = l.take i ++ [l[i]] := by rw [List.take_add_one, hget]; rfl
      generalize l[i] = u at hat htk hmem
      rw [decide_eq_true (by omega), br_true, need_of (by simp [inRange]; omega), e, adr_some, hat 0 (.int .i64 u) _ (by omega) rfl (by simp), asI_i]
      by_cases hu : v = u
      · rw [show (v == u) = true by simpa using hu, br_true]
        exact ⟨i, rfl, by rw [decide_eq_true (by omega), decide_eq_true (by rw [hu]; exact hmem)]⟩
      · rw [show (v == u) = false by simpa using hu, br_false, wrap_in _ (by omega) (by omega), ← e]
        exact index_loop L k hl hR v n (i + 1) (by omega) (by omega) (by rw [htk]; simp only [List.mem_append, List.mem_singleton, not_or]; exact ⟨hno, hu⟩)

theorem contains_spec (L k : Nat) (hL : 2000 < L) {σ : St} {l : List Int} {ad : Option Addr} {z : Nat} {qs : List Nat} (hl : l.length ≤ 1000) (hR : Row c1 1 3 σ ad z qs l) (v : Int) :
    evCall Try.prog env L (k + 2) 20 [.slice ad l.length z, .int .i64 v] σ = some (.bool (decide (v ∈ l)), σ) := by
  rw [f20_eq, f23_eq]
  obtain ⟨x, g1, g2⟩ := index_loop L k hl hR v L 0 (by omega) (by omega) (by simp)
  rw [show ((0 : Nat) : Int) = 0 from rfl] at g1
  rw [g1, bnd_some, asI_i, g2]

section
variable {σ : St} {a : Nat} {F : List Nat} {s : RS} (h : Rnd σ a F s) (L k : Nat)
include h

/-- What comes behind a phase. -/
theorem next_spec (hL : 2000 < L) (hl : s.vols.length ≤ 1000) (hp : s.phase = 1 ∨ s.phase = 2 ∨ s.phase = 3) :
    Ends (fun v σ' => ∃ adO zO qO F' out s', v = .slice adO out.length zO ∧ Row c3i 3 37 σ' adO zO qO out ∧ Rnd σ' a F' s' ∧ Turn σ σ' F F' ∧ (∀ q ∈ qO, σ.next ≤ q ∧ q ∉ F') ∧
      ((s.phase = 1 ∧ out = s.vols.map (fun v => (2, v, s.number)) ∧ s' = { s with phase := 2, an := [], left := 6, live := true }) ∨ (s.phase = 2 ∧ out = s.vols.map (fun v => (3, v, s.number)) ∧ s' = { s with phase := 3, an := [], left := 6, marked := true, live := true }) ∨
       (s.phase = 3 ∧ out = [] ∧ s' = { s with number := 0, vols := [], done := s.number, complete := s.marked })))
      (evCall Try.prog env L (k + 4) 21 [.pointer (some ⟨a, 0, none⟩)] σ) := by
  have h' := h
  have hlt := h.lt
  obtain ⟨qs, ad0, z0, mq, m, hF, h1, h2, h3, hg, h5, h6⟩ := h.ex
  rw [f21_eq, ld_at hg 3 _ rfl, asI_i]
  rcases hp with hp | hp | hp
  · rw [hp, show ((1 : Int) == 2) = false from rfl, br_false, show ((1 : Int) == 1) = true from rfl, br_true, ld_at hg 3 _ rfl, asI_i, hp, wrap_in _ (by omega) (by omega)]
    obtain ⟨v, σ1, g1, adO, zO, qO, F1, rfl, hO, hR1, hT1, hq1⟩ := enter_spec L k hL h' hl 2
    rw [show (1 : Int) + 1 = 2 from rfl, g1, bnd_some, asSl_s]
    exact .leaf ⟨adO, zO, qO, F1, s.vols.map (fun v => (2, v, s.number)), _, by rw [List.length_map], hO, hR1, hT1, hq1, .inl ⟨rfl, rfl, rfl⟩⟩
  · obtain ⟨σ1, p1, g1, s1, n1⟩ := putf hg 6 (.bool true) (by simp [hd]) rfl
    obtain ⟨hR1, hT1⟩ := h'.head { s with marked := true } rfl rfl rfl s1 (fun ad' z' m' e => by
      rw [hg] at e; simp only [hd, Option.some.injEq, Blk.own.injEq, List.cons.injEq, Value.slice.injEq, Value.map.injEq, and_true, true_and] at e
      obtain ⟨⟨rfl, rfl⟩, rfl⟩ := e; exact g1)
    rw [hp, show ((2 : Int) == 2) = true from rfl, br_true, p1, ld_at g1 3 _ rfl, asI_i, hp, wrap_in _ (by omega) (by omega)]
    obtain ⟨v, σ2, g2, adO, zO, qO, F2, rfl, hO, hR2, hT2, hq2⟩ := enter_spec L k hL hR1 hl 3
    rw [show (2 : Int) + 1 = 3 from rfl, g2, bnd_some, asSl_s]
    exact .leaf ⟨adO, zO, qO, F2, s.vols.map (fun v => (3, v, s.number)), _, by rw [List.length_map], hO, hR2, hT1.trans hT2, fun x hx => ⟨by have := (hq2 x hx).1; omega, (hq2 x hx).2⟩, .inr (.inl ⟨rfl, rfl, rfl⟩)⟩
  · obtain ⟨σ1, p1, g1, s1, n1⟩ := putf hg 7 (.int .i64 s.number) (by simp [hd]) rfl
    obtain ⟨σ2, p2, g2, s2, n2⟩ := putf g1 8 (.bool s.marked) (by simp [hd]) rfl
    obtain ⟨σ3, p3, g3, s3, n3⟩ := putf g2 0 (.int .i64 0) (by simp [hd]) rfl
    obtain ⟨σ4, p4, g4, s4, n4⟩ := putf g3 2 (.slice none 0 0) (by simp [hd]) rfl
    have s14 := ((s1.trans s2).trans s3).trans s4
    rw [hp, show ((3 : Int) == 2) = false from rfl, br_false, show ((3 : Int) == 1) = false from rfl, br_false, ld_at hg 0 _ rfl, asI_i, ld_at hg 6 _ rfl, asB_b, p1, p2, p3, p4]
    subst hF
    have hR4 : Rnd σ4 a (a :: ([] ++ mq)) { s with number := 0, vols := [], done := s.number, complete := s.marked } := by
      refine ⟨⟨[], none, 0, mq, m, rfl, by simp, h2, by simp, g4, Row.nil _ _ _ _, h6.imp id ?_⟩, fun x hx => ?_⟩
      · rintro ⟨b, rfl, rfl, hb⟩
        exact ⟨b, rfl, rfl, by rw [s14.2 b (hlt b (by simp)) (by simp; rintro rfl; exact h2 (by simp))]; exact hb⟩
      · simp only [List.nil_append, List.mem_cons] at hx
        rcases hx with rfl | hx
        · have := hlt x (by simp); omega
        · have := hlt x (by simp [hx]); omega
    refine .leaf ⟨none, 0, [], _, [], _, rfl, Row.nil _ _ _ _, hR4, ⟨s14.mono (by simp), fun x hx => ⟨?_, hR4.lt x hx⟩⟩, by simp, .inr (.inr ⟨rfl, rfl, by rw [hp]⟩)⟩
    simp only [List.nil_append, List.mem_cons] at hx
    rcases hx with rfl | hx
    · exact .inl (by simp)
    · exact .inl (by simp [hx])

/-- What an answer leaves. -/
def Answered (s : RS) (v : Int) (out : List (Int × Int × Int)) (s' : RS) : Prop :=
  (RS.lack { s with an := addTo v s.an } ≠ [] ∧ out = [] ∧ s' = { s with an := addTo v s.an }) ∨
  (RS.lack { s with an := addTo v s.an } = [] ∧
    ((s.phase = 1 ∧ out = s.vols.map (fun v => (2, v, s.number)) ∧ s' = { s with phase := 2, an := [], left := 6, live := true }) ∨ (s.phase = 2 ∧ out = s.vols.map (fun v => (3, v, s.number)) ∧ s' = { s with phase := 3, an := [], left := 6, marked := true, live := true }) ∨
     (s.phase = 3 ∧ out = [] ∧ s' = { s with number := 0, vols := [], done := s.number, complete := s.marked, an := addTo v s.an })))

theorem answer_spec (hL : 2000 < L) (hl : s.vols.length ≤ 1000) (hp : s.number ≠ 0 → s.phase = 1 ∨ s.phase = 2 ∨ s.phase = 3) (hm : s.number ≠ 0 → s.live = true) (c : Int × Int × Int) :
    (s.number ≠ 0 ∧ c.2.2 = s.number ∧ c.1 = s.phase ∧ c.2.1 ∈ s.vols ∧ ∃ adO zO qO F' out s' σ', evCall Try.prog env L (k + 5) 13 [.pointer (some ⟨a, 0, none⟩), .agg (c3i c).toArray] σ = some (.tuple #[.slice adO out.length zO, .nilIface], σ') ∧ Row c3i 3 37 σ' adO zO qO out ∧ Rnd σ' a F' s' ∧ Turn σ σ' F F' ∧ (∀ q ∈ qO, σ.next ≤ q ∧ q ∉ F') ∧ Answered s c.2.1 out s') ∨
    (¬ (s.number ≠ 0 ∧ c.2.2 = s.number ∧ c.1 = s.phase ∧ c.2.1 ∈ s.vols) ∧ ∃ v σ', evCall Try.prog env L (k + 5) 13 [.pointer (some ⟨a, 0, none⟩), .agg (c3i c).toArray] σ = some (.tuple #[.slice none 0 0, .iface 62 v], σ') ∧ Same σ σ' []) := by
  obtain ⟨kd, vv, nn⟩ := c
  show (_ ∧ nn = s.number ∧ kd = s.phase ∧ vv ∈ s.vols ∧ _) ∨ (¬ (_ ∧ nn = s.number ∧ kd = s.phase ∧ vv ∈ s.vols) ∧ _)
  simp only [show c3i (kd, vv, nn) = [.int .i64 kd, .int .i64 vv, .int .i64 nn] from rfl]
  rw [f13_eq]
  have h' := h
  have hlt := h.lt
  generalize hσ1 : σ.new (Blk.own [Value.int IntKind.i64 kd, Value.int IntKind.i64 vv, Value.int IntKind.i64 nn] 37) = σ1
  have hn1 : σ1.get σ.next = some (Blk.own [Value.int IntKind.i64 kd, Value.int IntKind.i64 vv, Value.int IntKind.i64 nn] 37) := by rw [← hσ1, get_new_same]
  have hs1 : Same σ σ1 [] := by rw [← hσ1]; exact Same.new _ _ _
  have hx1 : σ1.next = σ.next + 1 := by rw [← hσ1]; rfl
  have h1' := h.idle hs1
  obtain ⟨qs, ad0, z0, mq, m, hF, h1, h2, h3, hg, h5, h6⟩ := h1'.ex
  have hal := hlt a (by rw [hF]; simp)
  have hg0 : σ.get a = some (.own (hd s ad0 z0 m) 28) := by rw [← hs1.2 a hal (by simp)]; exact hg
  rw [ld_at hg 0 _ rfl, asI_i]
  by_cases hn : s.number = 0
  · obtain ⟨v, σ', g1, g2⟩ := wrong_spec L (k + 2) σ1 nn 10 (by omega)
    rw [show (s.number == 0) = true by simpa using hn, br_true, ld_at hn1 2 _ rfl, asI_i, g1, bnd_some]
    exact .inr ⟨fun hh => hh.1 hn, v, σ', rfl, hs1.trans g2⟩
  rw [show (s.number == 0) = false by simpa using hn, br_false, ld_at hn1 2 _ rfl, asI_i, ld_at hg 0 _ rfl, asI_i]
  by_cases hnn : nn = s.number
  case neg =>
    obtain ⟨v, σ', g1, g2⟩ := wrong_spec L (k + 2) σ1 nn 10 (by omega)
    rw [show (nn != s.number) = true by simpa using hnn, br_true, ld_at hn1 2 _ rfl, asI_i, g1, bnd_some]
    exact .inr ⟨fun hh => hnn hh.2.1, v, σ', rfl, hs1.trans g2⟩
  rw [show (nn != s.number) = false by simpa using hnn, br_false, ld_at hn1 0 _ rfl, asI_i, ld_at hg 3 _ rfl, asI_i]
  by_cases hk : kd = s.phase
  case neg =>
    obtain ⟨v, σ', g1, g2⟩ := wrong_spec L (k + 2) σ1 nn 10 (by omega)
    rw [show (kd != s.phase) = true by simpa using hk, br_true, ld_at hn1 2 _ rfl, asI_i, g1, bnd_some]
    exact .inr ⟨fun hh => hk hh.2.2.1, v, σ', rfl, hs1.trans g2⟩
  rw [show (kd != s.phase) = false by simpa using hk, br_false, ld_at hg 2 _ rfl, asSl_s, ld_at hn1 1 _ rfl, asI_i, contains_spec L (k + 2) hL hl h5, bnd_some, asB_b]
  by_cases hv : vv ∈ s.vols
  case neg =>
    obtain ⟨v, σ', g1, g2⟩ := wrong_spec L (k + 2) σ1 nn 12 (by omega)
    rw [decide_eq_false hv, not_false, br_true, ld_at hn1 2 _ rfl, asI_i, g1, bnd_some]
    exact .inr ⟨fun hh => hv hh.2.2.2, v, σ', rfl, hs1.trans g2⟩
  rcases h6 with ⟨_, _, _, hlv⟩ | ⟨b, rfl, rfl, hb⟩
  · rw [hm hn] at hlv; cases hlv
  subst hF
  have hM : ∀ K : Option Nat → Res, asM (.map (some b)) K = K (some b) := fun K => rfl
  rw [decide_eq_true hv, not_true, br_false, ld_at hg 4 _ rfl, hM, ld_at hn1 1 _ rfl, asI_i, upd_map hb]
  have hs2 := show Same σ1 (σ1.set b (.mp (asMap (addTo vv s.an)))) [b] from Same.set _ _ _
  have hba : a ≠ b := fun e => h2 (by simp [e])
  have hR2 : Rnd (σ1.set b (.mp (asMap (addTo vv s.an)))) a (a :: (qs ++ [b])) { s with an := addTo vv s.an } :=
    ⟨⟨qs, ad0, z0, [b], some b, rfl, h1, h2, h3, by rw [get_set hba]; exact hg, h5.same hs2 (fun q hq => by have := h3 q hq; simpa using this), .inr ⟨b, rfl, rfl, get_set_same _ _ _⟩⟩, by simpa using h1'.lt⟩
  have hT2 : Turn σ (σ1.set b (.mp (asMap (addTo vv s.an)))) (a :: (qs ++ [b])) (a :: (qs ++ [b])) :=
    ⟨(hs1.mono (by simp)).trans (hs2.mono (by simp)), fun q hq => ⟨.inl hq, hR2.lt q hq⟩⟩
  generalize σ1.set b (.mp (asMap (addTo vv s.an))) = σ2 at hs2 hR2 hT2
  obtain ⟨v, σ3, g3, ad3, z3, q3, rfl, hL3, hs3, hq3⟩ := lacks_spec L (k + 3) hL hR2 hl
  have hR3 := hR2.idle hs3
  have hT3 := hT2.after hs3
  rw [g3, bnd_some, asSl_s]
  by_cases hlk : RS.lack { s with an := addTo vv s.an } = []
  · obtain ⟨v, σ4, g4, adO, zO, qO, F4, out, s', rfl, hO, hR4, hT4, hq4, hor⟩ := next_spec hR3 L k hL hl (hp hn)
    rw [decide_eq_false (by rw [hlk]; simp), br_false, g4, bnd_some, asSl_s]
    exact .inl ⟨hn, hnn, hk, hv, adO, zO, qO, F4, out, s', σ4, rfl, hO, hR4, hT3.trans hT4, fun x hx => ⟨by have := (hq4 x hx).1; have := hT3.same.1; omega, (hq4 x hx).2⟩, .inr ⟨hlk, hor⟩⟩
  · have hpos : 0 < (RS.lack { s with an := addTo vv s.an }).length := List.length_pos_iff.2 hlk
    rw [decide_eq_true (by omega), br_true]
    exact .inl ⟨hn, hnn, hk, hv, none, 0, [], _, [], _, σ3, rfl, Row.nil _ _ _ _, hR3, hT3, by simp, .inl ⟨hlk, rfl, rfl⟩⟩
end

end Go.AM.Rq
