/-
  THE DOCUMENT'S ROUND, more: answers, ticks; lists that are compared.
-/
import Derived.Test.YtmbofnomfmhmdaaDoorRpF
import Derived.Test.YtmbofnomfmhmdaaDoorAm18
set_option linter.unusedVariables false
set_option linter.unusedSimpArgs false
set_option linter.unusedSectionVars false
namespace Go.AM.Rp
open Go.Proofs

theorem answered_fun {s : RS} {v : Int} {o1 o2 : List (Int × Int × Int)} {s1 s2 : RS} (h1 : Answered s v o1 s1) (h2 : Answered s v o2 s2) : o1 = o2 ∧ s1 = s2 := by
  rcases h1 with ⟨a1, rfl, rfl⟩ | ⟨a1, h1⟩
  · rcases h2 with ⟨_, rfl, rfl⟩ | ⟨a2, _⟩
    · exact ⟨rfl, rfl⟩
    · exact absurd a2 a1
  · rcases h2 with ⟨a2, _⟩ | ⟨_, h2⟩
    · exact absurd a1 a2
    · rcases h1 with ⟨p1, rfl, rfl⟩ | ⟨p1, rfl, rfl⟩ | ⟨p1, rfl, rfl⟩ <;> rcases h2 with ⟨p2, rfl, rfl⟩ | ⟨p2, rfl, rfl⟩ | ⟨p2, rfl, rfl⟩ <;> first | exact ⟨rfl, rfl⟩ | (rw [p1] at p2; exact absurd p2 (by decide))

theorem oks_put {s : RS} (hnd : s.vols.Nodup) {j : Nat} {v : Int} (hj : s.vols[j]? = some v) : (oks s).set j true = oks { s with an := addTo v s.an } := by
  unfold oks
  apply List.ext_getElem?
  intro p
  rw [List.getElem?_set, List.getElem?_map]
  simp only [List.getElem?_map]
  have hjl := (List.getElem?_eq_some_iff.1 hj).1
  have hmem : ∀ w, w ∈ addTo v s.an ↔ w = v ∨ w ∈ s.an := fun w => by
    unfold addTo
    by_cases h : v ∈ s.an
    · rw [if_pos h]; exact ⟨.inr, fun hw => hw.elim (fun e => e ▸ h) id⟩
    · rw [if_neg h, List.mem_append, List.mem_singleton]; exact or_comm
  by_cases hp : j = p
  · subst hp
    rw [if_pos rfl, if_pos (by rw [List.length_map]; exact hjl), hj]
    simp only [Option.map_some]
    rw [decide_eq_true ((hmem v).2 (.inl rfl))]
  · rw [if_neg hp]
    cases hw : s.vols[p]? with
    | none => rfl
    | some w =>
      have hne : w ≠ v := fun e => hp ((List.getElem?_inj hjl hnd).1 (by rw [hj, hw, e]))
      simp only [Option.map_some]
      congr 1
      by_cases hm : w ∈ s.an
      · rw [decide_eq_true hm, decide_eq_true ((hmem w).2 (.inr hm))]
      · rw [decide_eq_false hm, decide_eq_false (fun h => ((hmem w).1 h).elim hne hm)]

section
variable {σ : St} {b : Nat} {G : List Nat} {s : RS}

/-- Which place a volume has. -/
theorem rfind_loop (h : Ref σ b G s) (L k : Nat) (hl : s.vols.length ≤ 1000) {t : Nat} {c0 c1' c2 : Int} (ht : σ.get t = some (.own [.int .i64 c0, .int .i64 c1', .int .i64 c2] 36)) : ∀ (n i : Nat) (x : Int), i ≤ s.vols.length → s.vols.length - i < n → ((x = -1 ∧ c1' ∉ s.vols.take i) ∨ ∃ j : Nat, x = j ∧ s.vols[j]? = some c1') →
    ∃ (x' : Int) (n' : Nat), ((x' = -1 ∧ c1' ∉ s.vols) ∨ ∃ j : Nat, x' = j ∧ s.vols[j]? = some c1') ∧
      lpAt Tryd.prog env L k 13 [true, true, true, false, true] [] n [(0, .pointer (some ⟨b, 0, none⟩)), (3, .pointer (some ⟨t, 0, none⟩)), (6, .int .i64 x), (35, .int .i64 s.vols.length), (36, .int .i64 i)] σ = lpAt Tryd.prog env L k 13 [true, true, true, false, true] [] (n' + 1) [(0, .pointer (some ⟨b, 0, none⟩)), (3, .pointer (some ⟨t, 0, none⟩)), (6, .int .i64 x'), (35, .int .i64 s.vols.length), (36, .int .i64 s.vols.length)] σ
  | 0, i, x, _, hn, _ => by omega
  | n + 1, i, x, hi, hn, hx => by
    by_cases hie : i = s.vols.length
    · subst hie
      rw [List.take_length] at hx
      exact ⟨x, n, hx, rfl⟩
    · obtain ⟨q1, q2, ad, z, ad2, z2, _, h1, h2, h3, hg, h5, h6⟩ := h.ex
      have hget : s.vols[i]? = some s.vols[i] := List.getElem?_eq_getElem (by omega)
      have htk : s.vols.take (i + 1) = s.vols.take i ++ [s.vols[i]] := by rw [List.take_add_one, hget]; rfl
      obtain ⟨q, e, hat⟩ := h5.at c1_len hget
      generalize s.vols[i] = w at hat hget htk
      have hi1 : i + 1 ≤ s.vols.length := by clear hx; omega
      have hi2 : s.vols.length - (i + 1) < n := by clear hx; omega
      have hw : IntKind.wrap .i64 ((i : Int) + 1) = ((i + 1 : Nat) : Int) := by clear hx; rw [wrap_in _ (by omega) (by omega)]; omega
      have hP : ∀ K : Option Addr → Res, asP (.pointer (some ⟨t, 0, none⟩)) K = K (some ⟨t, 0, none⟩) := fun K => rfl
      rw [f13_l5, decide_eq_true (by omega), br_true, ld_at hg (0 + 2) _ rfl, asSl_s, need_of (by simp [inRange]; omega), e, adr_some, hat 0 (.int .i64 w) _ (by omega) rfl (by simp), asI_i, hP, adr_some, ld_at ht (0 + 1) _ rfl, asI_i, hw]
      by_cases hv : w = c1'
      · rw [show (w == c1') = true by simpa using hv, br_true]
        exact rfind_loop h L k hl ht n (i + 1) (i : Nat) hi1 hi2 (.inr ⟨i, rfl, by rw [hget, hv]⟩)
      · rw [show (w == c1') = false by simpa using hv, br_false]
        refine rfind_loop h L k hl ht n (i + 1) x hi1 hi2 (hx.imp (fun hx => ⟨hx.1, ?_⟩) id)
        rw [htk, List.mem_append, List.mem_singleton]
        rintro (h | h)
        · exact hx.2 h
        · exact hv h.symm

theorem cmds_len (s : RS) : s.cmds.length = s.lack.length := List.length_map ..

theorem ranswer_spec (h : Ref σ b G s) (L k : Nat) (hL : 2000 < L) (hl : s.vols.length ≤ 1000) (hnd : s.vols.Nodup) (hp : s.number ≠ 0 → s.phase = 1 ∨ s.phase = 2 ∨ s.phase = 3) (c : Int × Int × Int) :
    (s.number ≠ 0 ∧ c.2.2 = s.number ∧ c.1 = s.phase ∧ c.2.1 ∈ s.vols ∧ ∃ adO zO qO G' out s' σ', evCall Tryd.prog env L (k + 3) 13 [.pointer (some ⟨b, 0, none⟩), .agg (c3i c).toArray] σ = some (.tuple #[.slice adO out.length zO, .int .i64 0], σ') ∧ Row c3i 3 36 σ' adO zO qO out ∧ Ref σ' b G' s' ∧ Turn σ σ' G G' ∧ (∀ q ∈ qO, σ.next ≤ q ∧ q ∉ G') ∧ Answered s c.2.1 out s') ∨
    (¬ (s.number ≠ 0 ∧ c.2.2 = s.number ∧ c.1 = s.phase ∧ c.2.1 ∈ s.vols) ∧ ∃ σ', evCall Tryd.prog env L (k + 3) 13 [.pointer (some ⟨b, 0, none⟩), .agg (c3i c).toArray] σ = some (.tuple #[.slice none 0 0, .int .i64 (acode s c)], σ') ∧ Same σ σ' []) := by
  obtain ⟨kd, vv, nn⟩ := c
  show (_ ∧ nn = s.number ∧ kd = s.phase ∧ vv ∈ s.vols ∧ _) ∨ (¬ (_ ∧ nn = s.number ∧ kd = s.phase ∧ vv ∈ s.vols) ∧ _)
  simp only [show c3i (kd, vv, nn) = [.int .i64 kd, .int .i64 vv, .int .i64 nn] from rfl]
  rw [f13_eq]
  unfold acode
  simp only
  have hlt := h.lt
  generalize hσ1 : σ.new (Blk.own [Value.int IntKind.i64 kd, Value.int IntKind.i64 vv, Value.int IntKind.i64 nn] 36) = σ1
  have ht1 : σ1.get σ.next = some (Blk.own [Value.int IntKind.i64 kd, Value.int IntKind.i64 vv, Value.int IntKind.i64 nn] 36) := by rw [← hσ1, get_new_same]
  have s1 : Same σ σ1 [] := by rw [← hσ1]; exact Same.new _ _ _
  have n1 : σ1.next = σ.next + 1 := by rw [← hσ1]; rfl
  have h1' := h.idle s1
  obtain ⟨q1, q2, ad, z, ad2, z2, hG, h1, h2, h3, hg, h5, h6⟩ := h1'.ex
  rw [ld_at hg 0 _ rfl, asI_i]
  by_cases hn : s.number = 0
  · rw [show (s.number == 0) = true by simpa using hn, br_true, if_pos hn]
    exact .inr ⟨fun hh => hh.1 hn, σ1, rfl, s1⟩
  rw [show (s.number == 0) = false by simpa using hn, br_false, ld_at ht1 2 _ rfl, asI_i, ld_at hg 0 _ rfl, asI_i, if_neg hn]
  by_cases hnn : nn = s.number
  case neg =>
    rw [show (nn != s.number) = true by simpa using hnn, br_true, if_pos hnn]
    exact .inr ⟨fun hh => hnn hh.2.1, σ1, rfl, s1⟩
  rw [show (nn != s.number) = false by simpa using hnn, br_false, ld_at ht1 0 _ rfl, asI_i, ld_at hg 3 _ rfl, asI_i, if_neg (by simpa using hnn)]
  by_cases hk : kd = s.phase
  case neg =>
    rw [show (kd != s.phase) = true by simpa using hk, br_true, if_pos hk]
    exact .inr ⟨fun hh => hk hh.2.2.1, σ1, rfl, s1⟩
  rw [show (kd != s.phase) = false by simpa using hk, br_false, ld_at hg 2 _ rfl, asSl_s, if_neg (by simpa using hk)]
  obtain ⟨x, n', hx, e⟩ := rfind_loop h1' L (k + 2) hl ht1 L 0 (-1) (by omega) (by omega) (.inl ⟨rfl, by simp⟩)
  rw [show ((0 : Nat) : Int) = 0 from rfl] at e
  rw [e, f13_l5, decide_eq_false (by omega), br_false]
  rcases hx with ⟨rfl, hv⟩ | ⟨j, rfl, hj⟩
  · rw [show decide ((-1 : Int) < 0) = true from rfl, br_true]
    exact .inr ⟨fun hh => hv hh.2.2.2, σ1, rfl, s1⟩
  have hjl := (List.getElem?_eq_some_iff.1 hj).1
  have hv : vv ∈ s.vols := List.mem_of_getElem? hj
  rw [decide_eq_false (by omega), br_false, ld_at hg (0 + 4) _ rfl, asSl_s, need_of (by simp [inRange]; omega)]
  obtain ⟨q', σ2, e1, e2, hput, hr2, s2, n2⟩ := h6.put cb_len cb_one (i := j) (by rw [oks_len]; exact hjl) true
  rw [e2, adr_some]
  have hput' : ∀ K : St → Res, σ1.put q' (0 + Int.toNat ((j : Nat) : Int) * 1) [.bool true] K = K σ2 := fun K => hput _ (by simp) K
  rw [hput']
  rw [oks_put hnd hj] at hr2
  have hbl := h1'.lt b (by rw [hG]; simp)
  have hg2 : σ2.get b = _ := (s2.2 b hbl h2).trans hg
  have hR2 : Ref σ2 b G { s with an := addTo vv s.an } := ⟨⟨q1, q2, ad, z, ad2, z2, hG, h1, h2, h3, hg2, h5.same s2 h3, hr2⟩, fun q hq => by have := h1'.lt q hq; omega⟩
  have hT2 : Turn σ σ2 G G := ⟨(s1.mono (by simp)).trans (s2.mono (by rw [hG]; simp +contextual)), fun q hq => ⟨.inl hq, hR2.lt q hq⟩⟩
  obtain ⟨v, σ3, g3, ad3, z3, q3, rfl, hO3, s3, hq3⟩ := rtell_spec L (k + 1) hL hR2 hl
  have hR3 := hR2.idle s3
  have hT3 := hT2.after s3
  have n3 := s3.1
  rw [g3, bnd_some, asSl_s, cmds_len]
  by_cases hlk : RS.lack { s with an := addTo vv s.an } = []
  rotate_left
  · have hpos : 0 < (RS.lack { s with an := addTo vv s.an }).length := List.length_pos_iff.2 hlk
    rw [decide_eq_true (by omega), br_true]
    exact .inl ⟨hn, hnn, hk, hv, none, 0, [], G, [], _, σ3, rfl, Row.nil _ _ _ _, hR3, hT3, by simp, .inl ⟨hlk, rfl, rfl⟩⟩
  obtain ⟨p1, p2, ad', z', ad2', z2', hG', k1, k2, k3, kg, k5, k6⟩ := hR3.ex
  rw [hlk, decide_eq_false (by simp), br_false, ld_at kg (0 + 3) _ rfl, asI_i]
  rcases hp hn with hph | hph | hph
  · obtain ⟨adO, zO, qO, G4, σ4, g4, hO, hR4, hT4, hq4⟩ := renter_spec L k hL hR3 hl 2
    rw [show (s.phase == 1) = true by simpa using hph, br_true, g4, bnd_some, asSl_s]
    refine .inl ⟨hn, hnn, hk, hv, adO, zO, qO, G4, s.vols.map (fun v => (2, v, s.number)), _, σ4, by rw [List.length_map], hO, hR4, hT3.trans hT4, fun x hx => ⟨by have := (hq4 x hx).1; have := hT3.same.1; omega, (hq4 x hx).2⟩, .inr ⟨hlk, .inl ⟨hph, rfl, rfl⟩⟩⟩
  · obtain ⟨σ4, p4, g4, s4, n4⟩ := putf kg (0 + 6) (.bool true) (by simp [rhd]) rfl
    obtain ⟨hR4, hT4⟩ := hR3.head { s with an := addTo vv s.an, marked := true } rfl rfl s4 (fun a1 a2 a3 a4 e => by
      rw [kg] at e; simp only [rhd, Option.some.injEq, Blk.own.injEq, List.cons.injEq, Value.slice.injEq, and_true, true_and] at e
      obtain ⟨⟨rfl, rfl⟩, rfl, rfl⟩ := e; exact g4)
    obtain ⟨adO, zO, qO, G5, σ5, g5, hO, hR5, hT5, hq5⟩ := renter_spec L k hL hR4 hl 3
    rw [show (s.phase == 1) = false by rw [hph]; rfl, br_false, ld_at kg (0 + 3) _ rfl, asI_i, show (s.phase == 2) = true by simpa using hph, br_true, p4, g5, bnd_some, asSl_s]
    refine .inl ⟨hn, hnn, hk, hv, adO, zO, qO, G5, s.vols.map (fun v => (3, v, s.number)), _, σ5, by rw [List.length_map], hO, hR5, (hT3.trans hT4).trans hT5, fun x hx => ⟨by have := (hq5 x hx).1; have := (hT3.trans hT4).same.1; omega, (hq5 x hx).2⟩, .inr ⟨hlk, .inr (.inl ⟨hph, rfl, rfl⟩)⟩⟩
  · rw [show (s.phase == 1) = false by rw [hph]; rfl, br_false, ld_at kg (0 + 3) _ rfl, asI_i, show (s.phase == 2) = false by rw [hph]; rfl, br_false, ld_at kg (0 + 0) _ rfl, asI_i, ld_at kg (0 + 6) _ rfl, asB_b]
    obtain ⟨σ4, p4, g4, s4, n4⟩ := putf kg (0 + 7) (.int .i64 s.number) (by simp [rhd]) rfl
    obtain ⟨σ5, p5, g5, s5, n5⟩ := putf g4 (0 + 8) (.bool s.marked) (by simp [rhd]) rfl
    obtain ⟨σ6, p6, g6, s6, n6⟩ := putf g5 (0 + 0) (.int .i64 0) (by simp [rhd]) rfl
    obtain ⟨σ7, p7, g7, s7, n7⟩ := putf g6 (0 + 2) (.slice none 0 0) (by simp [rhd]) rfl
    obtain ⟨σ8, p8, g8, s8, n8⟩ := putf g7 (0 + 4) (.slice none 0 0) (by simp [rhd]) rfl
    have s48 := (((s4.trans s5).trans s6).trans s7).trans s8
    have hbl3 : b < σ3.next := hR3.lt b (by rw [hG']; simp)
    have hR8 : Ref σ8 b [b] { s with number := 0, vols := [], done := s.number, complete := s.marked, an := addTo vv s.an } := ⟨⟨[], [], none, 0, none, 0, rfl, by simp, by simp, by simp, g8, Row.nil _ _ _ _, Row.nil _ _ _ _⟩, by simp; omega⟩
    have hT8 : Turn σ3 σ8 G [b] := ⟨s48.mono (by rw [hG']; simp), fun q hq => ⟨.inl (by rw [hG']; simp at hq; simp [hq]), hR8.lt q hq⟩⟩
    rw [p4, p5, p6, p7, p8]
    exact .inl ⟨hn, hnn, hk, hv, none, 0, [], [b], [], _, σ8, rfl, Row.nil _ _ _ _, hR8, hT3.trans hT8, by simp, .inr ⟨hlk, .inr (.inr ⟨hph, rfl, rfl⟩)⟩⟩

theorem rtick_spec (h : Ref σ b G s) (L k : Nat) (hL : 2000 < L) (hl : s.vols.length ≤ 1000) (hleft : -1000 ≤ s.left ∧ s.left ≤ 1000) (hp : s.number ≠ 0 → s.phase = 1 ∨ s.phase = 2 ∨ s.phase = 3) :
    ∃ adO zO qO G' out s' σ', evCall Tryd.prog env L (k + 3) 15 [.pointer (some ⟨b, 0, none⟩)] σ = some (.slice adO out.length zO, σ') ∧ Row c3i 3 36 σ' adO zO qO out ∧ Ref σ' b G' s' ∧ Turn σ σ' G G' ∧ (∀ q ∈ qO, σ.next ≤ q ∧ q ∉ G') ∧
      ((s.number = 0 ∧ out = [] ∧ s' = s) ∨ (s.number ≠ 0 ∧ s.left - 1 > 0 ∧ out = [] ∧ s' = { s with left := s.left - 1 }) ∨
       (s.number ≠ 0 ∧ s.left - 1 ≤ 0 ∧ s.phase ≠ 3 ∧ out = s.vols.map (fun v => (3, v, s.number)) ∧ s' = { s with phase := 3, an := [], left := 6, live := true }) ∨
       (s.number ≠ 0 ∧ s.left - 1 ≤ 0 ∧ s.phase = 3 ∧ out = s.cmds ∧ s' = { s with left := 6 })) := by
  have hlt := h.lt
  obtain ⟨q1, q2, ad, z, ad2, z2, hG, h1, h2, h3, hg, h5, h6⟩ := h.ex
  rw [f15_eq, ld_at hg 0 _ rfl, asI_i]
  by_cases hn : s.number = 0
  · rw [show (s.number == 0) = true by simpa using hn, br_true]
    exact ⟨none, 0, [], G, [], s, σ, rfl, Row.nil _ _ _ _, h, .idle (Same.refl _ _) hlt, by simp, .inl ⟨hn, rfl, rfl⟩⟩
  obtain ⟨σ1, p1, g1, s1, n1⟩ := putf hg 5 (.int .i64 (s.left - 1)) (by simp [rhd]) rfl
  obtain ⟨hR1, hT1⟩ := h.head { s with left := s.left - 1 } rfl rfl s1 (fun a1 a2 a3 a4 e => by
    rw [hg] at e; simp only [rhd, Option.some.injEq, Blk.own.injEq, List.cons.injEq, Value.slice.injEq, and_true, true_and] at e
    obtain ⟨⟨rfl, rfl⟩, rfl, rfl⟩ := e; exact g1)
  rw [show (s.number == 0) = false by simpa using hn, br_false, ld_at hg 5 _ rfl, asI_i, wrap_in (s.left - 1) (by omega) (by omega), p1, ld_at g1 5 (.int .i64 (s.left - 1)) rfl, asI_i]
  by_cases hc : s.left - 1 > 0
  · rw [decide_eq_true hc, br_true]
    exact ⟨none, 0, [], G, [], _, σ1, rfl, Row.nil _ _ _ _, hR1, hT1, by simp, .inr (.inl ⟨hn, hc, rfl, rfl⟩)⟩
  rw [decide_eq_false hc, br_false, ld_at g1 3 (.int .i64 s.phase) rfl, asI_i]
  by_cases hph : s.phase = 3
  · obtain ⟨σ2, p2, g2, s2, n2⟩ := putf g1 5 (.int .i64 6) (by simp [rhd]) rfl
    obtain ⟨hR2, hT2⟩ := h.head { s with left := 6 } rfl rfl (s1.trans s2) (fun a1 a2 a3 a4 e => by
      rw [hg] at e; simp only [rhd, Option.some.injEq, Blk.own.injEq, List.cons.injEq, Value.slice.injEq, and_true, true_and] at e
      obtain ⟨⟨rfl, rfl⟩, rfl, rfl⟩ := e; exact g2)
    obtain ⟨v, σ3, g3, ad3, z3, q3, rfl, hO3, s3, hq3⟩ := rtell_spec L (k + 1) hL hR2 hl
    rw [decide_eq_false (by omega), br_false, p2, g3, bnd_some, asSl_s]
    exact ⟨ad3, z3, q3, G, s.cmds, _, σ3, rfl, hO3, hR2.idle s3, hT2.after s3, fun q hq => by have h8 := hq3 q hq; have := hT2.same.1; exact ⟨by omega, fun hx => by have := hR2.lt q hx; omega⟩, .inr (.inr (.inr ⟨hn, by omega, hph, rfl, rfl⟩))⟩
  · obtain ⟨adO, zO, qO, G4, σ4, g4, hO, hR4, hT4, hq4⟩ := renter_spec L (k) hL hR1 hl 3
    have h3' : s.phase < 3 := by rcases hp hn with e | e | e <;> omega
    rw [decide_eq_true h3', br_true, g4, bnd_some, asSl_s]
    exact ⟨adO, zO, qO, G4, s.vols.map (fun v => (3, v, s.number)), _, σ4, by rw [List.length_map], hO, hR4, hT1.trans hT4, fun q hq => ⟨by have := (hq4 q hq).1; have := hT1.same.1; omega, (hq4 q hq).2⟩, .inr (.inr (.inl ⟨hn, by omega, hph, rfl, rfl⟩))⟩
end

/-! Lists. -/
theorem list_loop (L k : Nat) {σs : St} {l : List (Int × Int × Int)} {ad : Option Addr} {z : Nat} {qs : List Nat} (hl : l.length ≤ 1000) (hR : Row c3i 3 50 σs ad z qs l) : ∀ (n i : Nat) (σ : St) (adO : Option Addr) (zO : Nat) (qO : List Nat), i ≤ l.length → l.length - i < n → Row c3i 3 36 σ adO zO qO (l.take i) → Same σs σ [] → (∀ q ∈ qO, σs.next ≤ q) →
    Ends (fun v σ' => ∃ adO zO qO, v = .slice adO l.length zO ∧ Row c3i 3 36 σ' adO zO qO l ∧ Same σs σ' [] ∧ ∀ q ∈ qO, σs.next ≤ q)
      (lpAt Tryd.prog env L k 10 [true, true, false, true] [] n [(0, .slice ad l.length z), (3, .slice adO (l.take i).length zO), (6, .int .i64 l.length), (7, .int .i64 i)] σ)
  | 0, i, σ, adO, zO, qO, _, h, _, _, _ => by omega
  | n + 1, i, σ, adO, zO, qO, hi, h, hO, hs, hq => by
    rw [f10_l3]
    by_cases hie : i = l.length
    · rw [decide_eq_false (by omega), br_false]
      subst hie
      rw [List.take_length] at hO ⊢
      exact .leaf ⟨adO, zO, qO, rfl, hO, hs, hq⟩
    · have hget : l[i]? = some l[i] := List.getElem?_eq_getElem (by omega)
      have htk : l.take (i + 1) = l.take i ++ [l[i]] := by rw [List.take_add_one, hget]; rfl
      obtain ⟨q, e, hat⟩ := (hR.same hs (by simp)).lds c3i_len hget
      generalize l[i] = c at hat htk
      have hw : IntKind.wrap .i64 ((i : Int) + 1) = ((i + 1 : Nat) : Int) := by rw [wrap_in _ (by omega) (by omega)]; omega
      rw [decide_eq_true (by omega), br_true, need_of (by simp [inRange]; omega), e, adr_some, hat _ (by simp), show c3i c = [.int .i64 c.1, .int .i64 c.2.1, .int .i64 c.2.2] from rfl, uncons_c, asI_i, uncons_c, asI_i, uncons_c, asI_i, endl_n, ← e, hw]
      generalize hσ2 : σ.new (Blk.own [Value.int IntKind.i64 c.1, Value.int IntKind.i64 c.2.1, Value.int IntKind.i64 c.2.2] 36) = σ2
      have hnew : σ2.get σ.next = some (Blk.own [Value.int IntKind.i64 c.1, Value.int IntKind.i64 c.2.1, Value.int IntKind.i64 c.2.2] 36) := by rw [← hσ2, get_new_same]
      have hs2 : Same σ σ2 [] := by rw [← hσ2]; exact Same.new _ _ _
      have htl : (l.take i).length ≤ 1000 := by rw [List.length_take]; omega
      obtain ⟨ad', z', q', σ3, hgrow, hO3, hs3, hq3⟩ := grow_row (by_ := 24) (hO.same hs2 (by simp)) c3i_len c3i_one (by omega) [c] [Value.int IntKind.i64 c.1, Value.int IntKind.i64 c.2.1, Value.int IntKind.i64 c.2.2] rfl 1 rfl (by unfold roomTop; omega) (by unfold sizeTop; omega)
      rw [row_all (n := 3) hnew rfl (by omega), hgrow]
      have hs02 := hs.trans hs2
      rw [← htk] at hO3
      have e10 : (l.take i).length + 1 = (l.take (i + 1)).length := by rw [htk]; simp
      rw [e10]
      exact list_loop L k hl hR n (i + 1) σ3 ad' z' q' (by omega) (by omega) hO3 (hs02.fresh hs3 (fun x hx => .inr (hq x hx))) (fun x hx => by
        rcases hq3 x hx with h | h
        · exact hq x h
        · have := hs02.1; omega)
theorem list_spec (L k : Nat) (hL : 2000 < L) {σ : St} {l : List (Int × Int × Int)} {ad : Option Addr} {z : Nat} {qs : List Nat} (hl : l.length ≤ 1000) (hR : Row c3i 3 50 σ ad z qs l) :
    Ends (fun v σ' => ∃ adO zO qO, v = .slice adO l.length zO ∧ Row c3i 3 36 σ' adO zO qO l ∧ Same σ σ' [] ∧ ∀ q ∈ qO, σ.next ≤ q) (evCall Tryd.prog env L (k + 1) 10 [.slice ad l.length z] σ) := by
  rw [f10_eq]
  exact list_loop L k hl hR L 0 σ none 0 [] (by omega) (by omega) (Row.nil _ _ _ _) (Same.refl _ _) (by simp)
theorem same9_loop (L k : Nat) {σ : St} {l : List (Int × Int × Int)} {e1 e2 : TypeId} {ad1 ad2 : Option Addr} {z1 z2 : Nat} {q1 q2 : List Nat} (h1 : Row c3i 3 e1 σ ad1 z1 q1 l) (h2 : Row c3i 3 e2 σ ad2 z2 q2 l) (hl : l.length ≤ 1000) : ∀ (n i : Nat), i ≤ l.length → l.length - i < n →
    lpAt Tryd.prog env L k 9 [true, true, false, true] [] n [(0, .slice ad1 l.length z1), (1, .slice ad2 l.length z2), (12, .int .i64 l.length), (13, .int .i64 i)] σ = some (.bool true, σ)
  | 0, i, _, h => by omega
  | n + 1, i, hi, h => by
    rw [f9_l4]
    by_cases hie : i = l.length
    · rw [decide_eq_false (by omega), br_false]
    · have hget : l[i]? = some l[i] := List.getElem?_eq_getElem (by omega)
      obtain ⟨r1, e1, a1⟩ := h1.lds c3i_len hget
      obtain ⟨r2, e2, a2⟩ := h2.lds c3i_len hget
      generalize l[i] = c at a1 a2
      have hw : IntKind.wrap .i64 ((i : Int) + 1) = ((i + 1 : Nat) : Int) := by rw [wrap_in _ (by omega) (by omega)]; omega
      have hc : c3i c = [.int .i64 c.1, .int .i64 c.2.1, .int .i64 c.2.2] := rfl
      have hbb : (!(c.1 == c.1 && (c.2.1 == c.2.1 && (c.2.2 == c.2.2 && true)))) = false := by simp
      rw [decide_eq_true (by omega), br_true, need_of (by simp [inRange]; omega), e1, adr_some, a1 _ (by simp), hc, uncons_c, asI_i, uncons_c, asI_i, uncons_c, asI_i, endl_n, need_of (by simp [inRange]; omega), e2, adr_some, a2 _ (by simp), hc, uncons_c, asI_i, uncons_c, asI_i, uncons_c, asI_i, endl_n, hbb, br_false, hw, ← e1, ← e2]
      exact same9_loop L k h1 h2 hl n (i + 1) (by omega) (by omega)
theorem same9_spec (L k : Nat) (hL : 2000 < L) {σ : St} {l : List (Int × Int × Int)} {e1 e2 : TypeId} {ad1 ad2 : Option Addr} {z1 z2 : Nat} {q1 q2 : List Nat} (h1 : Row c3i 3 e1 σ ad1 z1 q1 l) (h2 : Row c3i 3 e2 σ ad2 z2 q2 l) (hl : l.length ≤ 1000) :
    evCall Tryd.prog env L (k + 1) 9 [.slice ad1 l.length z1, .slice ad2 l.length z2] σ = some (.bool true, σ) := by
  rw [f9_eq, show ((l.length : Int) != (l.length : Int)) = false by simp, br_false]
  exact same9_loop L k h1 h2 hl L 0 (by omega) (by omega)
theorem same_loop (L k : Nat) {σ : St} {l : List Int} {ad1 ad2 : Option Addr} {z1 z2 : Nat} {q1 q2 : List Nat} (h1 : Row c1 1 3 σ ad1 z1 q1 l) (h2 : Row c1 1 3 σ ad2 z2 q2 l) (hl : l.length ≤ 1000) : ∀ (n i : Nat), i ≤ l.length → l.length - i < n →
    lpAt Tryd.prog env L k 18 [true, true, false, true] [] n [(0, .slice ad1 l.length z1), (1, .slice ad2 l.length z2), (12, .int .i64 l.length), (13, .int .i64 i)] σ = some (.bool true, σ)
  | 0, i, _, h => by omega
  | n + 1, i, hi, h => by
    rw [f18_l4]
    by_cases hie : i = l.length
    · rw [decide_eq_false (by omega), br_false]
    · have hget : l[i]? = some l[i] := List.getElem?_eq_getElem (by omega)
      obtain ⟨r1, e1, a1⟩ := h1.at c1_len hget
      obtain ⟨r2, e2, a2⟩ := h2.at c1_len hget
      generalize l[i] = x at a1 a2
      have hw : IntKind.wrap .i64 ((i : Int) + 1) = ((i + 1 : Nat) : Int) := by rw [wrap_in _ (by omega) (by omega)]; omega
      rw [decide_eq_true (by omega), br_true, need_of (by simp [inRange]; omega), e1, adr_some, a1 0 (.int .i64 x) _ (by omega) rfl (by simp), asI_i, need_of (by simp [inRange]; omega), e2, adr_some, a2 0 (.int .i64 x) _ (by omega) rfl (by simp), asI_i, show (x != x) = false by simp, br_false, hw, ← e1, ← e2]
      exact same_loop L k h1 h2 hl n (i + 1) (by omega) (by omega)
theorem same_spec (L k : Nat) (hL : 2000 < L) {σ : St} {l : List Int} {ad1 ad2 : Option Addr} {z1 z2 : Nat} {q1 q2 : List Nat} (h1 : Row c1 1 3 σ ad1 z1 q1 l) (h2 : Row c1 1 3 σ ad2 z2 q2 l) (hl : l.length ≤ 1000) :
    evCall Tryd.prog env L (k + 1) 18 [.slice ad1 l.length z1, .slice ad2 l.length z2] σ = some (.bool true, σ) := by
  rw [f18_eq, show ((l.length : Int) != (l.length : Int)) = false by simp, br_false]
  exact same_loop L k h1 h2 hl L 0 (by omega) (by omega)

/-! Errors. -/
def Ans (σ : St) (v : Value) (c at_ : Int) : Prop := (c = 0 ∧ v = .nilIface) ∨ (c ≠ 0 ∧ Err σ v c at_)
theorem Ans.same {σ σ' : St} {v : Value} {c a : Int} {S : List Nat} (h : Ans σ v c a) (hs : Same σ σ' S) (hS : S = [] := by rfl) : Ans σ' v c a := h.imp id (fun h => ⟨h.1, h.2.same hs hS⟩)
theorem place_spec (L k : Nat) (hL : 3 < L) {σ : St} {v : Value} {c a : Int} (h : Ans σ v c a) : ∃ σ', evCall Tryd.prog env L (k + 4) 11 [v, .int .i64 a, .int .i64 c] σ = some (.bool true, σ') ∧ Same σ σ' [] := by
  rw [f11_eq]
  rcases h with ⟨rfl, rfl⟩ | ⟨h1, h2⟩
  · obtain ⟨σ1, g1, s1⟩ := first_nil L k hL σ ⟨#[114, 111, 117, 110, 100]⟩
    obtain ⟨σ2, g2, s2⟩ := code_nil L (k + 1) σ1
    rw [g1, bnd_some, asT_t, toList2, uncons_c, asI_i, uncons_c, asB_b, endl_n, g2, bnd_some, asI_i]
    exact ⟨σ2, rfl, s1.trans s2⟩
  · obtain ⟨σ1, g1, s1⟩ := first_spec L k hL h2
    obtain ⟨σ2, g2, s2⟩ := code_spec L (k + 1) (h2.same s1)
    rw [g1, bnd_some, asT_t, toList2, uncons_c, asI_i, uncons_c, asB_b, endl_n, g2, bnd_some, asI_i, beq_self_eq_true, br_true, show (true == (c != 0)) = true by simpa using h1, br_true, not_true, br_false, beq_self_eq_true]
    exact ⟨σ2, rfl, s1.trans s2⟩
end Go.AM.Rp
