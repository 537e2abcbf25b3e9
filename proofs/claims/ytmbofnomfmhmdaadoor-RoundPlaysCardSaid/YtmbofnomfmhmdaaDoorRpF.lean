/-
  THE DOCUMENT'S ROUND, call by call.
-/
import Derived.Test.YtmbofnomfmhmdaaDoorRpD
import Derived.Test.YtmbofnomfmhmdaaDoorAm21
set_option linter.unusedVariables false
set_option linter.unusedSimpArgs false
set_option linter.unusedSectionVars false
namespace Go.AM.Rp
open Go.Proofs

def cb (b : Bool) : List Value := [.bool b]
theorem cb_len (b : Bool) : (cb b).length = 1 := rfl
theorem cb_one (b : Bool) : (cb b).all oneCell = true := rfl
def oks (s : RS) : List Bool := s.vols.map fun v => decide (v ∈ s.an)
theorem oks_len (s : RS) : (oks s).length = s.vols.length := List.length_map ..
def rhd (s : RS) (ad : Option Addr) (z : Nat) (ad2 : Option Addr) (z2 : Nat) : List Value :=
  [.int .i64 s.number, .int .i64 s.latest, .slice ad s.vols.length z, .int .i64 s.phase, .slice ad2 s.vols.length z2, .int .i64 s.left, .bool s.marked, .int .i64 s.done, .bool s.complete]

structure Ref (σ : St) (b : Nat) (G : List Nat) (s : RS) : Prop where
  ex : ∃ q1 q2 ad z ad2 z2, G = b :: (q1 ++ q2) ∧ b ∉ q1 ∧ b ∉ q2 ∧ (∀ q ∈ q1, q ∉ q2) ∧ σ.get b = some (.own (rhd s ad z ad2 z2) 33) ∧ Row c1 1 3 σ ad z q1 s.vols ∧ Row cb 1 4 σ ad2 z2 q2 (oks s)
  lt : ∀ q ∈ G, q < σ.next
theorem Ref.same {σ σ' : St} {b : Nat} {G S : List Nat} {s : RS} (h : Ref σ b G s) (hs : Same σ σ' S) (hG : ∀ q ∈ G, q ∉ S) : Ref σ' b G s := by
  obtain ⟨q1, q2, ad, z, ad2, z2, rfl, h1, h2, h3, h4, h5, h6⟩ := h.ex
  exact ⟨⟨q1, q2, ad, z, ad2, z2, rfl, h1, h2, h3, by rw [hs.2 b (h.lt b (by simp)) (hG b (by simp))]; exact h4, h5.same hs (fun q hq => hG q (by simp [hq])), h6.same hs (fun q hq => hG q (by simp [hq]))⟩, fun q hq => by have := h.lt q hq; have := hs.1; omega⟩
theorem Ref.idle {σ σ' : St} {b : Nat} {G : List Nat} {s : RS} (h : Ref σ b G s) (hs : Same σ σ' []) : Ref σ' b G s := h.same hs (by simp)

/-- The head's whole numbers and bools may turn. -/
theorem Ref.head {σ σ' : St} {b : Nat} {G : List Nat} {s : RS} (h : Ref σ b G s) (s' : RS) (hv : s'.vols = s.vols) (han : s'.an = s.an) (hs : Same σ σ' [b]) (hg : ∀ ad z ad2 z2, σ.get b = some (.own (rhd s ad z ad2 z2) 33) → σ'.get b = some (.own (rhd s' ad z ad2 z2) 33)) : Ref σ' b G s' ∧ Turn σ σ' G G := by
  obtain ⟨q1, q2, ad, z, ad2, z2, rfl, h1, h2, h3, h4, h5, h6⟩ := h.ex
  have hlt := h.lt
  refine ⟨⟨⟨q1, q2, ad, z, ad2, z2, rfl, h1, h2, h3, hg _ _ _ _ h4, ?_, ?_⟩, fun q hq => by have := hlt q hq; have := hs.1; omega⟩, ⟨hs.mono (by simp), fun q hq => ⟨.inl hq, by have := hlt q hq; have := hs.1; omega⟩⟩⟩
  · rw [hv]; exact h5.same hs (fun q hq => by simp; rintro rfl; exact h1 hq)
  · rw [show oks s' = oks s by unfold oks; rw [hv, han]]; exact h6.same hs (fun q hq => by simp; rintro rfl; exact h2 hq)

theorem ok_at {s : RS} {i : Nat} {v : Int} (h : s.vols[i]? = some v) : (oks s)[i]? = some (decide (v ∈ s.an)) := by
  unfold oks; rw [List.getElem?_map, h]; rfl

theorem rtell_loop (L k : Nat) {σs : St} {b : Nat} {G : List Nat} {s : RS} (hS : Ref σs b G s) (hl : s.vols.length ≤ 1000) : ∀ (n i : Nat) (σ : St) (adO : Option Addr) (zO : Nat) (qO : List Nat),
    i ≤ s.vols.length → s.vols.length - i < n → Row c3i 3 36 σ adO zO qO (((s.vols.take i).filter fun v => decide (v ∉ s.an)).map fun v => (s.phase, v, s.number)) → Same σs σ [] → (∀ q ∈ qO, σs.next ≤ q) →
    Ends (fun v σ' => ∃ adO zO qO, v = .slice adO s.cmds.length zO ∧ Row c3i 3 36 σ' adO zO qO s.cmds ∧ Same σs σ' [] ∧ ∀ q ∈ qO, σs.next ≤ q)
      (lpAt Tryd.prog env L k 29 [true, true, false, true] [] n [(0, .pointer (some ⟨b, 0, none⟩)), (3, .slice adO (((s.vols.take i).filter fun v => decide (v ∉ s.an)).map fun v => (s.phase, v, s.number)).length zO), (9, .int .i64 s.vols.length), (10, .int .i64 i)] σ)
  | 0, i, σ, adO, zO, qO, _, h, _, _, _ => by omega
  | n + 1, i, σ, adO, zO, qO, hi, h, hO, hs, hq => by
    rw [f29_l3]
    by_cases hie : i = s.vols.length
    · rw [decide_eq_false (by omega), br_false]
      subst hie
      rw [List.take_length] at hO ⊢
      exact .leaf ⟨adO, zO, qO, rfl, hO, hs, hq⟩
    · obtain ⟨q1, q2, ad, z, ad2, z2, _, h1, h2, h3, hg, h5, h6⟩ := (hS.idle hs).ex
      have hget : s.vols[i]? = some s.vols[i] := List.getElem?_eq_getElem (by omega)
      have hls := lack_snoc (s := s) hget
      have hok := ok_at hget
      obtain ⟨p1, e1, a1⟩ := h5.at c1_len hget
      obtain ⟨p2, e2, a2⟩ := h6.at cb_len hok
      generalize s.vols[i] = v at hls a1 a2
      have hw : IntKind.wrap .i64 ((i : Int) + 1) = ((i + 1 : Nat) : Int) := by rw [wrap_in _ (by omega) (by omega)]; omega
      rw [decide_eq_true (by omega), br_true, ld_at hg (0 + 4) _ rfl, asSl_s, need_of (by simp [inRange]; omega), e2, adr_some, a2 0 (.bool (decide (v ∈ s.an))) _ (by omega) rfl (by simp), asB_b]
      by_cases hv : v ∈ s.an
      · rw [if_pos hv] at hls
        rw [decide_eq_true hv, not_true, br_false, hw]
        rw [← hls] at hO ⊢
        exact rtell_loop L k hS hl n (i + 1) σ adO zO qO (by omega) (by omega) hO hs hq
      · rw [if_neg hv] at hls
        rw [decide_eq_false hv, not_false, br_true, ld_at hg (0 + 3) _ rfl, asI_i, ld_at hg (0 + 2) _ rfl, asSl_s, need_of (by simp [inRange]; omega), e1, adr_some, a1 0 (.int .i64 v) _ (by omega) rfl (by simp), asI_i, ld_at hg (0 + 0) _ rfl, asI_i, need_true, need_true, need_true, need_true, hw]
        generalize hσ2 : σ.new (Blk.own [Value.int IntKind.i64 s.phase, Value.int IntKind.i64 v, Value.int IntKind.i64 s.number] 36) = σ2
        have hnew : σ2.get σ.next = some (Blk.own [Value.int IntKind.i64 s.phase, Value.int IntKind.i64 v, Value.int IntKind.i64 s.number] 36) := by rw [← hσ2, get_new_same]
        have hs2 : Same σ σ2 [] := by rw [← hσ2]; exact Same.new _ _ _
        have hfl : ((s.vols.take i).filter fun v => decide (v ∉ s.an)).length ≤ i := Nat.le_trans (List.length_filter_le _ _) (by rw [List.length_take]; omega)
        obtain ⟨ad', z', q', σ3, hgrow, hO3, hs3, hq3⟩ := grow_row (by_ := 24) (hO.same hs2 (by simp)) c3i_len c3i_one (by omega) [(s.phase, v, s.number)] [Value.int IntKind.i64 s.phase, Value.int IntKind.i64 v, Value.int IntKind.i64 s.number] rfl 1 rfl (by rw [List.length_map]; unfold roomTop; omega) (by rw [List.length_map]; unfold sizeTop; omega)
        rw [row_all (n := 3) hnew rfl (by omega), hgrow]
        have hs02 := hs.trans hs2
        have e9 : (((s.vols.take i).filter fun v => decide (v ∉ s.an)).map fun v => (s.phase, v, s.number)) ++ [(s.phase, v, s.number)] = (((s.vols.take (i + 1)).filter fun v => decide (v ∉ s.an)).map fun v => (s.phase, v, s.number)) := by rw [hls, List.map_append]; rfl
        rw [e9] at hO3
        have e10 : (((s.vols.take i).filter fun v => decide (v ∉ s.an)).map fun v => (s.phase, v, s.number)).length + 1 = (((s.vols.take (i + 1)).filter fun v => decide (v ∉ s.an)).map fun v => (s.phase, v, s.number)).length := by rw [← e9]; simp
        rw [e10]
        exact rtell_loop L k hS hl n (i + 1) σ3 ad' z' q' (by omega) (by omega) hO3 (hs02.fresh hs3 (fun x hx => .inr (hq x hx))) (fun x hx => by
          rcases hq3 x hx with h | h
          · exact hq x h
          · have := hs02.1; omega)
theorem rtell_spec (L k : Nat) (hL : 2000 < L) {σ : St} {b : Nat} {G : List Nat} {s : RS} (h : Ref σ b G s) (hl : s.vols.length ≤ 1000) :
    Ends (fun v σ' => ∃ adO zO qO, v = .slice adO s.cmds.length zO ∧ Row c3i 3 36 σ' adO zO qO s.cmds ∧ Same σ σ' [] ∧ ∀ q ∈ qO, σ.next ≤ q) (evCall Tryd.prog env L (k + 1) 29 [.pointer (some ⟨b, 0, none⟩)] σ) := by
  obtain ⟨q1, q2, ad, z, ad2, z2, _, h1, h2, h3, hg, h5, h6⟩ := h.ex
  rw [f29_eq, ld_at hg 2 _ rfl, asSl_s]
  exact rtell_loop L k h hl L 0 σ none 0 [] (by omega) (by omega) (Row.nil _ _ _ _) (Same.refl _ _) (by simp)

/-- What is sent when a phase is entered: to all. -/
theorem cmds_all (s : RS) (ph : Int) (lv : Bool) : RS.cmds { s with phase := ph, an := [], left := 6, live := lv } = s.vols.map fun v => (ph, v, s.number) := by
  unfold RS.cmds RS.lack
  rw [List.filter_eq_self.2 (fun v _ => by simp)]

theorem renter_core (L k : Nat) (hL : 2000 < L) {σ : St} {b : Nat} {s : RS} {ad : Option Addr} {z : Nat} {q1 : List Nat} {x3 x4 x5 : Value} (hg : σ.get b = some (.own [.int .i64 s.number, .int .i64 s.latest, .slice ad s.vols.length z, x3, x4, x5, .bool s.marked, .int .i64 s.done, .bool s.complete] 33))
    (h5 : Row c1 1 3 σ ad z q1 s.vols) (h1 : b ∉ q1) (hbl : b < σ.next) (hl : s.vols.length ≤ 1000) (ph : Int) :
    ∃ adO zO qO x σ', evCall Tryd.prog env L (k + 2) 24 [.pointer (some ⟨b, 0, none⟩), .int .i64 ph] σ = some (.slice adO s.vols.length zO, σ') ∧ Row c3i 3 36 σ' adO zO qO (s.vols.map fun v => (ph, v, s.number)) ∧ Ref σ' b (b :: (q1 ++ [x])) { s with phase := ph, an := [], left := 6, live := true } ∧ Same σ σ' [b] ∧ σ.next ≤ x ∧ ∀ q ∈ qO, σ.next ≤ q ∧ q ≠ x := by
  rw [f24_eq]
  obtain ⟨σ1, p1, g1, s1, n1⟩ := putf hg 3 (.int .i64 ph) (by simp) rfl
  obtain ⟨σ2, p2, g2, s2, n2⟩ := putf g1 5 (.int .i64 6) (by simp) rfl
  have s12 := s1.trans s2
  rw [p1, p2, ld_at g2 2 (.slice ad s.vols.length z) rfl, asSl_s, need_of (by simp; omega), Int.toNat_natCast, zerosN_one]
  generalize hσ3 : σ2.new (.own (List.replicate s.vols.length (Value.bool false)) 4) = σ3
  have g3 : σ3.get σ2.next = some (.own (List.replicate s.vols.length (Value.bool false)) 4) := by rw [← hσ3, get_new_same]
  have s3 : Same σ2 σ3 [] := by rw [← hσ3]; exact Same.new _ _ _
  have n3 : σ3.next = σ2.next + 1 := by rw [← hσ3]; rfl
  have hg3 : σ3.get b = _ := (s3.2 b (by omega) (by simp)).trans g2
  obtain ⟨σ4, p4, g4, s4, n4⟩ := putf hg3 4 (.slice (some ⟨σ2.next, 0, none⟩) s.vols.length 1) (by simp) rfl
  rw [p4]
  have hoks : oks { s with phase := ph, an := [], left := 6, live := true } = List.replicate s.vols.length false := by
    unfold oks
    simp only [List.not_mem_nil, decide_false]
    exact List.map_const' ..
  have hflat : List.replicate s.vols.length (Value.bool false) = (List.replicate s.vols.length false).flatMap cb := by
    generalize s.vols.length = m
    induction m with
    | zero => rfl
    | succ m ih => rw [List.replicate_succ, List.replicate_succ, List.flatMap_cons, ← ih]; rfl
  have hbx : b ≠ σ2.next := by omega
  have hR4 : Ref σ4 b (b :: (q1 ++ [σ2.next])) { s with phase := ph, an := [], left := 6, live := true } := by
    refine ⟨⟨q1, [σ2.next], ad, z, some ⟨σ2.next, 0, none⟩, 1, rfl, h1, by simp; omega, fun q hq => by have := h5.lt q hq; simp; omega, g4, ((h5.same s12 (fun q hq => by simp; rintro rfl; exact h1 hq)).same s3 (by simp)).same s4 (fun q hq => by simp; rintro rfl; exact h1 hq), ?_⟩, fun q hq => ?_⟩
    · rw [hoks]
      exact ⟨by simp; omega, .inr ⟨σ2.next, [], rfl, rfl, rfl, by rw [s4.2 _ (by omega) (by simp; omega), g3, hflat, List.append_nil]⟩⟩
    · rcases List.mem_cons.1 hq with rfl | hq
      · omega
      · rcases List.mem_append.1 hq with hq | hq
        · have := h5.lt q hq; omega
        · simp at hq; omega
  obtain ⟨v, σ5, g5, adO, zO, qO, rfl, hO, s5, hq5⟩ := rtell_spec L k hL hR4 hl
  rw [g5, bnd_some, asSl_s]
  rw [cmds_all] at hO ⊢
  rw [List.length_map]
  refine ⟨adO, zO, qO, σ2.next, σ5, rfl, hO, hR4.idle s5, ⟨by have := s5.1; omega, fun j hj hS => ?_⟩, by omega, fun q hq => by have := hq5 q hq; omega⟩
  rw [s5.2 j (by omega) (by simp), s4.2 j (by omega) hS, s3.2 j (by omega) (by simp), s12.2 j hj hS]

theorem renter_spec (L k : Nat) (hL : 2000 < L) {σ : St} {b : Nat} {G : List Nat} {s : RS} (h : Ref σ b G s) (hl : s.vols.length ≤ 1000) (ph : Int) :
    ∃ adO zO qO G' σ', evCall Tryd.prog env L (k + 2) 24 [.pointer (some ⟨b, 0, none⟩), .int .i64 ph] σ = some (.slice adO s.vols.length zO, σ') ∧ Row c3i 3 36 σ' adO zO qO (s.vols.map fun v => (ph, v, s.number)) ∧ Ref σ' b G' { s with phase := ph, an := [], left := 6, live := true } ∧ Turn σ σ' G G' ∧ ∀ q ∈ qO, σ.next ≤ q ∧ q ∉ G' := by
  have hlt := h.lt
  obtain ⟨q1, q2, ad, z, ad2, z2, rfl, h1, h2, h3, hg, h5, h6⟩ := h.ex
  obtain ⟨adO, zO, qO, x, σ', g, hO, hR, hs, hx, hq⟩ := renter_core L k hL hg h5 h1 (hlt b (by simp)) hl ph
  refine ⟨adO, zO, qO, _, σ', g, hO, hR, ⟨hs.mono (by simp), fun q hq' => ⟨?_, hR.lt q hq'⟩⟩, fun q hq' => ⟨(hq q hq').1, fun hx' => ?_⟩⟩
  · rcases List.mem_cons.1 hq' with rfl | hq'
    · exact .inl (by simp)
    · rcases List.mem_append.1 hq' with hq' | hq'
      · exact .inl (by simp [hq'])
      · simp at hq'; exact .inr (by omega)
  · have h7 := hq q hq'
    rcases List.mem_cons.1 hx' with rfl | hx'
    · have := hlt q (by simp); omega
    · rcases List.mem_append.1 hx' with hx' | hx'
      · have := hlt q (by simp [hx']); omega
      · simp at hx'; exact h7.2 hx'

/-! Begin -/
theorem good_iff (l : List Int) : Good l ↔ l ≠ [] ∧ ∀ (i : Nat) (x : Int), l[i]? = some x → (0 ≤ x ∧ x ≤ 3) ∧ ∀ (j : Nat) (y : Int), j < i → l[j]? = some y → y ≠ x := by
  unfold Good
  constructor
  · rintro ⟨h1, h2, h3⟩
    refine ⟨h3, fun i x hx => ⟨by have := h1 x (List.mem_of_getElem? hx); omega, fun j y hj hy e => ?_⟩⟩
    subst e
    have := (List.getElem?_inj (List.getElem?_eq_some_iff.1 hy).1 h2).1 (hy.trans hx.symm)
    omega
  · rintro ⟨h3, h⟩
    refine ⟨fun v hv => ?_, ?_, h3⟩
    · obtain ⟨i, hi⟩ := List.mem_iff_getElem?.1 hv
      have := (h i v hi).1
      omega
    · refine List.pairwise_iff_getElem.2 fun i j hi hj hij e => ?_
      exact (h j _ (List.getElem?_eq_getElem hj)).2 i _ hij (List.getElem?_eq_getElem hi) e

theorem rdup_loop (L k m0 : Nat) {σ : St} {b : Nat} {number : Int} {ad : Option Addr} {q z : Nat} {l : List Int} (hl : l.length ≤ 1000) (hR : Src σ ad q l) {i : Nat} {x : Int} (hi : l[i]? = some x) : ∀ (n j : Nat), j ≤ i → i - j < n → (∀ (p : Nat) (y : Int), p < j → l[p]? = some y → y ≠ x) →
    (lpAt Tryd.prog env L k 8 [true, true, true, false, true, false, true, true, false, true, false, true] [m0] n [(0, .pointer (some ⟨b, 0, none⟩)), (1, .int .i64 number), (2, .slice ad l.length z), (8, .int .i64 i), (9, .int .i64 j), (22, .int .i64 l.length), (23, .int .i64 i)] σ = some (.tuple #[.slice none 0 0, .int .i64 1], σ) ∧ ¬ Good l) ∨
    ((0 ≤ x ∧ x ≤ 3) ∧ (∀ (p : Nat) (y : Int), p < i → l[p]? = some y → y ≠ x) ∧ lpAt Tryd.prog env L k 8 [true, true, true, false, true, false, true, true, false, true, false, true] [m0] n [(0, .pointer (some ⟨b, 0, none⟩)), (1, .int .i64 number), (2, .slice ad l.length z), (8, .int .i64 i), (9, .int .i64 j), (22, .int .i64 l.length), (23, .int .i64 i)] σ =
      lpAt Tryd.prog env L k 8 [true, true, true, false, true] [] m0 [(0, .pointer (some ⟨b, 0, none⟩)), (1, .int .i64 number), (2, .slice ad l.length z), (22, .int .i64 l.length), (23, .int .i64 (i + 1 : Nat))] σ)
  | 0, j, _, h, _ => by omega
  | n + 1, j, hj, h, hno => by
    have hil := (List.getElem?_eq_some_iff.1 hi).1
    obtain ⟨e, hx⟩ := hR.at hi
    rw [f8_l9]
    by_cases hji : j = i
    · subst hji
      rw [decide_eq_false (by omega), br_false, need_of (by simp [inRange]; omega), e, adr_some, hx _ (by simp), asI_i]
      by_cases h0 : x < 0
      · rw [decide_eq_true h0, br_true]
        exact .inl ⟨rfl, fun hg => by have := (((good_iff l).1 hg).2 j x hi).1; omega⟩
      · rw [decide_eq_false h0, br_false, need_of (by simp [inRange]; omega), adr_some, hx _ (by simp), asI_i]
        by_cases h3 : x > 3
        · rw [decide_eq_true h3, br_true]
          exact .inl ⟨rfl, fun hg => by have := (((good_iff l).1 hg).2 j x hi).1; omega⟩
        · rw [decide_eq_false h3, br_false, wrap_in _ (by omega) (by omega), ← e]
          exact .inr ⟨by omega, hno, rfl⟩
    · have hget : l[j]? = some l[j] := List.getElem?_eq_getElem (by omega)
      obtain ⟨_, hy⟩ := hR.at hget
      generalize l[j] = y at hget hy
      rw [decide_eq_true (by omega), br_true, need_of (by simp [inRange]; omega), e, adr_some, hy _ (by simp), asI_i, need_of (by simp [inRange]; omega), adr_some, hx _ (by simp), asI_i]
      by_cases hxy : y = x
      · rw [show (y == x) = true by simpa using hxy, br_true]
        exact .inl ⟨rfl, fun hg => (((good_iff l).1 hg).2 i x hi).2 j y (by omega) hget hxy⟩
      · rw [show (y == x) = false by simpa using hxy, br_false, wrap_in _ (by omega) (by omega), ← e]
        exact rdup_loop L k m0 hl hR hi n (j + 1) (by omega) (by omega) (fun p y' hp hy' => by
          by_cases hpj : p = j
          · subst hpj; rw [hget] at hy'; cases hy'; exact hxy
          · exact hno p y' (by omega) hy')
theorem rgood_loop (L k : Nat) (hL : 2000 < L) {σ : St} {b : Nat} {number : Int} {ad : Option Addr} {q z : Nat} {l : List Int} (hl : l.length ≤ 1000) (hR : Src σ ad q l) : ∀ (n i : Nat), i ≤ l.length → l.length - i < n → (∀ (p : Nat) (x : Int), p < i → l[p]? = some x → (0 ≤ x ∧ x ≤ 3) ∧ ∀ (j : Nat) (y : Int), j < p → l[j]? = some y → y ≠ x) →
    (lpAt Tryd.prog env L k 8 [true, true, true, false, true] [] n [(0, .pointer (some ⟨b, 0, none⟩)), (1, .int .i64 number), (2, .slice ad l.length z), (22, .int .i64 l.length), (23, .int .i64 i)] σ = some (.tuple #[.slice none 0 0, .int .i64 1], σ) ∧ ¬ Good l) ∨
    (Good l ∧ ∃ n', lpAt Tryd.prog env L k 8 [true, true, true, false, true] [] n [(0, .pointer (some ⟨b, 0, none⟩)), (1, .int .i64 number), (2, .slice ad l.length z), (22, .int .i64 l.length), (23, .int .i64 i)] σ = lpAt Tryd.prog env L k 8 [true, true, true, false, true] [] (n' + 1) [(0, .pointer (some ⟨b, 0, none⟩)), (1, .int .i64 number), (2, .slice ad l.length z), (22, .int .i64 l.length), (23, .int .i64 l.length)] σ)
  | 0, i, _, h, _ => by omega
  | n + 1, i, hi, h, hg => by
    by_cases hie : i = l.length
    · subst hie
      by_cases h0 : l = []
      · subst h0
        refine .inl ⟨?_, fun h => h.2.2 rfl⟩
        rw [f8_l6, decide_eq_false (by simp), br_false, show ((([] : List Int).length : Int) == 0) = true from rfl, br_true]
      · exact .inr ⟨(good_iff l).2 ⟨h0, fun i x hx => hg i x (List.getElem?_eq_some_iff.1 hx).1 hx⟩, n, rfl⟩
    · have hget : l[i]? = some l[i] := List.getElem?_eq_getElem (by omega)
      rw [f8_l6, decide_eq_true (by omega), br_true]
      rcases rdup_loop L k n (b := b) (number := number) (z := z) hl hR hget L 0 (by omega) (by omega) (fun p y hp => by omega) with ⟨e, hn⟩ | ⟨hx, hd, e⟩
      · exact .inl ⟨e, hn⟩
      · rw [show ((0 : Nat) : Int) = 0 from rfl] at e
        rw [e]
        exact rgood_loop L k hL hl hR n (i + 1) (by omega) (by omega) (fun p x hp hpx => by
          by_cases hpi : p = i
          · subst hpi; rw [hget] at hpx; cases hpx; exact ⟨hx, hd⟩
          · exact hg p x (by omega) hpx)

section
variable {σ : St} {b : Nat} {G : List Nat} {s : RS} (h : Ref σ b G s) (L k : Nat)
include h

theorem rbegin_spec (hL : 2000 < L) (number : Int) {ad : Option Addr} {q z : Nat} {l : List Int} (hl : l.length ≤ 1000) (hR : Src σ ad q l) (hq : l ≠ [] → q ∉ G) :
    (s.number = 0 ∧ s.latest < number ∧ Good l ∧ ∃ adO zO qO G' σ', evCall Tryd.prog env L (k + 3) 8 [.pointer (some ⟨b, 0, none⟩), .int .i64 number, .slice ad l.length z] σ = some (.tuple #[.slice adO l.length zO, .int .i64 0], σ') ∧ Row c3i 3 36 σ' adO zO qO (l.map fun v => (1, v, number)) ∧
      Ref σ' b G' { s with number := number, latest := number, vols := l, phase := 1, an := [], left := 6, marked := false, live := true } ∧ Turn σ σ' G G' ∧ ∀ q ∈ qO, σ.next ≤ q ∧ q ∉ G') ∨
    (¬ (s.number = 0 ∧ s.latest < number ∧ Good l) ∧ evCall Tryd.prog env L (k + 3) 8 [.pointer (some ⟨b, 0, none⟩), .int .i64 number, .slice ad l.length z] σ = some (.tuple #[.slice none 0 0, .int .i64 (bcode s number)], σ)) := by
  have h' := h
  have hlt := h.lt
  obtain ⟨q1, q2, ad0, z0, ad2, z2, rfl, h1, h2, h3, hg, h5, h6⟩ := h.ex
  have hbl := hlt b (by simp)
  rw [f8_eq, ld_at hg 0 _ rfl, asI_i]
  unfold bcode
  by_cases hn : s.number = 0
  case neg =>
    rw [show (s.number != 0) = true by simpa using hn, br_true, if_pos hn]
    exact .inr ⟨fun h => hn h.1, rfl⟩
  rw [show (s.number != 0) = false by simpa using hn, br_false, ld_at hg 1 _ rfl, asI_i, if_neg (by simp [hn])]
  by_cases hlate : number ≤ s.latest
  · rw [decide_eq_true hlate, br_true, if_pos hlate]
    exact .inr ⟨fun h => (by have := h.2.1; omega), rfl⟩
  rw [decide_eq_false hlate, br_false, if_neg hlate]
  rcases rgood_loop L (k + 2) hL (b := b) (number := number) (z := z) hl hR L 0 (by omega) (by omega) (fun p x hp => by omega) with ⟨e, hng⟩ | ⟨hgood, n', e⟩
  · rw [show ((0 : Nat) : Int) = 0 from rfl] at e
    rw [e]
    exact .inr ⟨fun h => hng h.2.2, rfl⟩
  rw [show ((0 : Nat) : Int) = 0 from rfl] at e
  have hl0 : 0 < l.length := List.length_pos_iff.2 hgood.2.2
  rw [e, f8_l6, decide_eq_false (by omega), br_false, show ((l.length : Int) == 0) = false from by rw [beq_eq_false_iff_ne]; omega, br_false]
  obtain ⟨σ2, p2, g2, s2, n2⟩ := putf hg (0 + 0) (.int .i64 number) (by simp [rhd]) rfl
  obtain ⟨σ3, p3, g3, s3, n3⟩ := putf g2 (0 + 1) (.int .i64 number) (by simp [rhd]) rfl
  obtain ⟨σ4, p4, g4, s4, n4⟩ := putf g3 (0 + 6) (.bool false) (by simp [rhd]) rfl
  have s14 := (s2.trans s3).trans s4
  rw [p2, p3, p4]
  generalize hσ5 : σ4.new (Blk.own [] 3) = σ5
  have s5 : Same σ4 σ5 [] := by rw [← hσ5]; exact Same.new _ _ _
  have n5 : σ5.next = σ4.next + 1 := by rw [← hσ5]; rfl
  have g5 : σ5.get b = _ := (s5.2 b (by omega) (by simp)).trans g4
  have hE : Row c1 1 3 σ5 (some ⟨σ4.next, 0, none⟩) 1 [σ4.next] [] := ⟨by rw [← hσ5]; simp, .inr ⟨σ4.next, [], rfl, rfl, rfl, by rw [← hσ5, get_new_same]; rfl⟩⟩
  have hqb : l ≠ [] → q ≠ b := fun hh e => hq hh (by simp [e])
  have hR5 : Src σ5 ad q l := by
    by_cases hne : l = []
    · subst hne; exact ⟨fun h => absurd rfl h⟩
    · exact (hR.same s14 (by simp; exact hqb hne)).same s5 (by simp)
  obtain ⟨ad6, z6, q6, σ6, hgrow, hr6, s6, hq6⟩ := grow_row (by_ := 8) hE c1_len c1_one (by omega) l (l.flatMap c1) rfl l.length rfl (by unfold roomTop; simp; omega) (by unfold sizeTop; simp; omega)
  rw [hR5.row (l.length * 1) (by omega)]
  have hgr := hgrow
  rw [List.length_nil] at hgr
  rw [hgr, Nat.zero_add l.length]
  rw [List.nil_append] at hr6
  have g6 : σ6.get b = _ := (s6.2 b (by omega) (by simp; omega)).trans g5
  have hne6 : b ∉ q6 := fun hx => by
    rcases hq6 b hx with hx | hx
    · simp at hx; omega
    · omega
  have n6 := s6.1
  obtain ⟨σ7, p7, g7, s7, n7⟩ := putf g6 (0 + 2) (.slice ad6 l.length z6) (by simp [rhd]) rfl
  have p7' : ∀ K : St → Res, σ6.put b 2 [.slice ad6 l.length z6] K = K σ7 := p7
  obtain ⟨adO, zO, qO, x, σ8, g8, hO, hR8, s8, hx, hq8⟩ := renter_core L (k + 0) hL (s := { s with number := number, latest := number, vols := l, marked := false }) (σ := σ7) g7 (hr6.same s7 (fun y hy => by simp; intro e; exact hne6 (e ▸ hy))) hne6 (by omega) hl 1
  rw [p7', g8, bnd_some, asSl_s]
  refine .inl ⟨hn, by omega, hgood, adO, zO, qO, _, σ8, rfl, hO, hR8, ⟨⟨by have := s8.1; omega, fun j hj hS => ?_⟩, fun q hq => ⟨?_, hR8.lt q hq⟩⟩, fun y hy => ⟨by have := (hq8 y hy).1; omega, fun hy' => ?_⟩⟩
  · simp only [List.mem_cons, List.mem_append, not_or] at hS
    rw [s8.2 j (by omega) (by simp; exact hS.1), s7.2 j (by omega) (by simp; exact hS.1), s6.2 j (by omega) (by simp; omega), s5.2 j (by omega) (by simp), s14.2 j hj (by simp; exact hS.1)]
  · rcases List.mem_cons.1 hq with rfl | hq
    · exact .inl (by simp)
    · refine .inr ?_
      rcases List.mem_append.1 hq with hq | hq
      · rcases hq6 q hq with h | h
        · simp at h; omega
        · omega
      · simp at hq; omega
  · have h7 := hq8 y hy
    rcases List.mem_cons.1 hy' with rfl | hy'
    · omega
    · rcases List.mem_append.1 hy' with hy' | hy'
      · have := hr6.lt y hy'; omega
      · simp at hy'; exact h7.2 hy'
end
end Go.AM.Rp
