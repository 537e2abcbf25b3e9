/-
  PLAIN WORDS (more): what is owned by whom: things that share no block, each of which turns alone.
-/
import Derived.Test.YtiiophkfecpbfaaDoorAm18
set_option linter.unusedVariables false
set_option linter.unusedSimpArgs false
set_option linter.unusedSectionVars false
namespace Go.AM

/-- Of a call that began in σ0: these sets of blocks are the call's own, and share none. -/
structure Owns (σ0 σ : St) (Fs : List (List Nat)) : Prop where
  kept : Kept' σ0.next σ0 σ
  own : ∀ F ∈ Fs, ∀ q ∈ F, σ0.next ≤ q ∧ q < σ.next
  dis : ∀ (i j : Nat) F G, i ≠ j → Fs[i]? = some F → Fs[j]? = some G → ∀ q ∈ F, q ∉ G

section
variable {σ0 σ σ' : St} {Fs : List (List Nat)} {F F' G : List Nat}

theorem Owns.start (σ0 : St) : Owns σ0 σ0 [] := ⟨⟨Nat.le_refl _, fun _ _ => rfl⟩, by simp, by simp⟩
theorem Owns.idle (h : Owns σ0 σ Fs) (hs : Same σ σ' []) : Owns σ0 σ' Fs :=
  ⟨h.kept.step hs (by simp), fun F hF q hq => by have := h.own F hF q hq; have := hs.1; omega, h.dis⟩
theorem Owns.off (h : Owns σ0 σ Fs) (i j : Nat) (hij : i ≠ j) (hi : Fs[i]? = some F) (hj : Fs[j]? = some G) : ∀ q ∈ F, q ∉ G := h.dis i j F G hij hi hj
theorem Owns.lt (h : Owns σ0 σ Fs) (i : Nat) (hi : Fs[i]? = some F) : ∀ q ∈ F, q < σ.next := fun q hq => (h.own F (List.mem_of_getElem? hi) q hq).2
/-- A thing turns: the others stay. -/
theorem Owns.turn (h : Owns σ0 σ Fs) (i : Nat) (hi : Fs[i]? = some F) (hs : Same σ σ' F) (hq : ∀ q ∈ F', (q ∈ F ∨ σ.next ≤ q) ∧ q < σ'.next) : Owns σ0 σ' (Fs.set i F') := by
  have hF := List.mem_of_getElem? hi
  have hlen := (List.getElem?_eq_some_iff.1 hi).1
  have hn := hs.1
  have h0 := h.kept.1
  refine ⟨h.kept.step hs (fun x hx => (h.own F hF x hx).1), fun G hG q hG' => ?_, fun a b A B hab ha hb q hA hB => ?_⟩
  · rcases List.mem_or_eq_of_mem_set hG with hG | rfl
    · have := h.own G hG q hG'; omega
    · obtain ⟨h1, h2⟩ := hq q hG'
      rcases h1 with h1 | h1
      · have := h.own F hF q h1; omega
      · omega
  · rw [List.getElem?_set] at ha hb
    by_cases hia : i = a
    · by_cases hib : i = b
      · omega
      · rw [if_pos hia, if_pos (by omega)] at ha
        rw [if_neg hib] at hb
        cases ha
        rcases (hq q hA).1 with h1 | h1
        · exact h.dis i b F B hib hi hb q h1 hB
        · have := h.own B (List.mem_of_getElem? hb) q hB; omega
    · rw [if_neg hia] at ha
      by_cases hib : i = b
      · rw [if_pos hib, if_pos (by omega)] at hb
        cases hb
        rcases (hq q hB).1 with h1 | h1
        · exact h.dis a i A F (fun h => hia h.symm) ha hi q hA h1
        · have := h.own A (List.mem_of_getElem? ha) q hA; omega
      · rw [if_neg hib] at hb
        exact h.dis a b A B hab ha hb q hA hB
/-- One more thing. -/
theorem Owns.more (h : Owns σ0 σ Fs) (hs : Same σ σ' []) (hq : ∀ q ∈ F, σ.next ≤ q ∧ q < σ'.next) : Owns σ0 σ' (F :: Fs) := by
  have hn := hs.1
  have h0 := h.kept.1
  refine ⟨h.kept.step hs (by simp), fun G hG q hG' => ?_, fun a b A B hab ha hb q hA hB => ?_⟩
  · rcases List.mem_cons.1 hG with rfl | hG
    · have := hq q hG'; omega
    · have := h.own G hG q hG'; omega
  · cases a with
    | zero =>
      cases b with
      | zero => omega
      | succ b =>
        simp at ha hb; subst ha
        have := hq q hA
        have := h.own B (List.mem_of_getElem? hb) q hB
        omega
    | succ a =>
      simp at ha
      cases b with
      | zero =>
        simp at hb; subst hb
        have := hq q hB
        have := h.own A (List.mem_of_getElem? ha) q hA
        omega
      | succ b => simp at hb; exact h.dis a b A B (by omega) ha hb q hA hB
/-- The first thing is forgotten. -/
theorem Owns.forget (h : Owns σ0 σ (F :: Fs)) : Owns σ0 σ Fs :=
  ⟨h.kept, fun G hG => h.own G (List.mem_cons_of_mem _ hG), fun i j A B hij ha hb => h.dis (i + 1) (j + 1) A B (by omega) (by simpa using ha) (by simpa using hb)⟩
/-- Some of them, in another order. -/
theorem Owns.pick (h : Owns σ0 σ Fs) (is : List Nat) (hn : is.Nodup) : Owns σ0 σ (is.map fun i => (Fs[i]?).getD []) := by
  refine ⟨h.kept, fun A hA q hq => ?_, fun i j A B hij ha hb q hqA hqB => ?_⟩
  · obtain ⟨i, _, rfl⟩ := List.mem_map.1 hA
    cases hi : Fs[i]? with
    | none => rw [hi] at hq; simp at hq
    | some F => rw [hi] at hq; exact h.own F (List.mem_of_getElem? hi) q hq
  · rw [List.getElem?_map] at ha hb
    cases hi : is[i]? with
    | none => rw [hi] at ha; cases ha
    | some x =>
      cases hj : is[j]? with
      | none => rw [hj] at hb; cases hb
      | some y =>
        rw [hi] at ha; rw [hj] at hb
        simp only [Option.map_some, Option.some.injEq] at ha hb
        have hxy : x ≠ y := fun e => hij ((List.getElem?_inj (List.getElem?_eq_some_iff.1 hi).1 hn).1 (by rw [hi, hj, e]))
        cases hx : Fs[x]? with
        | none => rw [hx] at ha; subst ha; simp at hqA
        | some F =>
          cases hy : Fs[y]? with
          | none => rw [hy] at hb; subst hb; simp at hqB
          | some G => rw [hx] at ha; rw [hy] at hb; subst ha; subst hb; exact h.dis x y F G hxy hx hy q hqA hqB
theorem Owns.swap (h : Owns σ0 σ (F :: G :: Fs)) : Owns σ0 σ (G :: F :: Fs) := by
  refine ⟨h.kept, fun A hA => h.own A (by
    simp only [List.mem_cons] at hA ⊢
    rcases hA with h | h | h
    · exact .inr (.inl h)
    · exact .inl h
    · exact .inr (.inr h)), fun i j A B hij ha hb => ?_⟩
  have key : ∀ k, ∃ k', (G :: F :: Fs)[k]? = (F :: G :: Fs)[k']? ∧ (k = 0 → k' = 1) ∧ (k = 1 → k' = 0) ∧ (2 ≤ k → k' = k) := fun k => by
    match k with
    | 0 => exact ⟨1, rfl, by omega, by omega, by omega⟩
    | 1 => exact ⟨0, rfl, by omega, by omega, by omega⟩
    | k + 2 => exact ⟨k + 2, rfl, by omega, by omega, by omega⟩
  obtain ⟨i', e1, a1, a2, a3⟩ := key i
  obtain ⟨j', e2, b1, b2, b3⟩ := key j
  exact h.dis i' j' A B (by omega) (by rw [← e1]; exact ha) (by rw [← e2]; exact hb)
end

/-- Some of it, read. -/
theorem Row.part {α : Type} {cells : α → List Value} {sz : Nat} {e : TypeId} {σ : St} {ad : Option Addr} {z : Nat} {qs : List Nat} {l : List α} (h : Row cells sz e σ ad z qs l) (hc : ∀ a, (cells a).length = sz) (i m : Nat) (him : i + m ≤ l.length) (o n : Nat) (ho : o = i * sz) (hn : n = m * sz) (K : List Value → Res) :
    σ.row (subA ad o) n K = K (((l.drop i).take m).flatMap cells) := by
  subst ho hn
  have h2 := flat_length cells sz hc ((l.drop i).take m)
  rw [List.length_take, List.length_drop, Nat.min_eq_left (by omega)] at h2
  unfold St.row
  split
  · rename_i h0
    rw [h0] at h2
    rw [List.eq_nil_of_length_eq_zero h2]
  · rename_i h0
    rcases h.is with ⟨e1, e2, _⟩ | ⟨q, rest, _, e1, _, e3⟩
    · subst e2; simp at him; rw [him.2] at h0; simp at h0
    · subst e1
      have hlen := flat_length cells sz hc l
      have hm : i * sz + m * sz ≤ l.length * sz := by rw [← Nat.add_mul]; exact Nat.mul_le_mul_right _ him
      have h3 := flat_length cells sz hc (l.take i)
      rw [List.length_take, Nat.min_eq_left (by omega)] at h3
      have h4 := flat_length cells sz hc (l.drop i)
      rw [List.length_drop, Nat.sub_mul] at h4
      simp only [subA, Nat.zero_add]
      rw [adr_some, lds_own _ e3 (by rw [List.length_append]; omega)]
      congr 1
      have e5 : l.flatMap cells = (l.take i).flatMap cells ++ (((l.drop i).take m).flatMap cells ++ ((l.drop i).drop m).flatMap cells) := by
        rw [← List.flatMap_append, ← List.flatMap_append, List.take_append_drop, List.take_append_drop]
      rw [e5, List.append_assoc, ← h3, List.drop_left, List.append_assoc, ← h2, List.take_left]

/-- A block of whole numbers. -/
def Nums (σ : St) (b : Nat) (cs : List Int) (e : TypeId) : Prop := σ.get b = some (.own (cs.map (Value.int .i64)) e)
section
variable {σ σ' : St} {b : Nat} {cs : List Int} {e : TypeId}
theorem Nums.ld (h : Nums σ b cs e) {i : Nat} {x : Int} (hi : cs[i]? = some x) (o : Nat) (ho : o = i) (K : Value → Res) : σ.ld b o K = K (.int .i64 x) :=
  ld_own K h (by rw [ho, List.getElem?_map, hi]; rfl)
theorem over_set (f : Int → Value) (cs : List Int) (i : Nat) (m : Int) (hi : i < cs.length) : over (cs.map f) i [f m] = (cs.set i m).map f := by
  unfold over
  rw [List.set_eq_take_append_cons_drop, if_pos hi]
  simp [List.map_take, List.map_drop]
theorem Nums.put (h : Nums σ b cs e) (i : Nat) (hi : i < cs.length) (m : Int) : ∃ σ', (∀ (o : Nat), o = i → ∀ K : St → Res, σ.put b o [.int .i64 m] K = K σ') ∧ Nums σ' b (cs.set i m) e ∧ Same σ σ' [b] ∧ σ'.next = σ.next :=
  ⟨σ.set b (.own (over (cs.map (Value.int .i64)) i [.int .i64 m]) e), fun o ho K => by subst ho; exact put_own K h (by simp; omega) rfl, by
    unfold Nums; rw [get_set_same, over_set _ cs i m hi], ⟨by simp, fun k hk hS => get_set (by simpa using hS)⟩, rfl⟩
theorem Nums.same (h : Nums σ b cs e) {S : List Nat} (hs : Same σ σ' S) (hb : b < σ.next) (hS : b ∉ S) : Nums σ' b cs e := by
  unfold Nums; rw [hs.2 b hb hS]; exact h
end

end Go.AM
