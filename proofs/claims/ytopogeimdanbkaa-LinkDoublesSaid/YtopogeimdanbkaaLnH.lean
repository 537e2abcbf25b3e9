/-
  LinkDoubles, in plain words: as often as it was sent, and doubled, less dropped, a message comes.
-/
import Derived.Test.YtopogeimdanbkaaLnD
import Derived.Test.YtopogeimdanbkaaAm19
set_option linter.unusedVariables false
set_option linter.unusedSimpArgs false
namespace Go.AM.Lk
open Go.Proofs

/-- Of each number how often it is on its way. -/
def Tally (cs : List Int) (l : List Int) : Prop := ∀ i : Nat, i < cs.length → cs[i]? = some ((l.count (i : Int) : Nat) : Int)

theorem Tally.get {cs l : List Int} (h : Tally cs l) {i : Nat} (hi : i < cs.length) : cs[i]? = some ((l.count (i : Int) : Nat) : Int) := h i hi
theorem Tally.up {cs l : List Int} (h : Tally cs l) (x : Nat) (hx : x < cs.length) (m : Int) (hm : m = ((l.count (x : Int) : Nat) : Int) + 1) : Tally (cs.set x m) (l ++ [(x : Int)]) := by
  intro i hi
  simp only [List.length_set] at hi
  rw [List.getElem?_set, List.count_append]
  by_cases hix : x = i
  · subst hix
    rw [if_pos rfl, if_pos hx, hm]; simp
  · rw [if_neg hix, h i hi]
    have : List.count (i : Int) [(x : Int)] = 0 := List.count_eq_zero.2 (by simp; omega)
    simp [this]
theorem count_eraseIdx (l : List Int) (k : Nat) (x y : Int) (hk : l[k]? = some x) : (l.eraseIdx k).count y + (if x = y then 1 else 0) = l.count y := by
  induction l generalizing k with
  | nil => simp at hk
  | cons z l ih =>
    cases k with
    | zero =>
      simp at hk; subst hk
      simp only [List.eraseIdx_zero, List.tail_cons, List.count_cons, beq_iff_eq]
    | succ k =>
      have := ih k (by simpa using hk)
      simp only [List.eraseIdx_cons_succ, List.count_cons, beq_iff_eq]
      omega
theorem Tally.down {cs l : List Int} (h : Tally cs l) (k x : Nat) (hk : l[k]? = some (x : Int)) (hx : x < cs.length) (m : Int) (hm : m = ((l.count (x : Int) : Nat) : Int) - 1) : Tally (cs.set x m) (l.eraseIdx k) := by
  intro i hi
  simp only [List.length_set] at hi
  have hc := count_eraseIdx l k (x : Int) (i : Int) hk
  rw [List.getElem?_set]
  by_cases hix : x = i
  · subst hix
    rw [if_pos rfl] at hc
    rw [if_pos rfl, if_pos hx, hm]
    congr 1; omega
  · rw [if_neg (by omega)] at hc
    rw [if_neg hix, h i hi]
    congr 1; omega

/-- What is left is nothing. -/
theorem look (L k : Nat) {σ : St} {a b : Nat} {qs : List Nat} {cs : List Int} (hK : Link σ a qs [] 4096) (hN : Nums σ b cs 3) (hT : Tally cs []) (hlen : cs.length ≤ 9) : ∀ n i : Nat, i ≤ cs.length → cs.length - i < n →
    lpAt Try.prog env L (k + 1) 4 [true, true, true, true, true, true, true, true, true, true, false, true] [] n [(6, .pointer (some ⟨a, 0, none⟩)), (7, .slice (some ⟨b, 0, none⟩) cs.length 1), (147, .int .i64 cs.length), (148, .int .i64 i)] σ = some (.bool true, σ)
  | 0, i, _, h => by omega
  | n + 1, i, h1, h2 => by
    rw [f4_l42]
    by_cases hi : i = cs.length
    · rw [decide_eq_false (by omega), br_false, len_spec L k hK, bnd_some, asI_i]; rfl
    · have hg := hT.get (i := i) (by omega)
      rw [decide_eq_true (by omega), br_true, need_of (by simp [inRange]; omega), adr_some, hN.ld hg _ (by simp), asI_i, show ((((List.count (i : Int) [] : Nat) : Int)) != 0) = false from rfl, br_false, wrap_in _ (by omega) (by omega)]
      exact look L k hK hN hT hlen n (i + 1) (by omega) (by omega)

/-- All come. -/
theorem arrive (L k : Nat) (hL : 10 < L) {σ0 : St} {a b N : Nat} (hN : N ≤ 200) : ∀ (n i : Nat) (σ : St) (l cs : List Int) (qs : List Nat), Link σ a qs l 4096 → Nums σ b cs 3 → Owns σ0 σ [a :: qs, [b]] → Tally cs l → (∀ x ∈ l, 0 ≤ x ∧ x < cs.length) → cs.length ≤ 9 → l.length + i = N → N - i < n →
    ∃ σ9, lpAt Try.prog env L (k + 5) 4 [true, true, true, true, true, true, true, true, true, false, true] [] n [(5, .int .i64 cs.length), (6, .pointer (some ⟨a, 0, none⟩)), (7, .slice (some ⟨b, 0, none⟩) cs.length 1), (120, .int .i64 N), (121, .int .i64 i)] σ = some (.bool true, σ9)
  | 0, i, σ, l, cs, qs, _, _, _, _, _, _, _, h => by omega
  | n + 1, i, σ, l, cs, qs, hK, hM, hO, hT, hx, h9, hs, h => by
    rw [f4_l35]
    by_cases hi : i = N
    · have : l = [] := List.eq_nil_of_length_eq_zero (by omega)
      subst this
      rw [decide_eq_false (by omega), br_false]
      exact ⟨σ, look L (k + 4) hK hM hT h9 L 0 (by omega) (by omega)⟩
    · rcases deliver_spec L k hK (by omega) 0 with ⟨x, _, hg, σ1, g1, g2, g3⟩ | ⟨h, _⟩
      · obtain ⟨X, rfl⟩ := Int.eq_ofNat_of_zero_le (hx x (List.mem_of_getElem? hg)).1
        have hX := (hx _ (List.mem_of_getElem? hg)).2
        have hXc : X < cs.length := by omega
        have hlen := (List.getElem?_eq_some_iff.1 hg).1
        have hO1 : Owns σ0 σ1 [a :: qs, [b]] := hO.turn 0 rfl g3 (fun q hq => ⟨.inl hq, by have := hO.lt 0 rfl q hq; have := g3.1; omega⟩)
        have hM1 : Nums σ1 b cs 3 := hM.same g3 (hO.lt 1 rfl b (by simp)) (hO.off 1 0 (by omega) rfl rfl b (by simp))
        obtain ⟨σ2, p1, p2, p3, p4⟩ := hM1.put X hXc (((l.count (X : Int) : Nat) : Int) - 1)
        have hc : l.count (X : Int) ≤ l.length := List.count_le_length
        have hO2 : Owns σ0 σ2 [a :: qs, [b]] := hO1.turn 1 rfl p3 (fun q hq => ⟨.inl hq, by have := hO1.lt 1 rfl q hq; omega⟩)
        have hK2 : Link σ2 a qs (l.eraseIdx 0) 4096 := g2.same p3 (hO1.off 0 1 (by omega) rfl rfl a (by simp)) (fun q hq => hO1.off 0 1 (by omega) rfl rfl q (by simp [hq]))
        have hel : (l.eraseIdx 0).length = l.length - 1 := List.length_eraseIdx_of_lt hlen
        rw [decide_eq_true (by omega), br_true, g1, bnd_some, asT_t, show (#[Value.int .i64 (X : Int), Value.nilIface] : Array Value).toList = [Value.int .i64 (X : Int), Value.nilIface] from rfl, uncons_c, asI_i, uncons_c, endl_n, eqNil_nil, show (!true) = false from rfl, br_false, decide_eq_false (by omega), br_false, decide_eq_false (by omega), br_false,
          need_of (by simp [inRange]; omega), adr_some, hM1.ld (hT.get hXc) _ (by simp), asI_i, need_of (by simp [inRange]; omega), adr_some, wrap_in (((l.count (X : Int) : Nat) : Int) - 1) (by omega) (by omega), p1 _ (by simp), wrap_in ((i : Int) + 1) (by omega) (by omega)]
        have := arrive L k hL hN n (i + 1) σ2 (l.eraseIdx 0) (cs.set X (((l.count (X : Int) : Nat) : Int) - 1)) qs hK2 p2 hO2 (hT.down 0 X hg hXc _ rfl) (fun y hy => by simpa using hx y (List.mem_of_mem_eraseIdx hy)) (by simpa using h9) (by omega) (by omega)
        simpa using this
      · exact absurd ⟨by omega, by omega⟩ h

end Go.AM.Lk
