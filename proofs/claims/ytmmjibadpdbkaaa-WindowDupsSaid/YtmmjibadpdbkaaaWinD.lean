/-
  WindowDups, in plain words: whatever comes more than once, or too early, changes nothing.
-/
import Derived.Test.YtmmjibadpdbkaaaWinC
import Derived.Test.YtmmjibadpdbkaaaAm17
set_option linter.unusedVariables false
set_option linter.unusedSimpArgs false
namespace Go.AM
open Go.Proofs

/-- The first squares. -/
def sqs (m : Nat) : List Int := (List.range m).map fun (j : Nat) => ((j : Int) + 1) * ((j : Int) + 1)
theorem sqs_length (m : Nat) : (sqs m).length = m := by simp [sqs]
theorem sqs_snoc (m : Nat) : sqs m ++ [((m : Int) + 1) * ((m : Int) + 1)] = sqs (m + 1) := by simp [sqs, List.range_succ]
theorem sqs_get {m i : Nat} (h : i < m) : (sqs m)[i]? = some (((i : Int) + 1) * ((i : Int) + 1)) := by simp [sqs, h]

theorem dups_tail (L k : Nat) {m : Nat} (hm : m ≤ 1000) {σ : St} {ad : Option Addr} {z : Nat} {qs : List Nat} (hR : Row c1 1 3 σ ad z qs (sqs m)) : ∀ (n i : Nat), i ≤ m → m - i < n →
    lpAt Try.prog env L k 3 [true, true, true, true, true, true, false, true] [] n [(4, .int .i64 ((m : Int) + 1)), (7, .slice ad m z), (50, .int .i64 m), (51, .int .i64 i)] σ = some (.bool true, σ)
  | 0, i, _, h => by omega
  | n + 1, i, hi, h => by
    rw [f3_l16]
    by_cases him : i = m
    · subst him
      have hb : decide ((i : Int) < (i : Int)) = false := by simp
      rw [hb, br_false, wrap_in _ (by omega) (by omega)]
      simp
    · have hb : decide ((i : Int) < (m : Int)) = true := by simp; omega
      obtain ⟨q, e, hat⟩ := hR.at c1_len (sqs_get (show i < m by omega))
      have hsq : ((i : Int) + 1) * ((i : Int) + 1) ≤ 1001 * 1001 := by
        have h1 : (i : Int) + 1 ≤ 1001 := by omega
        exact Int.mul_le_mul h1 h1 (by omega) (by omega)
      have hsq0 : 0 ≤ ((i : Int) + 1) * ((i : Int) + 1) := Int.mul_nonneg (by omega) (by omega)
      rw [hb, br_true, need_of (by simp [inRange]; omega), e, adr_some, hat 0 (.int .i64 (((i : Int) + 1) * ((i : Int) + 1))) _ (by omega) rfl (by simp), asI_i, wrap_in ((i : Int) + 1) (by omega) (by omega), wrap_in _ (by omega) (by omega)]
      have hne : (((i : Int) + 1) * ((i : Int) + 1) != ((i : Int) + 1) * ((i : Int) + 1)) = false := by simp
      rw [hne, br_false]
      have := dups_tail L k hm hR n (i + 1) (by omega) (by omega)
      rw [← e]
      simpa using this

theorem dups_loop (L k : Nat) (hL : 1000 < L) {σ0 : St} {ad0 : Option Addr} {come : List Int} (hlen : come.length ≤ 300) (hH : Holds σ0 1 (fun n => [Value.int .u8 n]) ad0 come) (hu : ∀ x ∈ come, 0 ≤ x ∧ x ≤ 255) : ∀ (n i m : Nat) (σ : St) (a : Nat) (qs : List Nat),
    i ≤ come.length → come.length - i < n → m ≤ i → Kept' σ0.next σ0 σ → σ0.next ≤ a → (∀ q ∈ qs, σ0.next ≤ q) → Recv σ a qs (sqs m) →
    ∃ σ', lpAt Try.prog env L (k + 2) 3 [true, true, true, true, false, true] [] n [(0, .slice ad0 come.length 0), (3, .pointer (some ⟨a, 0, none⟩)), (4, .int .i64 ((m : Int) + 1)), (20, .int .i64 come.length), (21, .int .i64 i)] σ = some (.bool true, σ')
  | 0, i, m, σ, a, qs, _, h, _, _, _, _, _ => by omega
  | n + 1, i, m, σ, a, qs, h1, h2, h3, hK, ha, hq, hR => by
    rw [f3_l6]
    by_cases hi : i = come.length
    · subst hi
      have hb : decide ((come.length : Int) < (come.length : Int)) = false := by simp
      rw [hb, br_false]
      obtain ⟨ad, z, qs', σ', g1, g2, _, _⟩ := list_spec L k hR (by rw [sqs_length]; omega)
      rw [g1, bnd_some, asSl_s]
      rw [sqs_length]
      exact ⟨σ', dups_tail L (k + 2) (by omega) g2 L 0 (by omega) (by omega)⟩
    · have hb : decide ((i : Int) < (come.length : Int)) = true := by simp; omega
      have hget : come[i]? = some come[i] := List.getElem?_eq_getElem (by omega)
      obtain ⟨q, e, hat⟩ := hH.ld hK hget
      have hux := hu come[i] (List.getElem_mem (by omega))
      generalize hx : come[i] = x at hget hat hux
      rw [hb, br_true, need_of (by simp [inRange]; omega), e, adr_some, hat 0 (.int .u8 x) _ (by omega) rfl (by simp), asI_i, ← e]
      rw [wrap_in x (by omega) (by omega)]
      have ht0 : 0 ≤ Int.tmod x 20 := Int.tmod_nonneg _ (by omega)
      have ht1 : Int.tmod x 20 < 20 := Int.tmod_lt_of_pos x (by omega)
      rw [wrap_in (1 + Int.tmod x 20) (by omega) (by omega)]
      generalize hc : 1 + Int.tmod x 20 = c
      have hc0 : 1 ≤ c := by omega
      have hc1 : c ≤ 20 := by omega
      have hcc : c * c ≤ 20 * 20 := Int.mul_le_mul hc1 hc1 (by omega) (by omega)
      have hcc0 : 0 ≤ c * c := Int.mul_nonneg (by omega) (by omega)
      rw [wrap_in (c * c) (by omega) (by omega), wrap_in ((i : Int) + 1) (by omega) (by omega), wrap_in ((m : Int) + 1 + 1) (by omega) (by omega)]
      have hov : over (over [Value.int IntKind.i64 0, Value.int IntKind.i64 0] 0 [Value.int IntKind.i64 c]) 1 [Value.int IntKind.i64 (c * c)] = [Value.int .i64 c, Value.int .i64 (c * c)] := rfl
      rw [hov]
      obtain ⟨qs', σ', g1, g2, g3, g4⟩ := take_spec L (k + 1) hR (by rw [sqs_length]; omega) c (c * c)
      rw [sqs_length] at g1 g2
      have hK' : Kept' σ0.next σ0 σ' := hK.step g3 (fun x hx => by rcases List.mem_cons.1 hx with h | h; omega; exact hq x h)
      have hq' : ∀ q ∈ qs', σ0.next ≤ q := fun q hq2 => by rcases g4 q hq2 with h | h; exact hq q h; have := hK.1; omega
      by_cases hcm : c = (m : Int) + 1
      · rw [if_pos hcm] at g1 g2
        have hbe : (c == (m : Int) + 1) = true := by simpa using hcm
        rw [hbe, br_true, g1, bnd_some, asI_i]
        rw [hcm, sqs_snoc] at g2
        rw [wrap_in ((m : Int) + 1 + 1 - 1) (by omega) (by omega)]
        have hlen2 : (((sqs m ++ [c * c]).length : Nat) : Int) = (m : Int) + 1 := by rw [List.length_append, sqs_length]; simp
        rw [hlen2]
        have hbn : ((m : Int) + 1 != (m : Int) + 1 + 1 - 1) = false := by simp
        rw [hbn, br_false]
        obtain ⟨σ9, h9⟩ := dups_loop L k hL hlen hH hu n (i + 1) (m + 1) σ' a qs' (by omega) (by omega) (by omega) hK' ha hq' g2
        exact ⟨σ9, by simpa using h9⟩
      · rw [if_neg hcm] at g1 g2
        have hbe : (c == (m : Int) + 1) = false := by simpa using hcm
        rw [hbe, br_false, g1, bnd_some, asI_i, sqs_length]
        rw [wrap_in ((m : Int) + 1 - 1) (by omega) (by omega)]
        have hbn : ((m : Int) != (m : Int) + 1 - 1) = false := by simp
        rw [hbn, br_false]
        obtain ⟨σ9, h9⟩ := dups_loop L k hL hlen hH hu n (i + 1) m σ' a qs' (by omega) (by omega) (by omega) hK' ha hq' g2
        exact ⟨σ9, by simpa using h9⟩

theorem dups {σ0 : St} {ad0 : Option Addr} {come : List Int} (hH : Holds σ0 1 (fun n => [Value.int .u8 n]) ad0 come) (hu : ∀ x ∈ come, 0 ≤ x ∧ x ≤ 255) :
    ∃ σ', evCall Try.prog env 2000 10 3 [.slice ad0 come.length 0] σ0 = some (.bool true, σ') := by
  rw [f3_eq]
  obtain ⟨σ1, g1, hs1⟩ := awake_spec 2000 5 (by omega) σ0
  rw [g1, bnd_some, asB_b, show (!true) = false from rfl, br_false]
  by_cases hl : come.length > 300
  · have hb : decide ((come.length : Int) > 300) = true := by simp; omega
    obtain ⟨σ2, g2, _⟩ := awake_spec 2000 5 (by omega) σ1
    rw [hb, br_true, g2, bnd_some, asB_b]
    exact ⟨σ2, rfl⟩
  · have hb : decide ((come.length : Int) > 300) = false := by simp; omega
    rw [hb, br_false]
    generalize hσ2 : σ1.new (Blk.own [Value.slice none 0 0] 27) = σ2
    have hs2 : Same σ1 σ2 [] := by rw [← hσ2]; exact Same.new _ _ _
    have hRv : Recv σ2 σ1.next [] (sqs 0) := ⟨⟨none, 0, by rw [← hσ2, get_new_same]; rfl, ⟨by simp, .inl ⟨rfl, rfl, rfl, rfl⟩⟩⟩, by rw [← hσ2]; simp, by simp⟩
    have hs := hs1.trans hs2
    obtain ⟨σ', h⟩ := dups_loop 2000 7 (by omega) (by omega) hH hu 2000 0 0 σ2 σ1.next [] (by omega) (by omega) (by omega) ⟨hs.1, fun k hk => hs.2 k hk (by simp)⟩ hs1.1 (by simp) hRv
    exact ⟨σ', by simpa using h⟩

end Go.AM
