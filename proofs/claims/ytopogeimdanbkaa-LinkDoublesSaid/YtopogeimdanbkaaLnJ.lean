/-
  LinkDoubles: the whole.
-/
import Derived.Test.YtopogeimdanbkaaLnI
set_option linter.unusedVariables false
set_option linter.unusedSimpArgs false
namespace Go.AM.Lk
open Go.Proofs

/-- The first numbers. -/
def upto (n : Nat) : List Int := (List.range n).map (fun (k : Nat) => (k : Int))
theorem upto_len (n : Nat) : (upto n).length = n := by simp [upto]
theorem upto_succ (n : Nat) : upto (n + 1) = upto n ++ [(n : Int)] := by simp [upto, List.range_succ]
theorem upto_mem (n : Nat) : ∀ x ∈ upto n, 0 ≤ x ∧ x < n := by
  intro x hx
  simp only [upto, List.mem_map, List.mem_range] at hx
  obtain ⟨k, h, rfl⟩ := hx
  exact ⟨by omega, by omega⟩
theorem upto_new (n : Nat) : (upto n).count (n : Int) = 0 := List.count_eq_zero.2 (fun h => by have := upto_mem n _ h; omega)

theorem owns (L k : Nat) (hL : 400 < L) {σ0 : St} {a b : Nat} {ad0 : Option Addr} {sc : List U8} (hlen : sc.length ≤ 100) (hH : Holds σ0 1 cu ad0 sc) {cs : List Int} (h9 : cs.length ≤ 9) (h0 : 0 < cs.length) (hT : Tally cs (upto cs.length)) {qs : List Nat} : ∀ (n i : Nat) (σ : St) (ad : Option Addr) (z : Nat) (q9 : List Nat),
    i ≤ cs.length → cs.length - i < n → Link σ a qs (upto cs.length) 4096 → Nums σ b cs 3 → Row c1 1 3 σ ad z q9 (upto i) → Owns σ0 σ [a :: qs, [b], q9] →
    ∃ σ9, lpAt Try.prog env L (k + 5) 4 [true, true, true, true, true, true, true, false, true] [] n [(0, .slice ad0 sc.length 0), (5, .int .i64 cs.length), (6, .pointer (some ⟨a, 0, none⟩)), (7, .slice (some ⟨b, 0, none⟩) cs.length 1), (9, .slice ad i z), (43, .int .i64 cs.length), (44, .int .i64 i)] σ = some (.bool true, σ9)
  | 0, i, σ, ad, z, q9, _, h, _, _, _, _ => by omega
  | n + 1, i, σ, ad, z, q9, hi, h, hK, hM, hR, hO => by
    rw [f4_l15]
    by_cases hie : i = cs.length
    · rw [decide_eq_false (by omega), br_false]
      subst hie
      have := script L k hL hlen hH L 0 σ (upto cs.length) cs ad z qs q9 (by omega) (by omega) hK hM hR hO hT (upto_mem _) h9 (by rw [upto_len]; exact h0) (by rw [upto_len]; omega)
      rw [upto_len] at this
      exact this
    · generalize hσ1 : σ.new (Blk.own [Value.int IntKind.i64 (i : Int)] 3) = σ1
      have hnew : σ1.get σ.next = some (Blk.own [Value.int IntKind.i64 (i : Int)] 3) := by rw [← hσ1, get_new_same]
      have hs1 : Same σ σ1 [] := by rw [← hσ1]; exact Same.new _ _ _
      have hO1 := hO.idle hs1
      have hR1 : Row c1 1 3 σ1 ad z q9 (upto i) := hR.same hs1 (by simp)
      obtain ⟨ad', z', q9', σ2, hgrow, hR2, hs2, hq2⟩ := grow_row (by_ := 8) hR1 c1_len c1_one (by omega) [(i : Int)] [Value.int .i64 (i : Int)] rfl 1 rfl (by rw [upto_len]; unfold roomTop; omega) (by rw [upto_len]; unfold sizeTop; omega)
      have hO2 : Owns σ0 σ2 [a :: qs, [b], q9'] := hO1.turn 2 rfl hs2 (fun q hq => ⟨hq2 q hq, hR2.lt q hq⟩)
      have hK2 : Link σ2 a qs (upto cs.length) 4096 := (hK.same hs1 (by simp) (by simp)).same hs2 (hO1.off 0 2 (by omega) rfl rfl a (by simp)) (fun q hq => hO1.off 0 2 (by omega) rfl rfl q (by simp [hq]))
      have hM2 : Nums σ2 b cs 3 := (hM.same hs1 (hO.lt 1 rfl b (by simp)) (by simp)).same hs2 (hO1.lt 1 rfl b (by simp)) (hO1.off 1 2 (by omega) rfl rfl b (by simp))
      rw [upto_len] at hgrow
      rw [← upto_succ] at hR2
      rw [decide_eq_true (by omega), br_true, row_one hnew, hgrow, wrap_in _ (by omega) (by omega)]
      exact owns L k hL hlen hH h9 h0 hT n (i + 1) σ2 ad' z' q9' (by omega) (by omega) hK2 hM2 hR2 hO2

theorem sends (L k : Nat) (hL : 400 < L) {σ0 : St} {a b : Nat} {ad0 : Option Addr} {sc : List U8} (hlen : sc.length ≤ 100) (hH : Holds σ0 1 cu ad0 sc) {N : Nat} (h9 : N ≤ 9) (h0 : 0 < N) : ∀ (n i : Nat) (σ : St) (cs : List Int) (qs : List Nat),
    i ≤ N → N - i < n → cs.length = N → Link σ a qs (upto i) 4096 → Nums σ b cs 3 → Owns σ0 σ [a :: qs, [b]] → Tally cs (upto i) →
    ∃ σ9, lpAt Try.prog env L (k + 5) 4 [true, true, true, true, true, false, true] [] n [(0, .slice ad0 sc.length 0), (5, .int .i64 N), (6, .pointer (some ⟨a, 0, none⟩)), (7, .slice (some ⟨b, 0, none⟩) N 1), (31, .int .i64 N), (32, .int .i64 i)] σ = some (.bool true, σ9)
  | 0, i, σ, cs, qs, _, h, _, _, _, _, _ => by omega
  | n + 1, i, σ, cs, qs, hi, h, hc, hK, hM, hO, hT => by
    rw [f4_l7]
    by_cases hie : i = N
    · rw [decide_eq_false (by omega), br_false]
      subst hie
      subst hc
      have hO' : Owns σ0 σ [a :: qs, [b], []] := (hO.more (F := []) (Same.refl _ _) (by simp)).pick [1, 2, 0] (by decide)
      exact owns L k hL hlen hH h9 h0 hT L 0 σ none 0 [] (by omega) (by omega) hK hM ⟨by simp, .inl ⟨rfl, rfl, rfl, rfl⟩⟩ hO'
    · rcases send_spec L (k + 1) hK (by rw [upto_len]; omega) i with ⟨_, qs', σ1, g1, g2, g3, g4⟩ | ⟨hf, _⟩
      · have hO1 : Owns σ0 σ1 [a :: qs', [b]] := hO.turn 0 rfl g3 (fun q hq => by
          rcases List.mem_cons.1 hq with rfl | hq
          · exact ⟨.inl (by simp), g2.lt⟩
          · obtain ⟨_, _, _, hrow⟩ := g2.ex
            exact ⟨(g4 q hq).imp (fun h => by simp [h]) id, hrow.lt q hq⟩)
        have hM1 : Nums σ1 b cs 3 := hM.same g3 (hO.lt 1 rfl b (by simp)) (hO.off 1 0 (by omega) rfl rfl b (by simp))
        obtain ⟨σ2, p1, p2, p3, p4⟩ := hM1.put i (by omega) 1
        rw [decide_eq_true (by omega), br_true, g1, bnd_some, eqNil_nil, show (!true) = false from rfl, br_false, need_of (by simp [inRange]; omega), adr_some, p1 _ (by simp), wrap_in _ (by omega) (by omega)]
        rw [← upto_succ] at g2
        exact sends L k hL hlen hH h9 h0 n (i + 1) σ2 (cs.set i 1) qs' (by omega) (by omega) (by simpa using hc) (g2.same p3 (hO1.off 0 1 (by omega) rfl rfl a (by simp)) (fun q hq => hO1.off 0 1 (by omega) rfl rfl q (by simp [hq]))) p2
          (hO1.turn 1 rfl p3 (fun q hq => ⟨.inl hq, by have := hO1.lt 1 rfl q hq; omega⟩)) (by rw [upto_succ]; exact hT.up i (by omega) 1 (by rw [upto_new]; rfl))
      · rw [upto_len] at hf; omega

theorem zeros_map : ∀ n : Nat, zerosN [Value.int IntKind.i64 0] n = (List.replicate n (0 : Int)).map (Value.int .i64)
  | 0 => rfl
  | n + 1 => by simp [zerosN, zeros_map n, List.replicate_succ]

theorem doubles {σ0 : St} {ad0 : Option Addr} {sc : List U8} (hH : Holds σ0 1 cu ad0 sc) (many : Int) (h0 : 0 ≤ many ∧ many ≤ 255) : ∃ σ', evCall Try.prog env 10000 12 4 [.slice ad0 sc.length 0, .int .u8 many] σ0 = some (.bool true, σ') := by
  obtain ⟨m, rfl⟩ := Int.eq_ofNat_of_zero_le h0.1
  rw [f4_eq]
  obtain ⟨σ1, g1, hs1⟩ := awake_spec 10000 5 σ0
  rw [g1, bnd_some, asB_b, show (!true) = false from rfl, br_false]
  by_cases hlen : sc.length ≤ 100
  · obtain ⟨σ2, g3, hK, hs2⟩ := new_spec 10000 10 σ1 4096 (by omega) (by omega)
    rw [decide_eq_false (by omega), br_false, g3, bnd_some, asP_p]
    have hN : IntKind.wrap .i64 ((1 : Int) + Int.tmod (IntKind.wrap .i64 (m : Int)) 9) = ((1 + m % 9 : Nat) : Int) := by
      rw [wrap_in (m : Int) (by omega) (by omega), show Int.tmod (m : Int) 9 = ((m % 9 : Nat) : Int) from rfl, wrap_in _ (by omega) (by omega)]; omega
    rw [hN]
    have hN9 : 1 + m % 9 ≤ 9 := by omega
    generalize hNn : 1 + m % 9 = N at hN9
    have hN0 : 0 < N := by omega
    rw [need_of (by simp; omega), show Int.toNat (N : Int) = N from rfl, zeros_map]
    generalize hσ3 : σ2.new (Blk.own ((List.replicate N (0 : Int)).map (Value.int .i64)) 3) = σ3
    have hs3 : Same σ2 σ3 [] := by rw [← hσ3]; exact Same.new _ _ _
    have hO1 : Owns σ0 σ2 [[σ1.next]] := (((Owns.start σ0).idle hs1).more hs2 (by intro q hq; simp at hq; subst hq; exact ⟨by omega, hK.lt⟩))
    have hO3 : Owns σ0 σ3 [[σ1.next], [σ2.next]] := (hO1.more (F := [σ2.next]) hs3 (by intro q hq; simp at hq; subst hq; rw [← hσ3]; simp)).pick [1, 0] (by decide)
    have hM : Nums σ3 σ2.next (List.replicate N 0) 3 := by unfold Nums; rw [← hσ3, get_new_same]
    obtain ⟨σ9, h9⟩ := sends 10000 6 (by omega) hlen hH hN9 hN0 10000 0 σ3 (List.replicate N 0) [] (by omega) (by omega) (by simp) (hK.same hs3 (by simp) (by simp)) hM hO3 (fun i hi => by
      rw [List.getElem?_eq_getElem (by simpa using hi)]; simp [upto])
    exact ⟨σ9, h9⟩
  · obtain ⟨σ2, g3, _⟩ := awake_spec 10000 5 σ1
    rw [decide_eq_true (by omega), br_true, g3, bnd_some, asB_b]
    exact ⟨σ2, rfl⟩

theorem u8Of {σ : St} {row : List Value} (h : Img Try.prog σ 5 row) : ∃ o : U8, row = cu o := by
  obtain ⟨n, w1, v1⟩ := Img.int_inv Try.underlying5 h
  exact ⟨⟨n, wf_u8 v1⟩, by rw [w1]; rfl⟩

end Go.AM.Lk
