/-
  LinkDoubles: the script, and what goes ahead of it.
-/
import Derived.Test.YtopogeimdanbkaaLnH
set_option linter.unusedVariables false
set_option linter.unusedSimpArgs false
namespace Go.AM.Lk
open Go.Proofs

abbrev U8 := { n : Int // 0 ≤ n ∧ n ≤ 255 }
def cu (o : U8) : List Value := [.int .u8 o.1]

theorem at_eq (m n : Nat) (hm : m ≤ 255) : Int.tmod (IntKind.wrap .i64 (Int.tdiv (IntKind.wrap .i64 (m : Int)) 2)) (n : Int) = ((m / 2 % n : Nat) : Int) := by
  rw [wrap_in (m : Int) (by omega) (by omega), show Int.tdiv (m : Int) 2 = ((m / 2 : Nat) : Int) from rfl, wrap_in _ (by omega) (by omega)]
  rfl

theorem script (L k : Nat) (hL : 400 < L) {σ0 : St} {a b : Nat} {ad0 : Option Addr} {sc : List U8} (hlen : sc.length ≤ 100) (hH : Holds σ0 1 cu ad0 sc) : ∀ (n i : Nat) (σ : St) (l cs : List Int) (ad : Option Addr) (z : Nat) (qs q9 : List Nat),
    i ≤ sc.length → sc.length - i < n → Link σ a qs l 4096 → Nums σ b cs 3 → Row c1 1 3 σ ad z q9 l → Owns σ0 σ [a :: qs, [b], q9] → Tally cs l → (∀ x ∈ l, 0 ≤ x ∧ x < cs.length) → cs.length ≤ 9 → 0 < l.length → l.length ≤ 9 + i →
    ∃ σ9, lpAt Try.prog env L (k + 5) 4 [true, true, true, true, true, true, true, true, false, true] [] n [(0, .slice ad0 sc.length 0), (5, .int .i64 cs.length), (6, .pointer (some ⟨a, 0, none⟩)), (7, .slice (some ⟨b, 0, none⟩) cs.length 1), (9, .slice ad l.length z), (53, .int .i64 sc.length), (54, .int .i64 i)] σ = some (.bool true, σ9)
  | 0, i, σ, l, cs, ad, z, qs, q9, _, h, _, _, _, _, _, _, _, _, _ => by omega
  | n + 1, i, σ, l, cs, ad, z, qs, q9, hi, h, hK, hM, hR, hO, hT, hx, h9, h0, hll => by
    rw [f4_l20]
    by_cases hie : i = sc.length
    · rw [decide_eq_false (by omega), br_false]
      have hO' : Owns σ0 σ [a :: qs, [b]] := hO.pick [0, 1] (by decide)
      exact arrive L k (by omega) (N := l.length) (by omega) L 0 σ l cs qs hK hM hO' hT hx h9 (by omega) (by omega)
    · have hget : sc[i]? = some sc[i] := List.getElem?_eq_getElem (by omega)
      obtain ⟨q0, e0, hat⟩ := hH.ld hO.kept hget
      have hk0 := hat 0 (.int .u8 sc[i].1) (0 + (i : Int).toNat * 1) (by omega) rfl (by simp)
      have hb := sc[i].2
      generalize sc[i].1 = kd at hk0 hb
      obtain ⟨m, rfl⟩ := Int.eq_ofNat_of_zero_le hb.1
      have hm : m ≤ 255 := by omega
      have hw : IntKind.wrap .i64 ((i : Int) + 1) = ((i + 1 : Nat) : Int) := by rw [wrap_in _ (by omega) (by omega)]; omega
      have hp : m / 2 % l.length < l.length := Nat.mod_lt _ h0
      generalize hpp : m / 2 % l.length = p at hp
      have hat : Int.tmod (IntKind.wrap .i64 (Int.tdiv (IntKind.wrap .i64 (m : Int)) 2)) (l.length : Int) = (p : Int) := by rw [at_eq m _ hm, hpp]
      obtain ⟨x, hgx⟩ : ∃ x, l[p]? = some x := ⟨_, List.getElem?_eq_getElem hp⟩
      obtain ⟨X, rfl⟩ := Int.eq_ofNat_of_zero_le (hx x (List.mem_of_getElem? hgx)).1
      have hX := (hx _ (List.mem_of_getElem? hgx)).2
      have hXc : X < cs.length := by omega
      have hc : l.count (X : Int) ≤ l.length := List.count_le_length
      obtain ⟨q, e1, hrd⟩ := hR.at c1_len hgx
      have hr0 := hrd 0 (.int .i64 (X : Int)) (0 + (p : Int).toNat * 1) (by omega) rfl (by simp)
      have ha9 : a ∉ q9 := hO.off 0 2 (by omega) rfl rfl a (by simp)
      have hb9 : b ∉ q9 := hO.off 1 2 (by omega) rfl rfl b (by simp)
      have hblt : b < σ.next := hO.lt 1 rfl b (by simp)
      rw [decide_eq_true (by omega), br_true, need_of (by simp [inRange]; omega), e0, adr_some, hk0, asI_i, need_of (bne_iff_ne.2 (by omega)), need_of (by simp [inRange]; omega), adr_some, hk0, asI_i, hat]
      by_cases hev : m % 2 = 0
      · rw [show (Int.tmod (m : Int) 2 == 0) = true by rw [show Int.tmod (m : Int) 2 = ((m % 2 : Nat) : Int) from rfl]; simp [hev], br_true, need_of (by simp [inRange]; omega), e1, adr_some, hr0, asI_i]
        generalize hσ1 : σ.new (Blk.own [Value.int IntKind.i64 (X : Int)] 3) = σ1
        have hnew : σ1.get σ.next = some (Blk.own [Value.int IntKind.i64 (X : Int)] 3) := by rw [← hσ1, get_new_same]
        have hs1 : Same σ σ1 [] := by rw [← hσ1]; exact Same.new _ _ _
        have hO1 := hO.idle hs1
        have hR1 : Row c1 1 3 σ1 ad z q9 l := hR.same hs1 (by simp)
        rw [row_one hnew, ← e1]
        obtain ⟨ad', z', q9', σ2, hgrow, hR2, hs2, hq2⟩ := grow_row (by_ := 8) hR1 c1_len c1_one (by omega) [(X : Int)] [Value.int .i64 (X : Int)] rfl 1 rfl (by unfold roomTop; omega) (by unfold sizeTop; omega)
        have hO2 : Owns σ0 σ2 [a :: qs, [b], q9'] := hO1.turn 2 rfl hs2 (fun q hq => ⟨hq2 q hq, hR2.lt q hq⟩)
        have hK2 : Link σ2 a qs l 4096 := (hK.same hs1 (by simp) (by simp)).same hs2 ha9 (fun q hq => hO.off 0 2 (by omega) rfl rfl q (by simp [hq]))
        have hM2 : Nums σ2 b cs 3 := (hM.same hs1 hblt (by simp)).same hs2 (by have := hs1.1; omega) hb9
        have hgx2 : (l ++ [(X : Int)])[p]? = some (X : Int) := by rw [List.getElem?_append_left hp]; exact hgx
        obtain ⟨q', e2, hrd2⟩ := hR2.at c1_len hgx2
        have hr2 := hrd2 0 (.int .i64 (X : Int)) (0 + (p : Int).toNat * 1) (by omega) rfl (by simp)
        obtain ⟨σ3, p1, p2, p3, p4⟩ := hM2.put X hXc (((l.count (X : Int) : Nat) : Int) + 1)
        have hO3 : Owns σ0 σ3 [a :: qs, [b], q9'] := hO2.turn 1 rfl p3 (fun q hq => ⟨.inl hq, by have := hO2.lt 1 rfl q hq; omega⟩)
        have hK3 : Link σ3 a qs l 4096 := hK2.same p3 (hO2.off 0 1 (by omega) rfl rfl a (by simp)) (fun q hq => hO2.off 0 1 (by omega) rfl rfl q (by simp [hq]))
        have hR3 : Row c1 1 3 σ3 ad' z' q9' (l ++ [(X : Int)]) := hR2.same p3 (hO2.off 2 1 (by omega) rfl rfl)
        rw [hgrow, need_of (by simp [inRange]; omega), e2, adr_some, hr2, asI_i, need_of (by simp [inRange]; omega), adr_some, hM2.ld (hT.get hXc) _ (by simp), asI_i, need_of (by simp [inRange]; omega), adr_some, wrap_in (((l.count (X : Int) : Nat) : Int) + 1) (by omega) (by omega), p1 _ (by simp)]
        rcases double_spec L (k + 1) hK3 (by omega) p with ⟨y, _, hy, _, qs4, σ4, g1, g2, g3, g4⟩ | ⟨hno, _⟩
        · have : y = (X : Int) := by rw [show ((p : Int).toNat) = p from rfl, hgx] at hy; exact (Option.some.inj hy).symm
          subst this
          have hO4 : Owns σ0 σ4 [a :: qs4, [b], q9'] := hO3.turn 0 rfl g3 (fun q hq => by
            have hlt4 := g2.lt
            rcases List.mem_cons.1 hq with rfl | hq
            · exact ⟨.inl (by simp), hlt4⟩
            · obtain ⟨_, _, _, hrow⟩ := g2.ex
              exact ⟨(g4 q hq).imp (fun h => by simp [h]) id, hrow.lt q hq⟩)
          rw [g1, bnd_some, eqNil_nil, show (!true) = false from rfl, br_false, hw, ← e2, ← e0]
          have := script L k hL hlen hH n (i + 1) σ4 (l ++ [(X : Int)]) (cs.set X (((l.count (X : Int) : Nat) : Int) + 1)) ad' z' qs4 q9' (by omega) (by omega) g2 (p2.same g3 (by have := hO3.lt 1 rfl b (by simp); omega) (hO3.off 1 0 (by omega) rfl rfl b (by simp)))
            (hR3.same g3 (hO3.off 2 0 (by omega) rfl rfl)) hO4 (hT.up X hXc _ rfl) (fun y hy => by
              rw [List.length_set]
              rcases List.mem_append.1 hy with hy | hy
              · exact hx y hy
              · simp at hy; subst hy; exact ⟨by omega, by omega⟩) (by simpa using h9) (by simp) (by simp; omega)
          simpa using this
        · exact absurd ⟨by omega, by omega, by omega⟩ hno
      · rw [show (Int.tmod (m : Int) 2 == 0) = false by rw [show Int.tmod (m : Int) 2 = ((m % 2 : Nat) : Int) from rfl]; simp; omega, br_false]
        by_cases h1 : l.length = 1
        · rw [decide_eq_false (by omega), br_false, hw, ← e0]
          exact script L k hL hlen hH n (i + 1) σ l cs ad z qs q9 (by omega) (by omega) hK hM hR hO hT hx h9 h0 (by omega)
        · rw [decide_eq_true (by omega), br_true, need_of (by simp [inRange]; omega), e1, adr_some, hr0, asI_i]
          obtain ⟨σ1, p1, p2, p3, p4⟩ := hM.put X hXc (((l.count (X : Int) : Nat) : Int) - 1)
          have hO1 : Owns σ0 σ1 [a :: qs, [b], q9] := hO.turn 1 rfl p3 (fun q hq => ⟨.inl hq, by have := hO.lt 1 rfl q hq; omega⟩)
          have hK1 : Link σ1 a qs l 4096 := hK.same p3 (hO.off 0 1 (by omega) rfl rfl a (by simp)) (fun q hq => hO.off 0 1 (by omega) rfl rfl q (by simp [hq]))
          have hR1 : Row c1 1 3 σ1 ad z q9 l := hR.same p3 (hO.off 2 1 (by omega) rfl rfl)
          have hz : z = 1 := by rcases hR.is with ⟨_, e, _⟩ | ⟨_, _, _, _, e, _⟩; (rw [e] at h0; simp at h0); exact e
          subst hz
          generalize hσ2 : σ1.new (Blk.own [] 3) = σ2
          have hs2 : Same σ1 σ2 [] := by rw [← hσ2]; exact Same.new _ _ _
          have hR2 : Row c1 1 3 σ2 ad 1 q9 l := hR1.same hs2 (by simp)
          have hE2 : Row c1 1 3 σ2 (some ⟨σ1.next, 0, none⟩) 1 [σ1.next] [] := ⟨by rw [← hσ2]; simp, .inr ⟨σ1.next, [], rfl, rfl, rfl, by rw [← hσ2, get_new_same]; rfl⟩⟩
          have hO2 : Owns σ0 σ2 [[σ1.next], a :: qs, [b], q9] := hO1.more hs2 (fun q hq => by simp at hq; subst hq; rw [← hσ2]; simp)
          have htk : (l.take p).length = p := by rw [List.length_take]; omega
          obtain ⟨ad3, z3, q3, σ3, hgrow3, hR3, hs3, hq3⟩ := grow_row (by_ := 8) hE2 c1_len c1_one (by omega) (l.take p) ((l.take p).flatMap c1) rfl p htk.symm (by unfold roomTop; simp; omega) (by unfold sizeTop; simp; omega)
          have hO3 : Owns σ0 σ3 [q3, a :: qs, [b], q9] := hO2.turn 0 rfl hs3 (fun q hq => ⟨hq3 q hq, hR3.lt q hq⟩)
          have hRR3 : Row c1 1 3 σ3 ad 1 q9 l := hR2.same hs3 (hO2.off 3 0 (by omega) rfl rfl)
          have hdr : ((l.drop (p + 1)).take (l.length - (p + 1))) = l.drop (p + 1) := List.take_of_length_le (by simp)
          rw [List.nil_append] at hR3
          obtain ⟨ad4, z4, q4, σ4, hgrow4, hR4, hs4, hq4⟩ := grow_row (by_ := 8) hR3 c1_len c1_one (by omega) (l.drop (p + 1)) ((l.drop (p + 1)).flatMap c1) rfl (l.length - (p + 1)) (by simp) (by unfold roomTop; rw [htk]; omega) (by unfold sizeTop; rw [htk]; omega)
          have hO4 : Owns σ0 σ4 [q4, a :: qs, [b], q9] := hO3.turn 0 rfl hs4 (fun q hq => ⟨hq4 q hq, hR4.lt q hq⟩)
          have hK4 : Link σ4 a qs l 4096 := ((hK1.same hs2 (by simp) (by simp)).same hs3 (hO2.off 1 0 (by omega) rfl rfl a (by simp)) (fun q hq => hO2.off 1 0 (by omega) rfl rfl q (by simp [hq]))).same hs4 (hO3.off 1 0 (by omega) rfl rfl a (by simp)) (fun q hq => hO3.off 1 0 (by omega) rfl rfl q (by simp [hq]))
          have hM4 : Nums σ4 b (cs.set X (((l.count (X : Int) : Nat) : Int) - 1)) 3 := ((p2.same hs2 (hO1.lt 1 rfl b (by simp)) (by simp)).same hs3 (hO2.lt 2 rfl b (by simp)) (hO2.off 2 0 (by omega) rfl rfl b (by simp))).same hs4 (hO3.lt 2 rfl b (by simp)) (hO3.off 2 0 (by omega) rfl rfl b (by simp))
          rw [need_of (by simp [inRange]; omega), adr_some, hM.ld (hT.get hXc) _ (by simp), asI_i, need_of (by simp [inRange]; omega), adr_some, wrap_in (((l.count (X : Int) : Nat) : Int) - 1) (by omega) (by omega), p1 _ (by simp), need_of (by simp), need_of (by simp [inRange]; omega), hσ2, ← e1]
          have hw1 : IntKind.wrap .i64 ((p : Int) + 1) = ((p + 1 : Nat) : Int) := by rw [wrap_in _ (by omega) (by omega)]; omega
          have ht1 : Int.toNat (p : Int) - 0 = p := by simp
          have ht2 : Int.toNat ((p + 1 : Nat) : Int) = p + 1 := rfl
          rw [hw1, ht1, ht2, hR2.part c1_len 0 p (by omega) 0 (p * 1) (by simp) rfl, List.drop_zero]
          have hg3 := hgrow3
          rw [List.length_nil] at hg3
          rw [hg3, need_of (by simp), need_of (by simp [inRange]; omega), hRR3.part c1_len (p + 1) (l.length - (p + 1)) (by omega) _ _ rfl rfl, hdr]
          have hg4 := hgrow4
          rw [htk] at hg4
          rw [Nat.zero_add, hg4]
          rcases drop_spec L (k + 1) hK4 (by omega) p with ⟨_, _, σ5, g1, g2, g3⟩ | ⟨hno, _⟩
          · have hO5 : Owns σ0 σ5 [q4, a :: qs, [b], q9] := hO4.turn 1 rfl g3 (fun q hq => ⟨.inl hq, by have := hO4.lt 1 rfl q hq; have := g3.1; omega⟩)
            rw [g1, bnd_some, eqNil_nil, show (!true) = false from rfl, br_false, hw, ← e0]
            have hel : l.take p ++ l.drop (p + 1) = l.eraseIdx p := (List.eraseIdx_eq_take_drop_succ l p).symm
            have hell : (l.eraseIdx p).length = l.length - 1 := List.length_eraseIdx_of_lt hp
            have hR5 : Row c1 1 3 σ5 ad4 z4 q4 (l.eraseIdx p) := by rw [← hel]; exact hR4.same g3 (hO4.off 0 1 (by omega) rfl rfl)
            have hO6 : Owns σ0 σ5 [a :: qs, [b], q4] := hO5.pick [1, 2, 0] (by decide)
            have := script L k hL hlen hH n (i + 1) σ5 (l.eraseIdx p) (cs.set X (((l.count (X : Int) : Nat) : Int) - 1)) ad4 z4 qs q4 (by omega) (by omega) g2 (hM4.same g3 (hO4.lt 2 rfl b (by simp)) (hO4.off 2 1 (by omega) rfl rfl b (by simp)))
              hR5 hO6 (hT.down p X hgx hXc _ rfl) (fun y hy => by rw [List.length_set]; exact hx y (List.mem_of_mem_eraseIdx hy)) (by simpa using h9) (by omega) (by omega)
            rw [List.length_set, hell] at this
            rw [show p + (l.length - (p + 1)) = l.length - 1 by omega]
            exact this
          · exact absurd ⟨by omega, by omega⟩ hno

end Go.AM.Lk
