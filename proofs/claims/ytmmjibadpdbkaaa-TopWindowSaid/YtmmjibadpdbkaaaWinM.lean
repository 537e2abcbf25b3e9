/-
  WindowHeals: the script, and the whole.
-/
import Derived.Test.YtmmjibadpdbkaaaWinK
import Derived.Test.YtmmjibadpdbkaaaWinT
set_option linter.unusedVariables false
set_option linter.unusedSimpArgs false
namespace Go.AM
open Go.Proofs

theorem heal_script (L k : Nat) (hL : 2000 < L) {σ0 : St} {ad0 : Option Addr} {script : List (Int × Int)} (hlen : script.length ≤ 300) (hH : Holds σ0 2 c2 ad0 script) {more : Int} (hmore : 0 ≤ more ∧ more ≤ 255) : ∀ (n i : Nat) (σ : St) (a b : Nat) (adF : Option Addr) (zF : Nat) (fl : List (Int × Int)) (many sent acked took : Nat),
    i ≤ script.length → script.length - i < n → many ≤ i → fl.length ≤ 4 * i → Pair σ0 σ a b adF zF fl many sent acked took →
    ∃ σ9, lpAt Try.prog env L (k + 2) 6 [true, true, true, true, false, true] [] n [(0, .slice ad0 script.length 0), (1, .int .u8 more), (5, .pointer (some ⟨a, 0, none⟩)), (6, .pointer (some ⟨b, 0, none⟩)), (7, .slice adF fl.length zF), (32, .int .i64 script.length), (33, .int .i64 i)] σ = some (.bool true, σ9)
  | 0, i, σ, a, b, adF, zF, fl, many, sent, acked, took, _, h, _, _, _ => by omega
  | n + 1, i, σ, a, b, adF, zF, fl, many, sent, acked, took, h1, h2, h3, h4, hI => by
    rw [f6_l6]
    have hn1 := hI.n1; have hn2 := hI.n2; have hn3 := hI.n3; have hn4 := hI.n4
    by_cases hi : i = script.length
    · rw [decide_eq_false (by omega), br_false, wrap_in more (by omega) (by omega)]
      have ht0 : 0 ≤ Int.tmod more 20 := Int.tmod_nonneg _ (by omega)
      have ht1 : Int.tmod more 20 < 20 := Int.tmod_lt_of_pos more (by omega)
      obtain ⟨N, hN⟩ := Int.eq_ofNat_of_zero_le ht0
      rw [hN]
      exact heal_push L k hL (N := N) (by omega) L 0 σ many (by omega) (by omega) (by omega) hI
    · have hget : script[i]? = some script[i] := List.getElem?_eq_getElem (by omega)
      generalize hp : script[i] = p at hget
      obtain ⟨q0, e0, hat⟩ := hH.ld hI.kept hget
      obtain ⟨dd, kk⟩ := p
      rw [decide_eq_true (by omega), br_true, need_of (by simp [inRange]; omega), e0, adr_some, hat 0 (.int .i64 dd) _ (by omega) rfl (by simp), asI_i]
      have go : ∀ (σ' : St) (adF' : Option Addr) (zF' : Nat) (fl' : List (Int × Int)) (many' sent' acked' took' : Nat), many' ≤ i + 1 → fl'.length ≤ 4 * (i + 1) → Pair σ0 σ' a b adF' zF' fl' many' sent' acked' took' →
          ∃ σ9, lpAt Try.prog env L (k + 2) 6 [true, true, true, true, false, true] [] n [(0, .slice (some ⟨q0, 0, none⟩) script.length 0), (1, .int .u8 more), (5, .pointer (some ⟨a, 0, none⟩)), (6, .pointer (some ⟨b, 0, none⟩)), (7, .slice adF' fl'.length zF'), (32, .int .i64 script.length), (33, .int .i64 ((i : Int) + 1))] σ' = some (.bool true, σ9) := by
        intro σ' adF' zF' fl' many' sent' acked' took' g1 g2 g3
        have := heal_script L k hL hlen hH hmore n (i + 1) σ' a b adF' zF' fl' many' sent' acked' took' (by omega) (by omega) g1 g2 g3
        rw [show ((i + 1 : Nat) : Int) = (i : Int) + 1 by omega, e0] at this
        exact this
      have hw : IntKind.wrap .i64 ((i : Int) + 1) = (i : Int) + 1 := wrap_in _ (by omega) (by omega)
      have same := go σ adF zF fl many sent acked took (by omega) (by omega) hI
      by_cases hd1 : dd = 1
      · subst hd1
        obtain ⟨σ1, g1, hI1⟩ := hI.push L (k + 1) (by omega) i
        rw [show ((1 : Int) == 1) = true from rfl, br_true, g1, bnd_some, asT_t, show (#[] : Array Value).toList = [] from rfl, endl_n, hw]
        exact go σ1 _ _ _ _ _ _ _ (by omega) (by omega) hI1
      · rw [show (dd == 1) = false by simpa using hd1, br_false]
        by_cases hd2 : dd = 2
        · subst hd2
          obtain ⟨ad2, z2, rs2, l2, σ2, hl2, g2, hR2, hI2, _, _⟩ := hI.send L k hL (by omega)
          rw [show ((2 : Int) == 2) = true from rfl, br_true, g2, bnd_some, asSl_s, hR2.read c2_len _ (by rw [packs_length])]
          generalize hs' : min many (acked + 4) = s' at hI2 hR2 ⊢
          obtain ⟨ad3, z3, σ3, g3, hI3⟩ := hI2.fly (packs l2 sent (s' - sent)) (s' - sent) (by rw [packs_length]) (by omega) (by omega) (fun p hp => by have := packs_seq l2 _ _ p hp; omega)
          rw [g3, hw]
          exact go σ3 _ _ _ _ _ _ _ (by omega) (by rw [List.length_append, packs_length]; omega) hI3
        · rw [show (dd == 2) = false by simpa using hd2, br_false]
          have hkk := hat 1 (.int .i64 kk) (0 + (i : Int).toNat * 2 + 1) (by omega) rfl (by simp)
          by_cases hd4 : dd = 4
          · subst hd4
            rw [show ((4 : Int) == 4) = true from rfl, br_true, need_of (by simp [inRange]; omega), adr_some, hkk, asI_i]
            by_cases hk0 : kk ≥ 0
            · rw [decide_eq_true hk0, br_true, need_of (by simp [inRange]; omega), adr_some, hkk, asI_i]
              by_cases hk1 : kk < (fl.length : Int)
              · rw [decide_eq_true hk1, br_true, need_of (by simp [inRange]; omega), adr_some, hkk, asI_i, need_of (by simp [inRange]; omega)]
                obtain ⟨p, hgp⟩ : ∃ p, fl[kk.toNat]? = some p := ⟨_, List.getElem?_eq_getElem (by omega)⟩
                have hfp := hI.fl p (List.mem_of_getElem? hgp)
                obtain ⟨qF, eF, hlds⟩ := hI.get hgp
                rw [eF, adr_some, hlds _ (by simp), show c2 p = [Value.int .i64 p.1, Value.int .i64 p.2] from rfl, uncons_c, asI_i, uncons_c, asI_i, endl_n, ← eF]
                obtain ⟨σ1, g1, g2⟩ := hI.take L (k + 1) (by omega) p.1 p.2 hfp.1 hfp.2
                rw [show evCall Try.prog env L (k + 2) 9 [Value.pointer (some ⟨b, 0, none⟩), Value.agg #[Value.int .i64 p.1, Value.int .i64 p.2]] σ = _ from g1, bnd_some, asI_i, hw]
                exact go σ1 _ _ _ _ _ _ _ (by omega) (by omega) g2
              · rw [decide_eq_false hk1, br_false, hw]
                exact same
            · rw [decide_eq_false hk0, br_false, hw]
              exact same
          · rw [show (dd == 4) = false by simpa using hd4, br_false]
            by_cases hd5 : dd = 5
            · subst hd5
              obtain ⟨ad4, z4, σ4, g4, hI4, _⟩ := hI.list L k (by omega)
              obtain ⟨σ5, g5, hI5⟩ := hI4.ack L (k + 1) took (Nat.le_refl _)
              rw [show ((5 : Int) == 5) = true from rfl, br_true, g4, bnd_some, asSl_s, g5, bnd_some, hw]
              exact go σ5 _ _ _ _ _ _ _ (by omega) (by omega) hI5
            · rw [show (dd == 5) = false by simpa using hd5, br_false, hw]
              exact same

theorem heals {σ0 : St} {ad0 : Option Addr} {script : List (Small × Small)} (hH : Holds σ0 2 c2s ad0 script) (more : Int) (hmore : 0 ≤ more ∧ more ≤ 255) : ∃ σ', evCall Try.prog env 10000 10 6 [.slice ad0 script.length 0, .int .u8 more] σ0 = some (.bool true, σ') := by
  rw [f6_eq]
  obtain ⟨σ1, g1, hs1⟩ := awake_spec 10000 5 (by omega) σ0
  rw [g1, bnd_some, asB_b, show (!true) = false from rfl, br_false]
  by_cases hl : script.length > 300
  · obtain ⟨σ2, g2, _⟩ := awake_spec 10000 5 (by omega) σ1
    rw [decide_eq_true (by omega), br_true, g2, bnd_some, asB_b]
    exact ⟨σ2, rfl⟩
  · rw [decide_eq_false (by omega), br_false]
    generalize hσ2 : σ1.new (Blk.own [Value.slice none 0 0, Value.int IntKind.i64 0, Value.int IntKind.i64 0] 35) = σ2
    generalize hσ3 : σ2.new (Blk.own [Value.slice none 0 0] 27) = σ3
    have hs2 : Same σ1 σ2 [] := by rw [← hσ2]; exact Same.new _ _ _
    have hs3 : Same σ2 σ3 [] := by rw [← hσ3]; exact Same.new _ _ _
    have hn2 : σ2.next = σ1.next + 1 := by rw [← hσ2]; rfl
    have hn3 : σ3.next = σ2.next + 1 := by rw [← hσ3]; rfl
    have hs := (hs1.trans hs2).trans hs3
    have hS : Send σ3 σ1.next [] [] (0 : Nat) (0 : Nat) := ⟨⟨none, 0, by rw [← hσ3, get_new (by omega), ← hσ2, get_new_same]; rfl, ⟨by simp, .inl ⟨rfl, rfl, rfl, rfl⟩⟩⟩, by omega, by simp⟩
    have hR : Recv σ3 σ2.next [] [] := ⟨⟨none, 0, by rw [← hσ3, get_new_same]; rfl, ⟨by simp, .inl ⟨rfl, rfl, rfl, rfl⟩⟩⟩, by omega, by simp⟩
    have h1n := hs1.1
    have hI : Pair σ0 σ3 σ1.next σ2.next none 0 [] 0 0 0 0 :=
      ⟨⟨hs.1, fun k hk => hs.2 k hk (by simp)⟩, ⟨fun q => if q < σ0.next then 9 else if q = σ1.next then 0 else 1, [], [], [], [], [], rfl, rfl, hS, hR, ⟨by simp, .inl ⟨rfl, rfl, rfl, rfl⟩⟩,
        by show (if σ1.next < σ0.next then 9 else if σ1.next = σ1.next then 0 else 1) = 0; rw [if_neg (by omega), if_pos rfl], by show (if σ2.next < σ0.next then 9 else if σ2.next = σ1.next then 0 else 1) = 1; rw [if_neg (by omega), if_neg (by omega)], by simp, by simp, by simp, fun q hq => by simp only []; rw [if_pos hq]⟩, by simp, by omega, by omega, by omega, by omega⟩
    have hH2 : Holds σ0 2 c2 ad0 (script.map fun p => (p.1.1, p.2.1)) := by
      intro hne
      obtain ⟨q, vs, c1, c2, c3, c4, c5⟩ := hH (fun h => hne (by rw [h]; rfl))
      refine ⟨q, vs, c1, c2, c3, by simpa using c4, fun i a hi j v hj hv => ?_⟩
      rw [List.getElem?_map, Option.map_eq_some_iff] at hi
      obtain ⟨b, hb, rfl⟩ := hi
      exact c5 i b hb j v hj hv
    have := heal_script 10000 7 (by omega) (by rw [List.length_map]; omega) hH2 hmore 10000 0 σ3 σ1.next σ2.next none 0 [] 0 0 0 0 (by omega) (by rw [List.length_map]; omega) (by omega) (by simp) hI
    rw [List.length_map] at this
    obtain ⟨σ', h⟩ := this
    exact ⟨σ', by simpa using h⟩

end Go.AM
