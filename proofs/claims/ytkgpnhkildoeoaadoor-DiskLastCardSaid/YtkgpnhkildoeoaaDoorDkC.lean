/-
  DiskLast, in plain words.
-/
import Derived.Test.YtkgpnhkildoeoaaDoorDkB
set_option linter.unusedVariables false
set_option linter.unusedSimpArgs false
set_option linter.unusedSectionVars false
namespace Go.AM.Dk
open Go.Proofs

abbrev P7 : List Bool := [true, true, true, true, true, false, true]
abbrev P17 : List Bool := [true, true, true, true, true, false, true, false, true, true, false, true, true, true, true, true, true, true]

/-- Each sector is read, and compared. -/
theorem l17 (L k m0 : Nat) (hL : 200 < L) {a b N : Nat} {F : List Nat} {S : List Sec} {W : List Lw} {ls : List UInt8} {σs : St} (hD : Disk σs a F S W) (hb : σs.get b = some (.own (by8 ls) 5)) (hbl : b < σs.next) (hS : S.length = N) (hls : ls.length = N) (hN : N ≤ 16) (hW : W.length ≤ 150)
    (hinv : ∀ (j : Nat) s c, S[j]? = some s → ls[j]? = some c → look j s W = fsec c) (ad : Option Addr) (len az : Nat) (i : Int) (len' : Int)
    (hrec : ∀ σ', Same σs σ' [] → ∃ σ9, lpAt Tryd.prog env L (k + 4) 3 P7 [] m0 [(0, .slice ad len az), (5, .int .i64 (N : Nat)), (6, ptr a), (7, .slice (some ⟨b, 0, none⟩) N 1), (30, .int .i64 len'), (31, .int .i64 (IntKind.wrap .i64 (i + 1)))] σ' = some (.bool true, σ9)) :
    ∀ (n j : Nat) (σ : St), j ≤ N → N - j < n → Same σs σ [] →
    ∃ σ9, lpAt Tryd.prog env L (k + 4) 3 P17 [m0] n [(0, .slice ad len az), (5, .int .i64 (N : Nat)), (6, ptr a), (7, .slice (some ⟨b, 0, none⟩) N 1), (30, .int .i64 len'), (31, .int .i64 i), (73, .int .i64 (N : Nat)), (74, .int .i64 j)] σ = some (.bool true, σ9)
  | 0, j, σ, _, h, _ => by omega
  | n + 1, j, σ, hj, h, hs => by
    rw [f3_l17]
    by_cases hje : j = N
    · rw [decide_eq_false (by omega), br_false]
      exact hrec σ hs
    · have hsj : S[j]? = some (S[j]'(by omega)) := List.getElem?_eq_getElem (by omega)
      have hcj : ls[j]? = some (ls[j]'(by omega)) := List.getElem?_eq_getElem (by omega)
      have heq := hinv j _ _ hsj hcj
      generalize S[j]'(by omega) = s at hsj heq
      generalize ls[j]'(by omega) = c at hcj heq
      obtain ⟨t1, σ1, g1, h1, ht1, ht1', s1⟩ := read_ok L (k + 1) (hD.idle hs) (by omega) (by omega) hsj
      obtain ⟨t2, σ2, g2, h2, ht2, ht2', s2⟩ := full_spec L (k + 3) (by omega) σ1 c
      rw [heq] at h1
      have B1 := Bytes.own h1 ht1'
      have B1' := B1.same s2 (by simp)
      have B2 := Bytes.own h2 ht2'
      have hb1 : σ1.get b = _ := ((hs.trans s1).2 b hbl (by simp)).trans hb
      obtain ⟨r, o, e, hat⟩ := (Bytes.own hb1 (by have := (hs.trans s1).1; omega)).at hcj
      cases e
      have hw : IntKind.wrap .i64 ((j : Int) + 1) = ((j + 1 : Nat) : Int) := by rw [wrap_in _ (by omega) (by omega)]; omega
      rw [decide_eq_true (by omega), br_true, g1, bnd_some, asT_t, toList2, uncons_c, asSl_s, uncons_c, endl_n, eqNil_nil, not_true, br_false, B1.row 64 (fsec c).2.symm, asBy_by8, need_of (by simp [inRange]; omega), adr_some, hat _ (by simp), asI_i, g2, bnd_some, asSl_s, B1'.row 64 (fsec c).2.symm, asBy_by8, chk_same, B2.row 64 (fsec c).2.symm, asBy_by8, beq_self_eq_true, not_true, br_false, hw]
      exact l17 L k m0 hL hD hb hbl hS hls hN hW hinv ad len az i len' hrec n (j + 1) σ2 (by omega) (by omega) ((hs.trans s1).trans s2)

/-- The place of a number. -/
theorem place_in {N : Nat} (hN : 0 < N) (hN' : N ≤ 16) (x : Int) : ∃ j : Nat, j < N ∧ Int.tmod (IntKind.wrap .i64 (Int.tmod x (N : Nat) + (N : Nat))) (N : Nat) = (j : Int) := by
  have h1 := Int.tmod_lt_of_pos x (show (0 : Int) < (N : Nat) by omega)
  have h2 := Int.lt_tmod_of_pos x (show (0 : Int) < (N : Nat) by omega)
  rw [wrap_in _ (by omega) (by omega)]
  obtain ⟨m, hm⟩ := Int.eq_ofNat_of_zero_le (show 0 ≤ Int.tmod x (N : Nat) + (N : Nat) by omega)
  rw [hm]
  exact ⟨m % N, Nat.mod_lt _ hN, rfl⟩

set_option maxRecDepth 20000 in
theorem last (L k : Nat) (hL : 400 < L) {σ0 : St} {ad : Option Addr} {sc' : List Op} (hlen : sc'.length ≤ 150) (hH : Holds σ0 4 c4 ad sc') {a b N : Nat} (hN0 : 0 < N) (hN : N ≤ 16) : ∀ (n i : Nat) (σ : St) (F : List Nat) (S : List Sec) (W : List Lw) (ls : List UInt8),
    i ≤ sc'.length → sc'.length - i < n → Disk σ a F S W → σ.get b = some (.own (by8 ls) 5) → Owns σ0 σ [F, [b]] → S.length = N → ls.length = N → W.length ≤ i → InR N W → (∀ (j : Nat) s c, S[j]? = some s → ls[j]? = some c → look j s W = fsec c) →
    ∃ σ9, lpAt Tryd.prog env L (k + 4) 3 P7 [] n [(0, .slice ad sc'.length 0), (5, .int .i64 (N : Nat)), (6, ptr a), (7, .slice (some ⟨b, 0, none⟩) N 1), (30, .int .i64 sc'.length), (31, .int .i64 i)] σ = some (.bool true, σ9)
  | 0, i, σ, F, S, W, ls, _, h, _, _, _, _, _, _, _, _ => by omega
  | n + 1, i, σ, F, S, W, ls, hi, h, hD, hb, hO, hS, hls, hW, hin, hinv => by
    rw [f3_l7]
    by_cases hie : i = sc'.length
    · rw [decide_eq_false (by omega), br_false, len_spec hD L (k + 3), bnd_some, asI_i, hS, beq_self_eq_true]
      exact ⟨σ, rfl⟩
    · have hget : sc'[i]? = some sc'[i] := List.getElem?_eq_getElem (by omega)
      have hat : ∀ {σ' : St}, Kept' σ0.next σ0 σ' → ∃ q, ad = some ⟨q, 0, none⟩ ∧ ∀ (j : Nat) (v : Value) (o : Nat), j < 4 → (c4 sc'[i])[j]? = some v → o = i * 4 + j → ∀ K : Value → Res, σ'.ld q o K = K v := fun hk => hH.ld hk hget
      generalize sc'[i] = o at hat
      obtain ⟨q0, e0, hat0⟩ := hat hO.kept
      have hat' : ∀ {σ' : St}, Kept' σ0.next σ0 σ' → ∀ (j : Nat) (v : Value) (o' : Nat), j < 4 → (c4 o)[j]? = some v → o' = i * 4 + j → ∀ K : Value → Res, σ'.ld q0 o' K = K v := fun hk => by
        obtain ⟨q1, e1, h⟩ := hat hk
        rw [e0] at e1
        cases e1
        exact h
      have hn : ∀ K : Res, need (inRange (i : Int) (sc'.length : Int)) K = K := fun K => need_of (by simp [inRange]; omega) K
      have r0 : ∀ {σ' : St}, Kept' σ0.next σ0 σ' → ∀ K : Value → Res, σ'.ld q0 (0 + (i : Int).toNat * 4 + 0) K = K (.int .i64 o.kind) := fun hk K => hat' hk 0 _ _ (by omega) rfl (by simp) K
      have r1 : ∀ {σ' : St}, Kept' σ0.next σ0 σ' → ∀ K : Value → Res, σ'.ld q0 (0 + (i : Int).toNat * 4 + 1) K = K (.int .i64 o.i) := fun hk K => hat' hk 1 _ _ (by omega) rfl (by simp) K
      have hw : IntKind.wrap .i64 ((i : Int) + 1) = ((i + 1 : Nat) : Int) := by rw [wrap_in _ (by omega) (by omega)]; omega
      have hbl := hO.lt 1 rfl b (by simp)
      rw [decide_eq_true (by omega), br_true, hn, e0, adr_some, r0 hO.kept, asI_i]
      by_cases k3 : o.kind = 3
      · obtain ⟨F1, σ1, g1, hD1, hT1⟩ := flush_spec L (k + 1) hD (by omega) (by omega) (by rw [hS]; exact hin)
        have hO1 := hO.turned 0 rfl hT1
        have hb1 : σ1.get b = _ := (hT1.same.2 b hbl (hO.off 1 0 (by omega) rfl rfl b (by simp))).trans hb
        rw [k3, show ((3 : Int) == 3) = true from rfl, br_true, g1, bnd_some, asT_t, toList0, endl_n, hn, adr_some, r0 hO1.kept, asI_i, k3, show ((3 : Int) != 1) = true from rfl, br_true, hw, ← e0]
        refine last L k hL hlen hH hN0 hN n (i + 1) σ1 F1 _ [] ls (by omega) (by omega) hD1 hb1 hO1 (by rw [lay_len]; exact hS) hls (by simp) (InR.nil _) (fun j s c h1 h2 => ?_)
        have hj := (List.getElem?_eq_some_iff.1 h2).1
        have hsj : S[j]? = some (S[j]'(by omega)) := List.getElem?_eq_getElem (by omega)
        rw [look_lay j W 0 N S _ hin hsj] at h1
        rw [← Option.some.inj h1]
        exact hinv j _ c hsj h2
      · rw [show (o.kind == 3) = false by simpa using k3, br_false, hn, adr_some, r0 hO.kept, asI_i]
        by_cases k1 : o.kind = 1
        rotate_left
        · rw [show (o.kind != 1) = true by simpa using k1, br_true, hw, ← e0]
          exact last L k hL hlen hH hN0 hN n (i + 1) σ F S W ls (by omega) (by omega) hD hb hO hS hls (by omega) hin hinv
        obtain ⟨j, hj, hjx⟩ := place_in hN0 hN o.i
        have hNN : ((N : Nat) : Int) ≠ 0 := by omega
        rw [k1, show ((1 : Int) != 1) = false from rfl, br_false, hn, adr_some, r1 hO.kept, asI_i, need_of (by simpa using hNN), need_of (by simpa using hNN), hjx, need_of (by simp [inRange]; omega), adr_some, wrap_c8]
        generalize c8 (IntKind.wrap .i64 ((i : Int) + 1)) = c
        have hset : over (by8 ls) (0 + (j : Int).toNat * 1) [.int .u8 (c.toNat : Int)] = by8 (ls.set j c) := by
          unfold over by8
          rw [show 0 + (j : Int).toNat * 1 = j by simp, List.set_eq_take_append_cons_drop, if_pos (by omega)]
          simp [List.map_take, List.map_drop]
        rw [put_own _ hb (by rw [by8_len]; simp; omega) rfl, hset]
        generalize hσ1 : σ.set b (.own (by8 (ls.set j c)) 5) = σ1
        have hs1 : Same σ σ1 [b] := by rw [← hσ1]; exact Same.set _ _ _
        have n1 : σ1.next = σ.next := by rw [← hσ1]; rfl
        have hb1 : σ1.get b = some (.own (by8 (ls.set j c)) 5) := by rw [← hσ1, get_set_same]
        have hT1 : Turn σ σ1 [b] [b] := ⟨hs1, fun q hq => by simp at hq; subst hq; exact ⟨.inl (by simp), by omega⟩⟩
        have hO1 := hO.turned 1 rfl hT1
        have hD1 := hD.same hs1 (hO.off 0 1 (by omega) rfl rfl)
        obtain ⟨t2, σ2, g2, h2, ht2, ht2', s2⟩ := full_spec L (k + 3) (by omega) σ1 c
        have hb2 : σ2.get b = _ := (s2.2 b (by omega) (by simp)).trans hb1
        have hO2 := hO1.idle s2
        obtain ⟨F3, σ3, g3, hD3, hT3⟩ := write_ok L (k + 1) (hD1.idle s2) (z := 1) (b := fsec c) (Bytes.own h2 ht2') (by omega) (i := j) (by omega) (by omega)
        have hO3 := hO2.turned 0 rfl hT3
        have hb3 : σ3.get b = _ := (hT3.same.2 b (by have := s2.1; omega) (hO2.off 1 0 (by omega) rfl rfl b (by simp))).trans hb2
        rw [g2, bnd_some, asSl_s, g3, bnd_some, eqNil_nil, not_true, br_false, ← e0]
        have hinv' : ∀ (p : Nat) s c', S[p]? = some s → (ls.set j c)[p]? = some c' → look p s (W ++ [⟨j, fsec c⟩]) = fsec c' := fun p s c' h1 h2 => by
          rw [look_snoc]
          rw [List.getElem?_set] at h2
          by_cases hpj : j = p
          · rw [if_pos hpj, if_pos (by omega)] at h2
            cases h2
            rw [if_pos (by simp [hpj])]
          · rw [if_neg hpj] at h2
            rw [if_neg (by simp; omega)]
            exact hinv p s c' h1 h2
        refine l17 L k n (by omega) hD3 hb3 (hO3.lt 1 rfl b (by simp)) hS (by simpa using hls) hN (by simp; omega) hinv' ad sc'.length 0 i sc'.length (fun σ' hs' => ?_) L 0 σ3 (by omega) (by omega) (Same.refl _ _)
        rw [hw]
        exact last L k hL hlen hH hN0 hN n (i + 1) σ' F3 S _ (ls.set j c) (by omega) (by omega) (hD3.idle hs') ((hs'.2 b (hO3.lt 1 rfl b (by simp)) (by simp)).trans hb3) (hO3.idle hs') hS (by simpa using hls) (by simp; omega) (hin.snoc (by omega) (by omega) _) hinv'

theorem last_holds (L k : Nat) (hL : 400 < L) {σ : St} {ad : Option Addr} {sc' : List Op} (hH : Holds σ 4 c4 ad sc') (a1 : Int) (h1 : 0 ≤ a1 ∧ a1 ≤ 255) :
    ∃ σ9, evCall Tryd.prog env L (k + 5) 3 [.slice ad sc'.length 0, .int .u8 a1] σ = some (.bool true, σ9) := by
  rw [f3_eq]
  have hk0 : Kept' σ.next σ σ := ⟨Nat.le_refl _, fun _ _ => rfl⟩
  obtain ⟨σ1, g1, s1⟩ := awake_spec L k (by omega) σ
  have hk1 := hk0.step s1 (by simp)
  rw [g1, bnd_some, asB_b, not_true, br_false]
  obtain ⟨b, hb, hb2⟩ := few_spec L (k + 3) (z := 0) (by omega) hH hk1
  rw [hb, bnd_some, asB_b]
  cases b with
  | false =>
    obtain ⟨σ2, g2, _⟩ := awake_spec L k (by omega) σ1
    rw [not_false, br_true, g2, bnd_some, asB_b]
    exact ⟨σ2, rfl⟩
  | true =>
    have hlen := (hb2 rfl).1
    obtain ⟨m, rfl⟩ := Int.eq_ofNat_of_zero_le h1.1
    have hN : IntKind.wrap .i64 (1 + Int.tmod (IntKind.wrap .i64 (m : Int)) 16) = ((1 + m % 16 : Nat) : Int) := by
      rw [wrap_in (m : Int) (by omega) (by omega), show Int.tmod (m : Int) 16 = ((m % 16 : Nat) : Int) from rfl, wrap_in _ (by omega) (by omega)]; omega
    rw [not_true, br_false, hN]
    obtain ⟨N, hNN⟩ : ∃ N, N = 1 + m % 16 := ⟨_, rfl⟩
    rw [← hNN]
    have hN0 : 0 < N := by omega
    have hN1 : N ≤ 16 := by omega
    obtain ⟨a, F, σ2, g2, hD2, s2, hF2⟩ := new_spec L (k + 3) σ1 (N : Nat)
    have hmx : (mx 0 (mn ((N : Nat) : Int) 1024)).toNat = N := by unfold mx mn; repeat' split <;> omega
    rw [hmx] at hD2
    rw [g2, bnd_some, asP_p, need_of (by simp; omega), Int.toNat_natCast, zerosN_one, show List.replicate N (Value.int .u8 0) = by8 (List.replicate N 0) by rw [by8, List.map_replicate]; rfl]
    have hO1 : Owns σ σ1 [] := ⟨hk1, by simp, by simp⟩
    have hO2 : Owns σ σ2 [F] := hO1.more s2 (fun q hq => ⟨hF2 q hq, hD2.lt q hq⟩)
    have s3 : Same σ2 (σ2.new (.own (by8 (List.replicate N 0)) 5)) [] := Same.new _ _ _
    have hO3 : Owns σ (σ2.new (.own (by8 (List.replicate N 0)) 5)) [[σ2.next], F] := hO2.more s3 (by simp)
    refine last L k hL hlen hH hN0 hN1 L 0 (σ2.new (.own (by8 (List.replicate N 0)) 5)) F (List.replicate N zsec) [] (List.replicate N 0) (by omega) (by omega) (hD2.idle s3) (get_new_same _ _) (hO3.pick [1, 0] (by decide)) (by simp) (by simp) (by simp) (InR.nil _) (fun j s c h1 h2 => ?_)
    rw [List.getElem?_replicate] at h1 h2
    split at h1
    · rename_i hj
      rw [if_pos hj] at h2
      cases h1; cases h2
      rfl
    · cases h1

end Go.AM.Dk
