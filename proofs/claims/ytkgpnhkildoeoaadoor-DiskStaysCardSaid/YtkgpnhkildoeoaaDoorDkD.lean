/-
  DiskHalves, in plain words.
-/
import Derived.Test.YtkgpnhkildoeoaaDoorDkB
set_option linter.unusedVariables false
set_option linter.unusedSimpArgs false
set_option linter.unusedSectionVars false
namespace Go.AM.Dk
open Go.Proofs

/-! Bits. -/
theorem and_one (x : Nat) (hx : x < 18446744073709551616) : ibit .and .u64 (x : Int) 1 = ((x % 2 : Nat) : Int) := by
  unfold ibit
  simp only
  rw [show IntKind.bits .u64 = 64 from rfl, show BitVec.ofInt 64 (x : Int) = BitVec.ofNat 64 x from BitVec.ofInt_natCast 64 x, show BitVec.ofInt 64 1 = BitVec.ofNat 64 1 from rfl, BitVec.toNat_and, BitVec.toNat_ofNat, BitVec.toNat_ofNat]
  rw [Nat.mod_eq_of_lt (show x < 2 ^ 64 by omega), show (1 % 2 ^ 64 : Nat) = 1 from rfl, Nat.and_one_is_mod]
  rw [show ∀ y : Int, IntKind.wrap .u64 y = y % 18446744073709551616 from fun _ => rfl]
  omega
theorem shr_lt (x i : Nat) (hx : x < 18446744073709551616) : x / 2 ^ i < 18446744073709551616 := Nat.lt_of_le_of_lt (Nat.div_le_self _ _) hx
theorem fdiv_pow (x i : Nat) : Int.fdiv (x : Int) (2 ^ i) = ((x / 2 ^ i : Nat) : Int) := by
  rw [show ((2 : Int) ^ i) = ((2 ^ i : Nat) : Int) by simp]
  exact (Int.ofNat_fdiv x (2 ^ i)).symm
theorem bit_nat (x i : Nat) (hx : x < 18446744073709551616) (hi : i < 64) : bit (x : Int) i = x.testBit i := by
  unfold bit
  rw [show Int.tmod (i : Int) 64 = ((i % 64 : Nat) : Int) from rfl, Int.toNat_natCast, Nat.mod_eq_of_lt hi, Nat.min_eq_left (by omega), fdiv_pow, and_one _ (shr_lt x i hx), Nat.testBit_eq_decide_div_mod_eq]
  by_cases h : x / 2 ^ i % 2 = 1
  · rw [h]; rfl
  · rw [decide_eq_false h]
    have : x / 2 ^ i % 2 = 0 := by omega
    rw [this]; rfl
theorem xor_all (x : Nat) (hx : x < 18446744073709551616) : ibit .xor .u64 18446744073709551615 (x : Int) = ((18446744073709551615 - x : Nat) : Int) := by
  unfold ibit
  simp only
  rw [show IntKind.bits .u64 = 64 from rfl, show BitVec.ofInt 64 (x : Int) = BitVec.ofNat 64 x from BitVec.ofInt_natCast 64 x, show BitVec.ofInt 64 18446744073709551615 = BitVec.allOnes 64 from rfl, BitVec.allOnes_xor, BitVec.toNat_not, BitVec.toNat_ofNat, Nat.mod_eq_of_lt (show x < 2 ^ 64 by omega)]
  rw [show ∀ y : Int, IntKind.wrap .u64 y = y % 18446744073709551616 from fun _ => rfl]
  omega
theorem bit_not (x i : Nat) (hx : x < 18446744073709551616) (hi : i < 64) : bit ((18446744073709551615 - x : Nat) : Int) i = !x.testBit i := by
  rw [bit_nat _ i (by omega) hi, show 18446744073709551615 - x = 2 ^ 64 - (x + 1) by omega, Nat.testBit_two_pow_sub_succ (by omega)]
  simp [hi]

theorem or_zero (c : UInt8) : ibit .or .u8 (c.toNat : Int) 0 = (c.toNat : Int) ∧ ibit .or .u8 0 (c.toNat : Int) = (c.toNat : Int) ∧ ibit .and .u8 (c.toNat : Int) 0 = 0 ∧ ibit .and .u8 0 (c.toNat : Int) = 0 := by
  have hc := c.toNat_lt
  generalize c.toNat = x at hc
  have e : BitVec.ofInt 8 (x : Int) = BitVec.ofNat 8 x := BitVec.ofInt_natCast 8 x
  have z : BitVec.ofInt 8 0 = BitVec.ofNat 8 0 := rfl
  have w : ∀ y : Int, IntKind.wrap .u8 y = y % 256 := fun _ => rfl
  unfold ibit
  simp only
  rw [show IntKind.bits .u8 = 8 from rfl, e, z]
  refine ⟨?_, ?_, ?_, ?_⟩
  · rw [BitVec.toNat_or, BitVec.toNat_ofNat, BitVec.toNat_ofNat, Nat.zero_mod, Nat.or_zero, Nat.mod_eq_of_lt (by omega), w]; omega
  · rw [BitVec.toNat_or, BitVec.toNat_ofNat, BitVec.toNat_ofNat, Nat.zero_mod, Nat.zero_or, Nat.mod_eq_of_lt (by omega), w]; omega
  · rw [BitVec.toNat_and, BitVec.toNat_ofNat, BitVec.toNat_ofNat, Nat.zero_mod, Nat.and_zero, w]; rfl
  · rw [BitVec.toNat_and, BitVec.toNat_ofNat, BitVec.toNat_ofNat, Nat.zero_mod, Nat.zero_and, w]; rfl

/-! Writes one behind the other. -/
theorem lay_seq (kept : Nat → Bool) : ∀ (W : List Lw) (k : Nat) (S : List Sec), (∀ t w, W[t]? = some w → w.at_ = ((k + t : Nat) : Int)) → ∀ j s, S[j]? = some s → (lay kept k S W)[j]? = some (if k ≤ j ∧ kept j = true then (W[j - k]?.map Lw.b).getD s else s)
  | [], k, S, _, j, s, h => by
    unfold lay
    rw [h]
    split <;> rfl
  | w :: W, k, S, hat, j, s, h => by
    have h0 := hat 0 w rfl
    have hj := (List.getElem?_eq_some_iff.1 h).1
    have hs' : ∃ s', (if kept k = true then S.set w.at_.toNat w.b else S)[j]? = some s' ∧ s' = if k = j ∧ kept j = true then w.b else s := by
      refine ⟨_, ?_, rfl⟩
      by_cases hk : kept k = true
      · rw [if_pos hk, List.getElem?_set]
        by_cases hkj : k = j
        · rw [if_pos (by omega), if_pos (by omega), if_pos ⟨hkj, hkj ▸ hk⟩]
        · rw [if_neg (by omega), if_neg (by simp [hkj]), h]
      · rw [if_neg hk, h, if_neg (by rintro ⟨rfl, h⟩; exact hk h)]
    obtain ⟨s', e1, e2⟩ := hs'
    unfold lay
    rw [lay_seq kept W (k + 1) _ (fun t v hv => by have := hat (t + 1) v hv; omega) j s' e1]
    by_cases hkj : k = j
    · subst hkj
      rw [if_neg (by omega), e2]
      by_cases hk : kept k = true
      · rw [if_pos ⟨rfl, hk⟩, if_pos ⟨by omega, hk⟩, Nat.sub_self]; rfl
      · rw [if_neg (by simp [hk]), if_neg (by simp [hk])]
    · have e3 : s' = s := by rw [e2, if_neg (by simp [hkj])]
      rw [e3]
      by_cases hlt : k ≤ j ∧ kept j = true
      · rw [if_pos ⟨by omega, hlt.2⟩, if_pos hlt, show j - k = (j - (k + 1)) + 1 by omega]; rfl
      · rw [if_neg (by rintro ⟨h1, h2⟩; exact hlt ⟨by omega, h2⟩), if_neg hlt]

def wl (n : Nat) : List Lw := (List.range n).map fun i => ⟨(i : Nat), fsec (c8 (((i + 1 : Nat)) : Int))⟩
theorem wl_len (n : Nat) : (wl n).length = n := by simp [wl]
theorem wl_succ (n : Nat) : wl (n + 1) = wl n ++ [⟨(n : Nat), fsec (c8 ((n + 1 : Nat) : Int))⟩] := by
  unfold wl; rw [List.range_succ, List.map_append]; rfl
theorem wl_at (n t : Nat) (w : Lw) (h : (wl n)[t]? = some w) : w = ⟨(t : Nat), fsec (c8 ((t + 1 : Nat) : Int))⟩ ∧ t < n := by
  unfold wl at h
  rw [List.getElem?_map] at h
  cases hr : (List.range n)[t]? with
  | none => rw [hr] at h; cases h
  | some x =>
    rw [hr] at h
    have hx := List.getElem?_eq_some_iff.1 hr
    obtain ⟨h1, h2⟩ := hx
    rw [List.length_range] at h1
    rw [List.getElem_range] at h2
    subst h2
    exact ⟨(Option.some.inj h).symm, h1⟩
theorem wl_in (n N : Nat) (h : n ≤ N) : InR N (wl n) := fun w hw => by
  obtain ⟨t, ht⟩ := List.mem_iff_getElem?.1 hw
  obtain ⟨rfl, h1⟩ := wl_at n t w ht
  simp only
  omega
theorem lay_wl (kept : Nat → Bool) (N j : Nat) (hj : j < N) : (lay kept 0 (List.replicate N zsec) (wl N))[j]? = some (if kept j = true then fsec (c8 ((j + 1 : Nat) : Int)) else zsec) := by
  rw [lay_seq kept (wl N) 0 _ (fun t w h => by rw [(wl_at N t w h).1]; simp) j zsec (by rw [List.getElem?_replicate, if_pos hj])]
  have hg : (wl N)[j - 0]? = some ⟨(j : Nat), fsec (c8 ((j + 1 : Nat) : Int))⟩ := by
    rw [Nat.sub_zero]
    unfold wl
    rw [List.getElem?_map, List.getElem?_range hj]; rfl
  rw [hg]
  by_cases hk : kept j = true
  · rw [if_pos ⟨Nat.zero_le _, hk⟩, if_pos hk]; rfl
  · rw [if_neg (by simp [hk]), if_neg hk]

abbrev P6 : List Bool := [true, true, true, true, false, true]
abbrev P14 : List Bool := [true, true, true, true, true, true, true, false, true]

/-- What is read behind both crashes. -/
theorem l14 (L k : Nat) (hL : 200 < L) {a b N x : Nat} {Fa Fb : List Nat} {σs : St} (hN : N ≤ 60) (hx : x < 18446744073709551616) (hA : Disk σs a Fa (lay (bit (x : Int)) 0 (List.replicate N zsec) (wl N)) []) (hB : Disk σs b Fb (lay (bit ((18446744073709551615 - x : Nat) : Int)) 0 (List.replicate N zsec) (wl N)) []) :
    ∀ (n j : Nat) (σ : St), j ≤ N → N - j < n → Same σs σ [] →
    ∃ σ9, lpAt Tryd.prog env L (k + 4) 4 P14 [] n [(1, .int .u64 (x : Nat)), (6, ptr a), (7, ptr b), (54, .int .i64 (N : Nat)), (55, .int .i64 j)] σ = some (.bool true, σ9)
  | 0, j, σ, _, h, _ => by omega
  | n + 1, j, σ, hj, h, hs => by
    rw [f4_l14]
    by_cases hje : j = N
    · rw [decide_eq_false (by omega), br_false]
      exact ⟨σ, rfl⟩
    · obtain ⟨t1, σ1, g1, h1, ht1, ht1', s1⟩ := read_ok L (k + 1) (hA.idle hs) (by simp; omega) (by simp) (lay_wl _ N j (by omega))
      obtain ⟨t2, σ2, g2, h2, ht2, ht2', s2⟩ := read_ok L (k + 1) ((hB.idle hs).idle s1) (by simp; omega) (by simp) (lay_wl _ N j (by omega))
      rw [bit_nat x j hx (by omega)] at h1
      rw [bit_not x j hx (by omega)] at h2
      have hw : IntKind.wrap .i64 ((j : Int) + 1) = ((j + 1 : Nat) : Int) := by rw [wrap_in _ (by omega) (by omega)]; omega
      have hc0 : (((c8 ((j + 1 : Nat) : Int)).toNat : Nat) : Int) = ((j + 1 : Nat) : Int) := by
        rw [← wrap_c8, show ∀ y : Int, IntKind.wrap .u8 y = y % 256 from fun _ => rfl]; omega
      have h1' : σ2.get t1 = _ := (s2.2 t1 ht1' (by simp)).trans h1
      have key : ∀ u v : UInt8, σ2.get t1 = some (.own (sc (fsec u)) 68) → σ2.get t2 = some (.own (sc (fsec v)) 68) → (∀ K : Value → Res, σ2.ld t1 (0 + 0) K = K (.int .u8 (u.toNat : Int))) ∧ ∀ K : Value → Res, σ2.ld t2 (0 + 0) K = K (.int .u8 (v.toNat : Int)) := fun u v e1 e2 => by
        obtain ⟨r1, o1, q1, p1⟩ := (Bytes.own e1 (by have := s2.1; omega)).at (i := 0) (b := u) rfl
        obtain ⟨r2, o2, q2, p2⟩ := (Bytes.own e2 ht2').at (i := 0) (b := v) rfl
        cases q1; cases q2
        exact ⟨p1 _ rfl, p2 _ rfl⟩
      have hbit : (ibit .and .u64 (Int.fdiv (x : Int) (2 ^ min (Int.toNat (j : Int)) 64)) 1 == 1) = x.testBit j := by
        rw [Int.toNat_natCast, Nat.min_eq_left (by omega), fdiv_pow, and_one _ (shr_lt x j hx), Nat.testBit_eq_decide_div_mod_eq]
        by_cases h : x / 2 ^ j % 2 = 1
        · rw [h]; rfl
        · rw [decide_eq_false h]
          have : x / 2 ^ j % 2 = 0 := by omega
          rw [this]; rfl
      have hin : ∀ K : Res, need (inRange 0 ((64 : Nat) : Int)) K = K := fun K => need_of rfl K
      have h64 : (((64 : Nat) : Int) != 64) = false := rfl
      rw [decide_eq_true (by omega), br_true, g1, bnd_some, asT_t, toList2, uncons_c, asSl_s, uncons_c, endl_n, g2, bnd_some, asT_t, toList2, uncons_c, asSl_s, uncons_c, endl_n, h64, br_false, br_false, hw, wrap_c8]
      obtain ⟨z1, z2, z3, z4⟩ := or_zero (c8 ((j + 1 : Nat) : Int))
      have fin := l14 L k hL hN hx hA hB n (j + 1) σ2 (by omega) (by omega) ((hs.trans s1).trans s2)
      have hz : zsec = fsec 0 := rfl
      have h0 : (((0 : UInt8).toNat : Nat) : Int) = 0 := rfl
      have hne : ((((c8 ((j + 1 : Nat) : Int)).toNat : Nat) : Int) != 0) = true := by rw [hc0]; simp; omega
      have b0 : ((0 : Int) != 0) = false := rfl
      have bb : ∀ y : Int, (y != y) = false := fun y => by simp
      cases ht : x.testBit j with
      | true =>
        rw [ht] at h1' h2
        rw [if_pos rfl] at h1'
        rw [if_neg (by simp)] at h2
        rw [show look (j : Nat) (fsec (c8 ((j + 1 : Nat) : Int))) [] = fsec (c8 ((j + 1 : Nat) : Int)) from rfl] at h1'
        rw [show look (j : Nat) zsec [] = fsec 0 from rfl] at h2
        obtain ⟨p1, p2⟩ := key _ _ h1' h2
        simp only [hin, adr_some, p1, p2, asI_i, h0, z1, z3, bb, br_false, b0, hbit, ht, hne]
        rw [need_of (by simp), show (!true == true) = false from rfl, br_false]
        exact fin
      | false =>
        rw [ht] at h1' h2
        rw [if_neg (by simp)] at h1'
        rw [if_pos (by simp)] at h2
        rw [show look (j : Nat) (fsec (c8 ((j + 1 : Nat) : Int))) [] = fsec (c8 ((j + 1 : Nat) : Int)) from rfl] at h2
        rw [show look (j : Nat) zsec [] = fsec 0 from rfl] at h1'
        obtain ⟨p1, p2⟩ := key _ _ h1' h2
        simp only [hin, adr_some, p1, p2, asI_i, h0, z2, z4, bb, br_false, b0, hbit, ht]
        rw [need_of (by simp), show (!false == false) = false from rfl, br_false]
        exact fin

theorem l6 (L k : Nat) (hL : 200 < L) {a b N x : Nat} {σ0 : St} (hN : N ≤ 60) (hx : x < 18446744073709551616) : ∀ (n i : Nat) (σ : St) (Fa Fb : List Nat), i ≤ N → N - i < n → Disk σ a Fa (List.replicate N zsec) (wl i) → Disk σ b Fb (List.replicate N zsec) (wl i) → Owns σ0 σ [Fa, Fb] →
    ∃ σ9, lpAt Tryd.prog env L (k + 4) 4 P6 [] n [(1, .int .u64 (x : Nat)), (5, .int .i64 (N : Nat)), (6, ptr a), (7, ptr b), (24, .int .i64 (N : Nat)), (25, .int .i64 i)] σ = some (.bool true, σ9)
  | 0, i, σ, _, _, _, h, _, _, _ => by omega
  | n + 1, i, σ, Fa, Fb, hi, h, hA, hB, hO => by
    rw [f4_l6]
    by_cases hie : i = N
    · subst hie
      obtain ⟨Fa1, σ1, g1, hA1, hT1⟩ := crash_spec L (k + 1) hA (by rw [wl_len]; omega) (by rw [wl_len]; omega) (by rw [List.length_replicate]; exact wl_in i i (Nat.le_refl _)) (x : Int)
      have hO1 := hO.turned 0 rfl hT1
      have hB1 := hB.same hT1.same (hO.off 1 0 (by omega) rfl rfl)
      obtain ⟨Fb2, σ2, g2, hB2, hT2⟩ := crash_spec L (k + 1) hB1 (by rw [wl_len]; omega) (by rw [wl_len]; omega) (by rw [List.length_replicate]; exact wl_in i i (Nat.le_refl _)) ((18446744073709551615 - x : Nat) : Int)
      have hA2 := hA1.same hT2.same (hO1.off 0 1 (by omega) rfl rfl)
      rw [decide_eq_false (by omega), br_false, g1, bnd_some, asT_t, toList0, endl_n, xor_all x hx, g2, bnd_some, asT_t, toList0, endl_n]
      exact l14 L k hL hN hx hA2 hB2 L 0 σ2 (by omega) (by omega) (Same.refl _ _)
    · have hw : IntKind.wrap .i64 ((i : Int) + 1) = ((i + 1 : Nat) : Int) := by rw [wrap_in _ (by omega) (by omega)]; omega
      obtain ⟨t1, σ1, g1, h1, ht1, ht1', s1⟩ := full_spec L (k + 3) (by omega) σ (c8 ((i + 1 : Nat) : Int))
      have hO1 := hO.idle s1
      obtain ⟨Fa2, σ2, g2, hA2, hT2⟩ := write_ok L (k + 1) (hA.idle s1) (z := 1) (b := fsec (c8 ((i + 1 : Nat) : Int))) (Bytes.own h1 ht1') (by rw [wl_len]; omega) (i := i) (by omega) (by rw [List.length_replicate]; omega)
      have hO2 := hO1.turned 0 rfl hT2
      have hB2 := (hB.idle s1).same hT2.same (hO1.off 1 0 (by omega) rfl rfl)
      obtain ⟨t3, σ3, g3, h3, ht3, ht3', s3⟩ := full_spec L (k + 3) (by omega) σ2 (c8 ((i + 1 : Nat) : Int))
      have hO3 := hO2.idle s3
      obtain ⟨Fb4, σ4, g4, hB4, hT4⟩ := write_ok L (k + 1) (hB2.idle s3) (z := 1) (b := fsec (c8 ((i + 1 : Nat) : Int))) (Bytes.own h3 ht3') (by rw [wl_len]; omega) (i := i) (by omega) (by rw [List.length_replicate]; omega)
      have hO4 := hO3.turned 1 rfl hT4
      have hA4 := (hA2.idle s3).same hT4.same (hO3.off 0 1 (by omega) rfl rfl)
      rw [decide_eq_true (by omega), br_true, hw, wrap_c8, g1, bnd_some, asSl_s, g2, bnd_some, eqNil_nil, not_true, br_false, g3, bnd_some, asSl_s, g4, bnd_some, eqNil_nil, not_true, br_false]
      rw [← wl_succ] at hA4 hB4
      exact l6 L k hL hN hx n (i + 1) σ4 Fa2 Fb4 (by omega) (by omega) hA4 hB4 hO4

theorem halves_holds (L k : Nat) (hL : 400 < L) (σ : St) (a0 a1 : Int) (h0 : 0 ≤ a0 ∧ a0 ≤ 255) (h1 : 0 ≤ a1 ∧ a1 ≤ 18446744073709551615) :
    ∃ σ9, evCall Tryd.prog env L (k + 5) 4 [.int .u8 a0, .int .u64 a1] σ = some (.bool true, σ9) := by
  rw [f4_eq]
  obtain ⟨σ1, g1, s1⟩ := awake_spec L k (by omega) σ
  obtain ⟨m, rfl⟩ := Int.eq_ofNat_of_zero_le h0.1
  obtain ⟨x, rfl⟩ := Int.eq_ofNat_of_zero_le h1.1
  have hN : IntKind.wrap .i64 (1 + Int.tmod (IntKind.wrap .i64 (m : Int)) 60) = ((1 + m % 60 : Nat) : Int) := by
    rw [wrap_in (m : Int) (by omega) (by omega), show Int.tmod (m : Int) 60 = ((m % 60 : Nat) : Int) from rfl, wrap_in _ (by omega) (by omega)]; omega
  rw [g1, bnd_some, asB_b, not_true, br_false, hN]
  obtain ⟨N, hNN⟩ : ∃ N, N = 1 + m % 60 := ⟨_, rfl⟩
  rw [← hNN]
  have hN1 : N ≤ 60 := by omega
  have hmx : (mx 0 (mn ((N : Nat) : Int) 1024)).toNat = N := by unfold mx mn; repeat' split <;> omega
  obtain ⟨a, Fa, σ2, g2, hA2, s2, hF2⟩ := new_spec L (k + 3) σ1 (N : Nat)
  obtain ⟨b, Fb, σ3, g3, hB3, s3, hF3⟩ := new_spec L (k + 3) σ2 (N : Nat)
  rw [hmx] at hA2 hB3
  have hO1 : Owns σ σ1 [] := ⟨⟨s1.1, fun q hq => s1.2 q hq (by simp)⟩, by simp, by simp⟩
  have hO2 : Owns σ σ2 [Fa] := hO1.more s2 (fun q hq => ⟨hF2 q hq, hA2.lt q hq⟩)
  have hO3 : Owns σ σ3 [Fb, Fa] := hO2.more s3 (fun q hq => ⟨hF3 q hq, hB3.lt q hq⟩)
  rw [g2, bnd_some, asP_p, g3, bnd_some, asP_p]
  exact l6 L k (by omega) hN1 (by omega) L 0 σ3 Fa Fb (by omega) (by omega) (hA2.idle s3) hB3 (hO3.pick [1, 0] (by decide))

end Go.AM.Dk
