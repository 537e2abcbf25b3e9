/-
  Texts laid together: BkA, BkB, BkC, BkD, BkE, BkF, BkG, BkH, BkI, BkJ, BkK, BkP, BkL, BkM, BkO.
-/
import Derived.Test.YtnihjgamfnabnaaGreatDoorAm13g
import Derived.Test.YtnihjgamfnabnaaGreatDoorEqBk
set_option linter.unusedVariables false
set_option linter.unusedSimpArgs false
set_option linter.unusedSectionVars false
namespace Go.AM.Bk
open Go.Proofs
abbrev W32 := BitVec 32
theorem wrap_u32 (n : Nat) (h : n < 4294967296) : IntKind.wrap .u32 (n : Int) = n := by
  show ((n : Int) % 4294967296) = n
  omega
theorem ofInt_u (c : W32) : BitVec.ofInt 32 (c.toNat : Int) = c := BitVec.eq_of_toNat_eq (by simp)
theorem and_u (c d : W32) : ibit .and .u32 c.toNat d.toNat = ((c &&& d).toNat : Int) := by
  show IntKind.wrap .u32 (((BitVec.ofInt 32 (c.toNat : Int)) &&& (BitVec.ofInt 32 (d.toNat : Int))).toNat : Int) = _
  rw [ofInt_u, ofInt_u, wrap_u32 _ (BitVec.isLt _)]
theorem xor_u (c d : W32) : ibit .xor .u32 c.toNat d.toNat = ((c ^^^ d).toNat : Int) := by
  show IntKind.wrap .u32 (((BitVec.ofInt 32 (c.toNat : Int)) ^^^ (BitVec.ofInt 32 (d.toNat : Int))).toNat : Int) = _
  rw [ofInt_u, ofInt_u, wrap_u32 _ (BitVec.isLt _)]
def tblN : List Nat := [0, 274646895, 549293790, 820201905, 1098587580, 1361435347, 1640403810, 1905808397, 2197175160, 2460548119, 2722870694, 2987750089, 3280807620, 3553878443, 3811616794, 4084100981]
def half (c : W32) : W32 := (c >>> 4) ^^^ BitVec.ofNat 32 (tblN.getD (c &&& 15#32).toNat 0)
theorem half_spec (L k : Nat) (σ : St) (c : W32) : ∃ σ', evCall Tryz.prog env L (k + 1) 147 [.int .u32 c.toNat] σ = some (.int .u32 (half c).toNat, σ') ∧ Same σ σ' [] := by
  rw [f147_eq]
  have ha : ibit .and .u32 (c.toNat : Int) (15 : Int) = ((c &&& 15#32).toNat : Int) := and_u c 15#32
  have hlt : (c &&& 15#32).toNat < 16 := by
    rw [BitVec.toNat_and]
    exact Nat.lt_of_le_of_lt Nat.and_le_right (by decide)
  have hf : Int.fdiv (c.toNat : Int) 16 = ((c >>> 4).toNat : Int) := by
    rw [BitVec.toNat_ushiftRight, Nat.shiftRight_eq_div_pow]
    rw [Int.fdiv_eq_ediv_of_nonneg _ (by omega)]
    rfl
  rw [ha, hf]
  generalize hi : (c &&& 15#32).toNat = i at hlt
  obtain ⟨σ1, hput, ht1, s1, n1⟩ := tmp_put σ (List.replicate 16 (Value.int IntKind.u32 0)) (tblN.map fun (n : Nat) => Value.int IntKind.u32 (n : Int)) 236 rfl rfl
  have hget : (tblN.map fun (n : Nat) => Value.int IntKind.u32 (n : Int))[i]? = some (Value.int .u32 (BitVec.ofNat 32 (tblN.getD i 0)).toNat) := by
    have : ∀ i, i < 16 → (tblN.map fun (n : Nat) => Value.int IntKind.u32 (n : Int))[i]? = some (Value.int .u32 (BitVec.ofNat 32 (tblN.getD i 0)).toNat) := by
      intro i hi
      match i, hi with
      | 0, _ => rfl
      | 1, _ => rfl
      | 2, _ => rfl
      | 3, _ => rfl
      | 4, _ => rfl
      | 5, _ => rfl
      | 6, _ => rfl
      | 7, _ => rfl
      | 8, _ => rfl
      | 9, _ => rfl
      | 10, _ => rfl
      | 11, _ => rfl
      | 12, _ => rfl
      | 13, _ => rfl
      | 14, _ => rfl
      | 15, _ => rfl
      | i + 16, h => omega
    exact this i hlt
  refine ⟨σ1, (hput _).trans ?_, s1⟩
  rw [need_of (by simp [inRange]; omega), ld_at ht1 _ _ (by rw [show 0 + Int.toNat (i : Int) * 1 = i by omega]; exact hget), asI_i]
  unfold half
  rw [hi, xor_u]
def step8 (c : W32) (x : UInt8) : W32 := half (half (c ^^^ BitVec.ofNat 32 x.toNat))
def crc (l : List UInt8) : W32 := BitVec.ofNat 32 4294967295 ^^^ l.foldl step8 (BitVec.ofNat 32 4294967295)
theorem of_loop (L k : Nat) {σs : St} {ad : Option Addr} {z : Nat} {l : List UInt8} {F : List Nat} (h : Bytes σs ad l F) (hl : l.length ≤ 100000) : ∀ (n i : Nat) (c : W32) (σ : St), i ≤ l.length → l.length - i < n → Same σs σ [] →
    ∃ σ', lpAt Tryz.prog env L (k + 1) 145 [true, true, false, true] [] n [(3, .int .u32 c.toNat), (6, .slice ad l.length z), (7, .int .i64 l.length), (8, .int .i64 i)] σ = some (.int .u32 (BitVec.ofNat 32 4294967295 ^^^ (l.drop i).foldl step8 c).toNat, σ') ∧ Same σs σ' []
  | 0, i, c, σ, _, h, _ => by omega
  | n + 1, i, c, σ, hi, hn, hs => by
    rw [f145_l3]
    by_cases hie : i = l.length
    · rw [decide_eq_false (by omega), br_false]
      refine ⟨σ, ?_, hs⟩
      rw [hie, List.drop_length, List.foldl_nil, show (4294967295 : Int) = ((BitVec.ofNat 32 4294967295).toNat : Int) from rfl, xor_u]
    · have hget : l[i]? = some l[i] := List.getElem?_eq_getElem (by omega)
      obtain ⟨r, o, e, hat⟩ := (h.same hs (by simp)).at hget
      have hd : l.drop i = l[i] :: l.drop (i + 1) := List.drop_eq_getElem_cons (by omega)
      rw [hd, List.foldl_cons]
      generalize l[i] = b at hat
      have hb := b.toNat_lt
      have hx : ibit .xor .u32 (c.toNat : Int) (IntKind.wrap .u32 (b.toNat : Int)) = ((c ^^^ BitVec.ofNat 32 b.toNat).toNat : Int) := by
        rw [wrap_u32 _ (by omega), ← xor_u, BitVec.toNat_ofNat, Nat.mod_eq_of_lt (by omega)]
      obtain ⟨σ1, g1, s1⟩ := half_spec L k σ (c ^^^ BitVec.ofNat 32 b.toNat)
      obtain ⟨σ2, g2, s2⟩ := half_spec L k σ1 (half (c ^^^ BitVec.ofNat 32 b.toNat))
      rw [decide_eq_true (by omega), br_true, need_of (by simp [inRange]; omega), e, adr_some, hat _ (by omega), asI_i, hx, g1, bnd_some, asI_i, g2, bnd_some, asI_i, ← e, show IntKind.wrap .i64 ((i : Int) + 1) = ((i + 1 : Nat) : Int) by rw [wrap_in _ (by omega) (by omega)]; omega]
      exact of_loop L k h hl n (i + 1) _ σ2 (by omega) (by omega) (hs.trans (s1.trans s2))
theorem of_spec (L k : Nat) (hL : 100000 < L) {σ : St} {ad : Option Addr} {z : Nat} {l : List UInt8} {F : List Nat} (h : Bytes σ ad l F) (hl : l.length ≤ 100000) :
    ∃ σ', evCall Tryz.prog env L (k + 2) 145 [.slice ad l.length z] σ = some (.int .u32 (crc l).toNat, σ') ∧ Same σ σ' [] := by
  rw [f145_eq]
  exact of_loop L k h hl L 0 (BitVec.ofNat 32 4294967295) σ (by omega) (by omega) (Same.refl _ _)
end Go.AM.Bk

namespace Go.AM.Bk
open Go.Proofs
def bstep (c : W32) : W32 := (c >>> 1) ^^^ (if c.getLsbD 0 then 2197175160#32 else 0#32)
theorem bstep_xor (a b : W32) : bstep (a ^^^ b) = bstep a ^^^ bstep b := by
  unfold bstep
  rw [BitVec.ushiftRight_xor_distrib, BitVec.getLsbD_xor]
  apply BitVec.eq_of_getLsbD_eq
  intro i hi
  generalize (2197175160#32 : W32) = p
  cases a.getLsbD 0 <;> cases b.getLsbD 0 <;> simp only [Bool.xor_false, Bool.xor_true, Bool.not_true, Bool.not_false, if_true, Bool.false_eq_true, if_false, BitVec.getLsbD_xor, BitVec.getLsbD_zero] <;> cases (a >>> 1).getLsbD i <;> cases (b >>> 1).getLsbD i <;> cases p.getLsbD i <;> rfl
def b4 (c : W32) : W32 := bstep (bstep (bstep (bstep c)))
theorem b4_xor (a b : W32) : b4 (a ^^^ b) = b4 a ^^^ b4 b := by unfold b4; simp only [bstep_xor]
theorem b4_low : ∀ i : Nat, i < 16 → b4 (BitVec.ofNat 32 i) = BitVec.ofNat 32 (tblN.getD i 0) := by decide
theorem b4_high (c : W32) (h : ∀ i, i < 4 → c.getLsbD i = false) : b4 c = c >>> 4 := by
  have s1 : bstep c = c >>> 1 := by unfold bstep; rw [h 0 (by omega)]; simp
  have s2 : bstep (c >>> 1) = c >>> 2 := by
    unfold bstep; rw [BitVec.getLsbD_ushiftRight, h (1 + 0) (by omega), if_neg (by decide), BitVec.xor_zero, ← BitVec.shiftRight_add]
  have s3 : bstep (c >>> 2) = c >>> 3 := by
    unfold bstep; rw [BitVec.getLsbD_ushiftRight, h (2 + 0) (by omega), if_neg (by decide), BitVec.xor_zero, ← BitVec.shiftRight_add]
  have s4 : bstep (c >>> 3) = c >>> 4 := by
    unfold bstep; rw [BitVec.getLsbD_ushiftRight, h (3 + 0) (by omega), if_neg (by decide), BitVec.xor_zero, ← BitVec.shiftRight_add]
  unfold b4; rw [s1, s2, s3, s4]
theorem half_b4 (c : W32) : half c = b4 c := by
  have hsplit : c = (c &&& ~~~15#32) ^^^ (c &&& 15#32) := by
    apply BitVec.eq_of_getLsbD_eq
    intro i hi
    simp only [BitVec.getLsbD_xor, BitVec.getLsbD_and, BitVec.getLsbD_not]
    cases c.getLsbD i <;> cases (15#32 : W32).getLsbD i <;> simp [hi]
  have hhi : b4 (c &&& ~~~15#32) = c >>> 4 := by
    rw [b4_high _ (fun i hi => by
      have : (15#32 : W32).getLsbD i = true := by
        have : ∀ i, i < 4 → (15#32 : W32).getLsbD i = true := by decide
        exact this i hi
      rw [BitVec.getLsbD_and, BitVec.getLsbD_not, this]; simp)]
    apply BitVec.eq_of_getLsbD_eq
    intro i hi
    rw [BitVec.getLsbD_ushiftRight, BitVec.getLsbD_ushiftRight, BitVec.getLsbD_and, BitVec.getLsbD_not]
    by_cases h28 : 4 + i < 32
    · have : (15#32 : W32).getLsbD (4 + i) = false := by
        have : ∀ i, i < 28 → (15#32 : W32).getLsbD (4 + i) = false := by decide
        exact this i (by omega)
      rw [this, decide_eq_true h28]; simp
    · simp [BitVec.getLsbD_of_ge c (4 + i) (by omega)]
  have hlo : b4 (c &&& 15#32) = BitVec.ofNat 32 (tblN.getD (c &&& 15#32).toNat 0) := by
    have hlt : (c &&& 15#32).toNat < 16 := by
      rw [BitVec.toNat_and]
      exact Nat.lt_of_le_of_lt Nat.and_le_right (by decide)
    have h := b4_low _ hlt
    rwa [BitVec.ofNat_toNat, BitVec.setWidth_eq] at h
  conv => rhs; rw [hsplit, b4_xor, hhi, hlo]
  rfl
end Go.AM.Bk

namespace Go.AM.Bk
open Go.Proofs
def bsteps : Nat → W32 → W32
  | 0, c => c
  | n + 1, c => bsteps n (bstep c)
theorem bsteps8 (c : W32) : bsteps 8 c = half (half c) := by rw [half_b4, half_b4]; rfl
theorem bstep_int (c : W32) : (if Int.tmod (c.toNat : Int) 2 == 1 then ibit .xor .u32 (IntKind.wrap .u32 (Int.tdiv (c.toNat : Int) 2)) 2197175160 else IntKind.wrap .u32 (Int.tdiv (c.toNat : Int) 2)) = ((bstep c).toNat : Int) := by
  have hlt := c.isLt
  have hd : Int.tdiv (c.toNat : Int) 2 = ((c >>> 1).toNat : Int) := by
    rw [BitVec.toNat_ushiftRight, Nat.shiftRight_eq_div_pow, Int.tdiv_eq_ediv_of_nonneg (by omega)]; rfl
  have hw : IntKind.wrap .u32 (Int.tdiv (c.toNat : Int) 2) = ((c >>> 1).toNat : Int) := by rw [hd, wrap_u32 _ (BitVec.isLt _)]
  have hbit : c.getLsbD 0 = decide (c.toNat % 2 = 1) := by
    rw [BitVec.getLsbD, Nat.testBit_zero]
  have hm : (Int.tmod (c.toNat : Int) 2 == 1) = c.getLsbD 0 := by
    rw [hbit, Int.tmod_eq_emod_of_nonneg (by omega)]
    by_cases h : c.toNat % 2 = 1
    · rw [decide_eq_true h, beq_iff_eq]; omega
    · rw [decide_eq_false h, beq_eq_false_iff_ne]; omega
  rw [hm, hw]
  unfold bstep
  cases c.getLsbD 0 with
  | true => rw [if_pos rfl, if_pos rfl, show (2197175160 : Int) = ((2197175160#32 : W32).toNat : Int) from rfl, xor_u]
  | false => rw [if_neg (by decide), if_neg (by decide), BitVec.xor_zero]
theorem bits_loop (L k m0 : Nat) (s : ByteArray) (i : Int) (σ : St) : ∀ (n j : Nat) (c : W32), j ≤ 8 → 8 - j < n →
    lpAt Tryz.prog env L k 129 [true, true, false, true, false, true, false, true, true] [m0] n [(0, .string s), (3, .int .u32 c.toNat), (4, .int .i64 i), (5, .int .i64 j)] σ =
      lpAt Tryz.prog env L k 129 [true, true, false, true] [] m0 [(0, .string s), (3, .int .u32 (bsteps (8 - j) c).toNat), (4, .int .i64 (IntKind.wrap .i64 (i + 1)))] σ
  | 0, j, c, _, h => by omega
  | n + 1, j, c, hj, h => by
    rw [f129_l7]
    by_cases hj8 : j = 8
    · subst hj8
      rw [decide_eq_false (by omega), br_false]; rfl
    · have hb := bstep_int c
      have hw : IntKind.wrap .i64 ((j : Int) + 1) = ((j + 1 : Nat) : Int) := by rw [wrap_in _ (by omega) (by omega)]; omega
      have h8 : 8 - j = (8 - (j + 1)) + 1 := by omega
      rw [decide_eq_true (by omega), br_true, hw, h8]
      cases hm : (Int.tmod (c.toNat : Int) 2 == 1) with
      | true =>
        rw [hm, if_pos rfl] at hb
        rw [br_true, hb]
        exact bits_loop L k m0 s i σ n (j + 1) (bstep c) (by omega) (by omega)
      | false =>
        rw [hm, if_neg (by decide)] at hb
        rw [br_false, hb]
        exact bits_loop L k m0 s i σ n (j + 1) (bstep c) (by omega) (by omega)
theorem rof_loop (L k : Nat) (hL : 10 < L) (s : ByteArray) (hl : s.size ≤ 100000) (σ : St) : ∀ (n i : Nat) (c : W32), i ≤ s.size → s.size - i < n →
    lpAt Tryz.prog env L k 129 [true, true, false, true] [] n [(0, .string s), (3, .int .u32 c.toNat), (4, .int .i64 i)] σ = some (.int .u32 (BitVec.ofNat 32 4294967295 ^^^ (s.data.toList.drop i).foldl step8 c).toNat, σ)
  | 0, i, c, _, h => by omega
  | n + 1, i, c, hi, hn => by
    have hsz : s.data.toList.length = s.size := by rw [Array.length_toList]; rfl
    rw [f129_l3]
    by_cases hie : i = s.size
    · rw [decide_eq_false (by omega), br_false, hie, ← hsz, List.drop_length, List.foldl_nil]
      have hlt := c.isLt
      have hx : (BitVec.ofNat 32 4294967295 ^^^ c).toNat = 4294967295 - c.toNat := by
        rw [show BitVec.ofNat 32 4294967295 = BitVec.allOnes 32 from rfl, BitVec.allOnes_xor, BitVec.toNat_not]
      rw [hx, show (4294967295 : Int) - (c.toNat : Int) = ((4294967295 - c.toNat : Nat) : Int) by omega, wrap_u32 _ (by omega)]
    · have hlt : i < s.data.toList.length := by omega
      have hd : s.data.toList.drop i = s.data.toList[i] :: s.data.toList.drop (i + 1) := List.drop_eq_getElem_cons hlt
      have hg : List.getD s.data.toList (Int.toNat (i : Int)) 0 = s.data.toList[i] := by
        rw [Int.toNat_natCast, List.getD_eq_getElem?_getD, List.getElem?_eq_getElem hlt]; rfl
      rw [hd, List.foldl_cons]
      show AM.br _ (AM.need _ (lpAt _ _ _ _ _ _ _ _ [_, (3, .int .u32 (ibit .xor .u32 (c.toNat : Int) (IntKind.wrap .u32 ((List.getD s.data.toList (Int.toNat (i : Int)) 0).toNat : Int)))), _, _] _)) _ = _
      rw [hg]
      generalize s.data.toList[i] = b
      have hb := b.toNat_lt
      have hx : ibit .xor .u32 (c.toNat : Int) (IntKind.wrap .u32 (b.toNat : Int)) = ((c ^^^ BitVec.ofNat 32 b.toNat).toNat : Int) := by
        rw [wrap_u32 _ (by omega), ← xor_u, BitVec.toNat_ofNat, Nat.mod_eq_of_lt (by omega)]
      have hbl := bits_loop L k n s i σ L 0 (c ^^^ BitVec.ofNat 32 b.toNat) (by omega) (by omega)
      rw [decide_eq_true (by omega), br_true, need_of (by simp [inRange]; omega), hx]
      refine Eq.trans hbl ?_
      rw [show IntKind.wrap .i64 ((i : Int) + 1) = ((i + 1 : Nat) : Int) by rw [wrap_in _ (by omega) (by omega)]; omega, bsteps8]
      exact rof_loop L k hL s hl σ n (i + 1) _ (by omega) (by omega)
theorem rof_spec (L k : Nat) (hL : 100000 < L) (s : ByteArray) (hl : s.size ≤ 100000) (σ : St) :
    evCall Tryz.prog env L (k + 1) 129 [.string s] σ = some (.int .u32 (crc s.data.toList).toNat, σ) := by
  rw [f129_eq]
  exact rof_loop L k (by omega) s hl σ L 0 (BitVec.ofNat 32 4294967295) (by omega) (by omega)
end Go.AM.Bk

namespace Go.AM.Bk
open Go.Proofs
def tail4 (l : List UInt8) : List UInt8 := [UInt8.ofNat (crc l).toNat, UInt8.ofNat ((crc l).toNat / 256), UInt8.ofNat ((crc l).toNat / 65536), UInt8.ofNat ((crc l).toNat / 16777216)]
theorem tail4_len (l : List UInt8) : (tail4 l).length = 4 := rfl
theorem byte_of (n : Nat) : IntKind.wrap .u8 (n : Int) = ((UInt8.ofNat n).toNat : Int) := by
  show (n : Int) % 256 = _
  rw [UInt8.toNat_ofNat']
  rfl
theorem fdiv_nat (n m : Nat) : Int.fdiv (n : Int) (m : Int) = ((n / m : Nat) : Int) := by
  rw [Int.fdiv_eq_ediv_of_nonneg _ (by omega)]; rfl
theorem tail_spec (L k : Nat) (hL : 100000 < L) {σ : St} {ad : Option Addr} {z : Nat} {l : List UInt8} {F : List Nat} (h : Bytes σ ad l F) (hl : l.length ≤ 100000) :
    ∃ q σ', evCall Tryz.prog env L (k + 3) 139 [.slice ad l.length z] σ = some (.slice (some ⟨q, 0, none⟩) 4 1, σ') ∧ σ'.get q = some (.own (by8 (tail4 l)) 5) ∧ σ.next ≤ q ∧ q < σ'.next ∧ Same σ σ' [] := by
  obtain ⟨σ1, g1, s1⟩ := of_spec L k hL (z := z) h hl
  rw [f139_eq, g1, bnd_some, asI_i, need_true, need_true, need_true]
  have e1 : Int.fdiv ((crc l).toNat : Int) 256 = (((crc l).toNat / 256 : Nat) : Int) := fdiv_nat _ 256
  have e2 : Int.fdiv ((crc l).toNat : Int) 65536 = (((crc l).toNat / 65536 : Nat) : Int) := fdiv_nat _ 65536
  have e3 : Int.fdiv ((crc l).toNat : Int) 16777216 = (((crc l).toNat / 16777216 : Nat) : Int) := fdiv_nat _ 16777216
  rw [e1, e2, e3, byte_of, byte_of, byte_of, byte_of]
  exact ⟨σ1.next, _, rfl, by rw [get_new_same]; rfl, s1.1, by simp, s1.trans (Same.new _ _ _)⟩
end Go.AM.Bk

namespace Go.AM.Bk
open Go.Proofs
theorem equal_loop (L k : Nat) {σ : St} {ad1 ad2 : Option Addr} {z1 z2 : Nat} {l m : List UInt8} {F G : List Nat} (h1 : Bytes σ ad1 l F) (h2 : Bytes σ ad2 m G) (hlm : l.length = m.length) (hl : l.length ≤ 100000) : ∀ (n i : Nat), i ≤ l.length → l.length - i < n →
    lpAt Tryz.prog env L k 138 [true, true, false, true] [] n [(0, .slice ad1 l.length z1), (1, .slice ad2 m.length z2), (12, .int .i64 l.length), (13, .int .i64 i)] σ = some (.bool (decide (l.drop i = m.drop i)), σ)
  | 0, i, _, h => by omega
  | n + 1, i, hi, h => by
    rw [f138_l4]
    by_cases hie : i = l.length
    · rw [decide_eq_false (by omega), br_false, hie, List.drop_length, hlm, List.drop_length]
      rfl
    · have g1 : l[i]? = some l[i] := List.getElem?_eq_getElem (by omega)
      have g2 : m[i]? = some m[i] := List.getElem?_eq_getElem (by omega)
      obtain ⟨r1, o1, e1, a1⟩ := h1.at g1
      obtain ⟨r2, o2, e2, a2⟩ := h2.at g2
      have d1 : l.drop i = l[i] :: l.drop (i + 1) := List.drop_eq_getElem_cons (by omega)
      have d2 : m.drop i = m[i] :: m.drop (i + 1) := List.drop_eq_getElem_cons (by omega)
      rw [d1, d2]
      generalize l[i] = x at a1
      generalize m[i] = y at a2
      rw [decide_eq_true (by omega), br_true, need_of (by simp [inRange]; omega), e1, adr_some, a1 _ (by omega), asI_i, need_of (by simp [inRange]; omega), e2, adr_some, a2 _ (by omega), asI_i, ← e1, ← e2, show IntKind.wrap .i64 ((i : Int) + 1) = ((i + 1 : Nat) : Int) by rw [wrap_in _ (by omega) (by omega)]; omega]
      by_cases hxy : x = y
      · subst hxy
        rw [show ((x.toNat : Int) != (x.toNat : Int)) = false by simp, br_false, equal_loop L k h1 h2 hlm hl n (i + 1) (by omega) (by omega)]
        congr 3
        simp
      · have hne : (x.toNat : Int) ≠ (y.toNat : Int) := fun e => hxy (UInt8.toNat_inj.1 (by omega))
        rw [show ((x.toNat : Int) != (y.toNat : Int)) = true by simpa using hne, br_true, decide_eq_false (fun e => hxy (List.cons.inj e).1)]
theorem equal_spec (L k : Nat) (hL : 100000 < L) {σ : St} {ad1 ad2 : Option Addr} {z1 z2 : Nat} {l m : List UInt8} {F G : List Nat} (h1 : Bytes σ ad1 l F) (h2 : Bytes σ ad2 m G) (hl : l.length ≤ 100000) :
    evCall Tryz.prog env L (k + 1) 138 [.slice ad1 l.length z1, .slice ad2 m.length z2] σ = some (.bool (decide (l = m)), σ) := by
  rw [f138_eq]
  by_cases hlm : l.length = m.length
  · rw [show ((l.length : Int) != (m.length : Int)) = false by simp [hlm], br_false]
    exact equal_loop L k h1 h2 hlm hl L 0 (by omega) (by omega)
  · have hne : (l.length : Int) ≠ (m.length : Int) := by omega
    rw [show ((l.length : Int) != (m.length : Int)) = true by simpa using hne, br_true, decide_eq_false (fun e => hlm (by rw [e]))]
theorem by8_flat : ∀ l : List UInt8, by8 l = l.flatMap fun b => [Value.int .u8 (b.toNat : Int)]
  | [] => rfl
  | b :: l => by rw [List.flatMap_cons, ← by8_flat l]; rfl
theorem clone_spec (L k : Nat) {σ : St} {ad : Option Addr} {z : Nat} {l : List UInt8} {F : List Nat} (h : Bytes σ ad l F) (hl : l.length ≤ 100000) :
    ∃ ad' z' F' σ', evCall Tryz.prog env L (k + 1) 140 [.slice ad l.length z] σ = some (.slice ad' l.length z', σ') ∧ Bytes σ' ad' l F' ∧ Same σ σ' [] ∧ (∀ q ∈ F', σ.next ≤ q) ∧ (z' = 0 ∨ z' = 1) := by
  rw [f140_eq]
  cases ad with
  | none =>
    have hnil : l = [] := by
      rcases h.is with e | ⟨r, o, vs, e, _⟩
      · exact e
      · cases e
    subst hnil
    rw [show Option.isNone (none : Option Addr) = true from rfl, br_true]
    exact ⟨none, 0, [], σ, rfl, ⟨.inl rfl, by simp⟩, Same.refl _ _, by simp, .inl rfl⟩
  | some a =>
    rw [show Option.isNone (some a) = false from rfl, br_false]
    have s1 : Same σ (σ.new (.own [] 5)) [] := Same.new _ _ _
    have g1 : (σ.new (.own [] 5)).get σ.next = some (.own [] 5) := get_new_same _ _
    have n1 : (σ.new (.own [] 5)).next = σ.next + 1 := rfl
    generalize σ.new (.own [] 5) = σ1 at s1 g1 n1
    have h1 := h.same s1 (by simp)
    rw [h1.row _ (by omega)]
    have hR : Row (fun b : UInt8 => [Value.int .u8 (b.toNat : Int)]) 1 5 σ1 (some ⟨σ.next, 0, none⟩) 1 [σ.next] ([] : List UInt8) := ⟨by simp; omega, .inr ⟨σ.next, [], rfl, rfl, rfl, by simpa using g1⟩⟩
    obtain ⟨ad', z', qs, σ2, g2, hR2, s2, hq⟩ := grow_row (by_ := 1) hR (fun _ => rfl) (fun _ => rfl) (by omega) l (by8 l) (by8_flat l) l.length rfl (by simp; unfold roomTop; omega) (by simp; unfold sizeTop; omega)
    simp only [List.length_nil, Nat.zero_add, List.nil_append] at g2 hR2
    rw [g2]
    refine ⟨ad', z', qs, σ2, rfl, ⟨?_, hR2.lt⟩, s1.fresh s2 (fun x hx => .inr (by simp at hx; omega)), fun q hqq => by
      rcases hq q hqq with h | h
      · simp at h; omega
      · omega, hR2.z⟩
    rcases hR2.is with ⟨_, e2, _⟩ | ⟨q, rest, e1, e2, _, e4⟩
    · exact .inl e2
    · refine .inr ⟨q, 0, _, e2, by simp [St.cells, e4, Blk.cells]; rfl, ?_, ?_, by rw [e1]; simp⟩
      · rw [← by8_flat, List.length_append, by8_len]; omega
      · rw [← by8_flat, List.drop_zero, ← by8_len l, List.take_left]
end Go.AM.Bk

namespace Go.AM.Bk
open Go.Proofs
theorem Bytes.sub {σ : St} {ad : Option Addr} {l : List UInt8} {F : List Nat} (h : Bytes σ ad l F) (i n : Nat) (hin : i + n ≤ l.length) : Bytes σ (subA ad i) ((l.drop i).take n) F := by
  refine ⟨?_, h.lt⟩
  have hlen : ((l.drop i).take n).length = n := by rw [List.length_take, List.length_drop]; omega
  rcases h.is with e | ⟨r, o, vs, e1, e2, e3, e4, e5⟩
  · subst e; exact .inl (by simp)
  · refine .inr ⟨r, o + i, vs, by rw [e1]; rfl, e2, by omega, ?_, e5⟩
    rw [hlen, ← by8_take, ← by8_drop, ← e4, List.drop_take, List.drop_drop, List.take_take, Nat.min_eq_left (by omega)]
def opened (l : List UInt8) : Option (List UInt8) := if 4 ≤ l.length ∧ tail4 (l.take (l.length - 4)) = l.drop (l.length - 4) then some (l.take (l.length - 4)) else none
theorem open_spec (L k : Nat) (hL : 100000 < L) {σ : St} {ad : Option Addr} {z : Nat} (hz : z = 0 ∨ z = 1) {l : List UInt8} {F : List Nat} (h : Bytes σ ad l F) (hl : l.length ≤ 100000) :
    ∃ σ', Same σ σ' [] ∧ ((∃ b ad' z' F', opened l = some b ∧ evCall Tryz.prog env L (k + 4) 124 [.slice ad l.length z] σ = some (.tuple #[.slice ad' b.length z', .bool true], σ') ∧ Bytes σ' ad' b F' ∧ (∀ q ∈ F', σ.next ≤ q) ∧ (z' = 0 ∨ z' = 1)) ∨
      (opened l = none ∧ evCall Tryz.prog env L (k + 4) 124 [.slice ad l.length z] σ = some (.tuple #[.slice none 0 0, .bool false], σ'))) := by
  rw [f124_eq]
  have hw : IntKind.wrap .i64 ((l.length : Int) - 4) = (l.length : Int) - 4 := wrap_in _ (by omega) (by omega)
  rw [hw]
  unfold opened
  by_cases h4 : 4 ≤ l.length
  · have hn : Int.toNat ((l.length : Int) - 4) = l.length - 4 := by omega
    have hzz : (Nat.beq z 0 || Nat.beq z 1) = true := by rcases hz with e | e <;> rw [e] <;> rfl
    have hb := Bytes.sub h 0 (l.length - 4) (by omega)
    have ht := Bytes.sub h (l.length - 4) 4 (by omega)
    rw [List.drop_zero] at hb
    rw [List.take_of_length_le (by rw [List.length_drop]; omega)] at ht
    have lb : (l.take (l.length - 4)).length = l.length - 4 := by rw [List.length_take]; omega
    have lt : (l.drop (l.length - 4)).length = 4 := by rw [List.length_drop]; omega
    obtain ⟨q, σ1, g1, gq, hq, hq2, s1⟩ := tail_spec L k hL (z := z) hb (by omega)
    rw [lb] at g1
    have e1 := equal_spec L (k + 2) hL (z1 := 1) (z2 := z) (Bytes.own gq hq2) (ht.same s1 (by simp)) (by rw [tail4_len]; omega)
    rw [tail4_len, lt] at e1
    rw [decide_eq_false (by omega), br_false, need_of hzz, need_of (by simp [inRange]; omega), hn, Nat.sub_zero, g1, bnd_some, asSl_s, need_of hzz, need_of (by simp [inRange]; omega), Nat.mul_one, show l.length - (l.length - 4) = 4 by omega, e1, bnd_some, asB_b]
    by_cases he : tail4 (l.take (l.length - 4)) = l.drop (l.length - 4)
    · obtain ⟨ad', z', F', σ2, g2, hB, s2, hF, hz2⟩ := clone_spec L (k + 2) (z := z) (hb.same s1 (by simp)) (by omega)
      rw [lb] at g2
      rw [decide_eq_true he, not_true, br_false, need_of hzz, need_of (by simp [inRange]; omega), g2, bnd_some, asSl_s, if_pos ⟨h4, he⟩]
      exact ⟨σ2, s1.trans s2, .inl ⟨_, ad', z', F', rfl, by rw [lb], hB, fun q hq => by have := hF q hq; have := s1.1; omega, hz2⟩⟩
    · rw [decide_eq_false he, not_false, br_true, if_neg (fun h => he h.2)]
      exact ⟨σ1, s1, .inr ⟨rfl, rfl⟩⟩
  · rw [decide_eq_true (by omega), br_true, if_neg (fun h => h4 h.1)]
    exact ⟨σ, Same.refl _ _, .inr ⟨rfl, rfl⟩⟩
end Go.AM.Bk

namespace Go.AM.Bk
open Go.Proofs
def c8 (b : UInt8) : List Value := [.int .u8 (b.toNat : Int)]
theorem c8_len (b : UInt8) : (c8 b).length = 1 := rfl
theorem c8_one (b : UInt8) : (c8 b).all oneCell = true := rfl
theorem c8_flat (l : List UInt8) : l.flatMap c8 = by8 l := (by8_flat l).symm
theorem row_bytes {σ : St} {ad : Option Addr} {z : Nat} {qs : List Nat} {l : List UInt8} (h : Row c8 1 5 σ ad z qs l) : Bytes σ ad l qs := by
  refine ⟨?_, h.lt⟩
  rcases h.is with ⟨_, e2, _⟩ | ⟨q, rest, e1, e2, _, e4⟩
  · exact .inl e2
  · refine .inr ⟨q, 0, _, e2, by simp [St.cells, e4, Blk.cells]; rfl, ?_, ?_, by rw [e1]; simp⟩
    · rw [c8_flat, List.length_append, by8_len]; omega
    · rw [c8_flat, List.drop_zero, ← by8_len l, List.take_left]
def enc (n : Nat) : List UInt8 := if h : 128 ≤ n then UInt8.ofNat (n % 128 + 128) :: enc (n / 128) else [UInt8.ofNat n]
termination_by n
theorem enc_big {n : Nat} (h : 128 ≤ n) : enc n = UInt8.ofNat (n % 128 + 128) :: enc (n / 128) := by rw [enc, dif_pos h]
theorem enc_small {n : Nat} (h : ¬ 128 ≤ n) : enc n = [UInt8.ofNat n] := by rw [enc, dif_neg h]
theorem enc_len : ∀ (m n : Nat), n < 128 ^ (m + 1) → 1 ≤ (enc n).length ∧ (enc n).length ≤ m + 1
  | 0, n, h => by rw [enc_small (by simp at h; omega)]; simp
  | m + 1, n, h => by
    by_cases hb : 128 ≤ n
    · have := enc_len m (n / 128) (by rw [Nat.div_lt_iff_lt_mul (by omega), ← Nat.pow_succ]; exact h)
      rw [enc_big hb, List.length_cons]; omega
    · rw [enc_small hb]; simp
def top : Nat := 1152921504606846975
def clip (n : Int) : Nat := (max 0 (min n (top : Int))).toNat
theorem clip_lt (n : Int) : clip n < 128 ^ (8 + 1) := by unfold clip top; have : (128 : Nat) ^ (8 + 1) = 9223372036854775808 := by decide
                                                         omega
theorem clip_mx (n : Int) : mx 0 (mn n 1152921504606846975) = (clip n : Int) := by
  unfold mx mn clip top
  repeat' split
  all_goals omega
theorem clip_of {n : Nat} (h : n ≤ top) : clip (n : Int) = n := by unfold clip; omega
theorem clip_le (n : Int) : clip n ≤ top := by unfold clip; omega
theorem or_all : ((List.range 256).all fun y => decide (ibit .or .u8 (y : Int) 128 = ((y % 128 + 128 : Nat) : Int))) = true := by kernel_rfl
theorem or_byte (x : Nat) : ibit .or .u8 (IntKind.wrap .u8 (x : Int)) 128 = ((UInt8.ofNat (x % 128 + 128)).toNat : Int) := by
  have hw : IntKind.wrap .u8 (x : Int) = ((x % 256 : Nat) : Int) := by show (x : Int) % 256 = _; omega
  have h := of_decide_eq_true (List.all_eq_true.1 or_all (x % 256) (by simp; omega))
  rw [hw, h, UInt8.toNat_ofNat', Nat.mod_eq_of_lt (a := x % 128 + 128) (by omega)]
  omega
theorem plain_byte (x : Nat) : IntKind.wrap .u8 (x : Int) = ((UInt8.ofNat x).toNat : Int) := byte_of x
theorem push8 {σ : St} {ad : Option Addr} {z : Nat} {qs : List Nat} {l : List UInt8} (hR : Row c8 1 5 σ ad z qs l) (hl : l.length ≤ 100000) (b : UInt8) :
    ∃ ad' z' qs' σ', (∀ K : Option Addr → Nat → Nat → St → Res, (St.row (σ.new (Blk.own [Value.int .u8 (b.toNat : Int)] 5)) (some ⟨σ.next, 0, none⟩) 1 fun v => grow 5 1 1 ad l.length z 1 v (σ.new (Blk.own [Value.int .u8 (b.toNat : Int)] 5)) K) = K ad' (l ++ [b]).length z' σ') ∧
      Row c8 1 5 σ' ad' z' qs' (l ++ [b]) ∧ Same σ σ' qs ∧ ∀ q ∈ qs', q ∈ qs ∨ σ.next ≤ q := by
  have s1 : Same σ (σ.new (Blk.own [Value.int .u8 (b.toNat : Int)] 5)) [] := Same.new _ _ _
  have g1 : (σ.new (Blk.own [Value.int .u8 (b.toNat : Int)] 5)).get σ.next = some (Blk.own [Value.int .u8 (b.toNat : Int)] 5) := get_new_same _ _
  generalize σ.new (Blk.own [Value.int .u8 (b.toNat : Int)] 5) = σ1 at s1 g1
  obtain ⟨ad', z', qs', σ2, g2, r2, s2, q2⟩ := grow_row (by_ := 1) (hR.same s1 (by simp)) c8_len c8_one (by omega) [b] [Value.int .u8 (b.toNat : Int)] rfl 1 rfl (by unfold roomTop; omega) (by unfold sizeTop; omega)
  refine ⟨ad', z', qs', σ2, fun K => by rw [row_one g1, g2, List.length_append]; rfl, r2, ?_, fun q hq => (q2 q hq).imp id (fun h => by have := s1.1; omega)⟩
  exact (s1.mono (by simp)).trans s2
theorem num_loop (L k : Nat) : ∀ (m n x : Nat) (σ : St) (ad : Option Addr) (z : Nat) (qs : List Nat) (l : List UInt8), x < 128 ^ (m + 1) → m < n → l.length + m ≤ 100000 → Row c8 1 5 σ ad z qs l →
    ∃ ad' z' qs' σ', lpAt Tryz.prog env L k 133 [true, true, false] [] n [(0, .slice ad l.length z), (1, .int .i64 x)] σ = some (.slice ad' (l ++ enc x).length z', σ') ∧ Row c8 1 5 σ' ad' z' qs' (l ++ enc x) ∧ Same σ σ' qs ∧ ∀ q ∈ qs', q ∈ qs ∨ σ.next ≤ q
  | m, 0, x, σ, ad, z, qs, l, _, h, _, _ => by omega
  | m, n + 1, x, σ, ad, z, qs, l, hx, hm, hl, hR => by
    rw [f133_l2]
    by_cases hb : 128 ≤ x
    · cases m with
      | zero => simp at hx; omega
      | succ m =>
        obtain ⟨ad1, z1, q1, σ1, g1, r1, s1, n1⟩ := push8 hR (by omega) (UInt8.ofNat (x % 128 + 128))
        have hd : Int.fdiv (x : Int) 128 = ((x / 128 : Nat) : Int) := fdiv_nat x 128
        obtain ⟨ad2, z2, q2, σ2, g2, r2, s2, n2⟩ := num_loop L k m n (x / 128) σ1 ad1 z1 q1 (l ++ [UInt8.ofNat (x % 128 + 128)]) (by rw [Nat.div_lt_iff_lt_mul (by omega), ← Nat.pow_succ]; exact hx) (by omega) (by rw [List.length_append]; simp; omega) r1
        rw [decide_eq_true (by omega), br_true, or_byte, g1, hd, g2, enc_big hb]
        rw [List.append_assoc] at r2 ⊢
        exact ⟨ad2, z2, q2, σ2, rfl, r2, s1.fresh s2 n1, fun q hq => by rcases n2 q hq with h | h; exact n1 q h; exact .inr (by have := s1.1; omega)⟩
    · obtain ⟨ad1, z1, q1, σ1, g1, r1, s1, n1⟩ := push8 hR (by omega) (UInt8.ofNat x)
      rw [decide_eq_false (by omega), br_false, plain_byte, g1, enc_small hb]
      exact ⟨ad1, z1, q1, σ1, rfl, r1, s1, n1⟩
theorem num_spec (L k : Nat) (hL : 100 < L) {σ : St} {ad : Option Addr} {z : Nat} {qs : List Nat} {l : List UInt8} (hR : Row c8 1 5 σ ad z qs l) (hl : l.length ≤ 1000) (x : Int) :
    ∃ ad' z' qs' σ', evCall Tryz.prog env L (k + 1) 133 [.slice ad l.length z, .int .i64 x] σ = some (.slice ad' (l ++ enc (clip x)).length z', σ') ∧ Row c8 1 5 σ' ad' z' qs' (l ++ enc (clip x)) ∧ Same σ σ' qs ∧ ∀ q ∈ qs', q ∈ qs ∨ σ.next ≤ q := by
  rw [f133_eq, clip_mx]
  exact num_loop L k 8 L (clip x) σ ad z qs l (clip_lt x) (by omega) (by omega) hR
theorem text_spec (L k : Nat) (hL : 100 < L) {σ : St} {ad : Option Addr} {z : Nat} {qs : List Nat} {l : List UInt8} (hR : Row c8 1 5 σ ad z qs l) (hl : l.length ≤ 1000) (s : ByteArray) (hs : s.size ≤ 1000) :
    ∃ ad' z' qs' σ', evCall Tryz.prog env L (k + 2) 132 [.slice ad l.length z, .string s] σ = some (.slice ad' (l ++ enc s.size ++ s.data.toList).length z', σ') ∧ Row c8 1 5 σ' ad' z' qs' (l ++ enc s.size ++ s.data.toList) ∧ Same σ σ' qs ∧ ∀ q ∈ qs', q ∈ qs ∨ σ.next ≤ q := by
  obtain ⟨ad1, z1, q1, σ1, g1, r1, s1, n1⟩ := num_spec L k hL hR hl (s.size : Int)
  rw [clip_of (by unfold top; omega)] at g1 r1
  have he := enc_len 8 s.size (by have : (128 : Nat) ^ (8 + 1) = 9223372036854775808 := by decide
                                  omega)
  have hsz : s.data.toList.length = s.size := by rw [Array.length_toList]; rfl
  obtain ⟨ad2, z2, q2, σ2, g2, r2, s2, n2⟩ := grow_row (by_ := 1) r1 c8_len c8_one (by omega) s.data.toList (byteCells s) (by rw [byteCells_by8, c8_flat]) s.size hsz.symm (by unfold roomTop; rw [List.length_append]; omega) (by unfold sizeTop; rw [List.length_append]; omega)
  rw [f132_eq, g1, bnd_some, asSl_s, g2, List.length_append (bs := s.data.toList), hsz]
  exact ⟨ad2, z2, q2, σ2, rfl, r2, s1.fresh s2 n1, fun q hq => by rcases n2 q hq with h | h; exact n1 q h; exact .inr (by have := s1.1; omega)⟩
def str (l : List UInt8) : ByteArray := ⟨l.toArray⟩
theorem str_list (l : List UInt8) : (str l).data.toList = l := rfl
theorem str_size (l : List UInt8) : (str l).size = l.length := rfl
theorem str_eta (s : ByteArray) : str s.data.toList = s := rfl
theorem rnum_loop (L k : Nat) : ∀ (m n x : Nat) (σ : St) (l : List UInt8), x < 128 ^ (m + 1) → x ≤ top → m < n → l.length + m ≤ 100000 →
    ∃ σ', lpAt Tryz.prog env L k 96 [true, true, true, false] [] n [(0, .int .i64 x), (3, .string (str l))] σ = some (.string (str (l ++ enc x)), σ') ∧ Same σ σ' []
  | m, 0, x, σ, l, _, _, h, _ => by omega
  | m, n + 1, x, σ, l, hx, ht, hm, hl => by
    rw [f96_l3]
    unfold top at ht
    have hone : ∀ b : UInt8, ∀ K : List Value → Res, St.row (σ.new (Blk.own [Value.int .u8 (b.toNat : Int)] 5)) (some ⟨σ.next, 0, none⟩) 1 K = K (by8 [b]) := fun b K => row_one (get_new_same _ _) K
    have hs1 : ∀ b : UInt8, Same σ (σ.new (Blk.own [Value.int .u8 (b.toNat : Int)] 5)) [] := fun b => Same.new _ _ _
    by_cases hb : 128 ≤ x
    · cases m with
      | zero => simp at hx; omega
      | succ m =>
        have e1 : IntKind.wrap .u8 (IntKind.wrap .i64 (Int.tmod (x : Int) 128 + 128)) = ((UInt8.ofNat (x % 128 + 128)).toNat : Int) := by
          rw [Int.tmod_eq_emod_of_nonneg (by omega), wrap_in _ (by omega) (by omega), ← plain_byte]
          congr 1
        have e2 : IntKind.wrap .i64 (Int.tdiv (x : Int) 128) = ((x / 128 : Nat) : Int) := by
          have h : Int.tdiv (x : Int) 128 = ((x / 128 : Nat) : Int) := by rw [Int.tdiv_eq_ediv_of_nonneg (by omega)]; rfl
          rw [h, wrap_in _ (by omega) (by omega)]
        obtain ⟨σ2, g2, s2⟩ := rnum_loop L k m n (x / 128) (σ.new (Blk.own [Value.int .u8 ((UInt8.ofNat (x % 128 + 128)).toNat : Int)] 5)) (l ++ [UInt8.ofNat (x % 128 + 128)]) (by rw [Nat.div_lt_iff_lt_mul (by omega), ← Nat.pow_succ]; exact hx) (by unfold top; omega) (by omega) (by rw [List.length_append]; simp; omega)
        rw [List.append_assoc] at g2
        rw [decide_eq_true (by omega), br_true, e1, e2, hone, asBy_by8, need_of (by simp [ByteArray.size, str]; omega), enc_big hb]
        exact ⟨σ2, g2, (hs1 _).trans s2⟩
    · rw [decide_eq_false (by omega), br_false, plain_byte, hone, asBy_by8, need_of (by simp [ByteArray.size, str]; omega), enc_small hb]
      exact ⟨_, rfl, hs1 _⟩
theorem rnum_spec (L k : Nat) (hL : 100 < L) (σ : St) (x : Int) : ∃ σ', evCall Tryz.prog env L (k + 1) 96 [.int .i64 x] σ = some (.string (str (enc (clip x))), σ') ∧ Same σ σ' [] := by
  rw [f96_eq, clip_mx]
  exact rnum_loop L k 8 L (clip x) σ [] (clip_lt x) (clip_le x) (by omega) (by simp)
theorem rtext_spec (L k : Nat) (hL : 100 < L) (σ : St) (s : ByteArray) (hs : s.size ≤ 1000) : ∃ σ', evCall Tryz.prog env L (k + 2) 97 [.string s] σ = some (.string (str (enc s.size ++ s.data.toList)), σ') ∧ Same σ σ' [] := by
  obtain ⟨σ1, g1, s1⟩ := rnum_spec L k hL σ (s.size : Int)
  have he := enc_len 8 s.size (by have : (128 : Nat) ^ (8 + 1) = 9223372036854775808 := by decide
                                  omega)
  rw [clip_of (by unfold top; omega)] at g1
  rw [f97_eq, g1, bnd_some, asS_s, need_of (by rw [decide_eq_true_eq, str_size]; omega)]
  exact ⟨σ1, rfl, s1⟩
end Go.AM.Bk

namespace Go.AM.Bk
open Go.Proofs
theorem zeros8 : ∀ n : Nat, zerosN [Value.int .u8 (0 : Int)] n = by8 (List.replicate n 0)
  | 0 => rfl
  | n + 1 => by rw [zerosN, zeros8 n, List.replicate_succ]; rfl
theorem sgrow_spec (L k : Nat) (σ : St) (n : Nat) (hn : n ≤ 100000) : ∃ ad z qs σ', evCall Tryz.prog env L (k + 1) 146 [.slice none 0 0, .int .i64 n] σ = some (.slice ad 0 z, σ') ∧ Row c8 1 5 σ' ad z qs [] ∧ Same σ σ' [] ∧ ∀ q ∈ qs, σ.next ≤ q := by
  rw [f146_eq, decide_eq_false (by omega), br_false, need_of (show Option.isNone (none : Option Addr) = true from rfl)]
  have e0 : IntKind.wrap .i64 ((n : Int) - IntKind.wrap .i64 ((0 : Int) - ((0 : Nat) : Int))) = (n : Int) := by
    rw [wrap_in ((0 : Int) - ((0 : Nat) : Int)) (by omega) (by omega), wrap_in _ (by omega) (by omega)]; omega
  rw [e0]
  by_cases h0 : n = 0
  · subst h0
    rw [decide_eq_false (by simp), br_false]
    exact ⟨none, 0, [], σ, rfl, Row.nil _ _ _ _, Same.refl _ _, by simp⟩
  · have hi : inRange (((0 : Nat) : Int)) (((Int.toNat (n : Int) : Nat) : Int) + 1) = true := by simp [inRange]
    have hb : (Option.isNone (subA (none : Option Addr) (0 * szOf Tryz.prog 5)) && decide ((1 : Int) ≤ (n : Int)) && decide (Int.toNat (n : Int) * 1 ≤ 140737488355328) && decide ((n : Int) ≤ 4611686018427387904) && true) = true := by
      have h1 : decide ((1 : Int) ≤ (n : Int)) = true := decide_eq_true (by omega)
      have h2 : decide (Int.toNat (n : Int) * 1 ≤ 140737488355328) = true := decide_eq_true (by simp; omega)
      have h3 : decide ((n : Int) ≤ 4611686018427387904) = true := decide_eq_true (by omega)
      rw [h1, h2, h3]; rfl
    have hn9 : Option.isNone (none : Option Addr) = true := rfl
    have hz9 : (Nat.beq 0 0 || Nat.beq 0 1) = true := rfl
    have hr9 : inRange 0 (((0 : Nat) : Int) + 1) = true := rfl
    rw [decide_eq_true (by omega), br_true, need_of hn9, need_of hz9, need_of hr9, need_of hb, need_of hi, zeros8]
    refine ⟨some ⟨σ.next, 0, none⟩, 1, [σ.next], _, rfl, ⟨by simp, .inr ⟨σ.next, by8 (List.replicate (Int.toNat (n : Int)) 0), rfl, rfl, rfl, by rw [get_new_same]; rfl⟩⟩, Same.new _ _ _, by simp⟩
theorem concat_spec (L k : Nat) (hL : 100 < L) {σ : St} {r : Nat} {ad1 ad2 : Option Addr} {z1 z2 : Nat} {l1 l2 : List UInt8} {F1 F2 : List Nat} (hr : σ.get r = some (.own [.slice ad1 l1.length z1, .slice ad2 l2.length z2] 31)) (hrl : r < σ.next) (h1 : Bytes σ ad1 l1 F1) (h2 : Bytes σ ad2 l2 F2) (hl : l1.length + l2.length ≤ 10000) :
    ∃ ad z qs σ', evCall Tryz.prog env L (k + 2) 144 [.slice (some ⟨r, 0, none⟩) 2 1] σ = some (.slice ad (l1 ++ l2).length z, σ') ∧ Row c8 1 5 σ' ad z qs (l1 ++ l2) ∧ Same σ σ' [] ∧ ∀ q ∈ qs, σ.next ≤ q := by
  obtain ⟨m, rfl⟩ : ∃ m, L = m + 3 := ⟨L - 3, by omega⟩
  have w1 : IntKind.wrap .i64 ((0 : Int) + (l1.length : Int)) = (l1.length : Int) := by rw [wrap_in _ (by omega) (by omega)]; omega
  have w2 : IntKind.wrap .i64 ((l1.length : Int) + (l2.length : Int)) = ((l1.length + l2.length : Nat) : Int) := by rw [wrap_in _ (by omega) (by omega)]; omega
  have v1 : IntKind.wrap .i64 ((0 : Int) + 1) = 1 := by rw [wrap_in _ (by omega) (by omega)]; rfl
  have v2 : IntKind.wrap .i64 ((1 : Int) + 1) = 2 := by rw [wrap_in _ (by omega) (by omega)]; rfl
  have r1 : ∀ K : Value → Res, σ.ld r (0 + Int.toNat 0 * 1) K = K (.slice ad1 l1.length z1) := fun K => ld_own K hr rfl
  have r2 : ∀ K : Value → Res, σ.ld r (0 + Int.toNat 1 * 1) K = K (.slice ad2 l2.length z2) := fun K => ld_own K hr rfl
  obtain ⟨ad, z, qs, σ1, g1, hR, s1, n1⟩ := sgrow_spec (m + 3) k σ (l1.length + l2.length) (by omega)
  have i0 : inRange 0 ((2 : Nat) : Int) = true := rfl
  have i1 : inRange 1 ((2 : Nat) : Int) = true := rfl
  rw [f144_eq, f144_l3, decide_eq_true (by decide), br_true, need_of i0, adr_some, r1, asSl_s, w1, decide_eq_false (by omega), br_false, v1,
    f144_l3, decide_eq_true (by decide), br_true, need_of i1, adr_some, r2, asSl_s, w2, decide_eq_false (by omega), br_false, v2,
    f144_l3, decide_eq_false (by decide), br_false, g1, bnd_some, asSl_s]
  have hr1 : σ1.get r = _ := (s1.2 r hrl (by simp)).trans hr
  have q1 : ∀ K : Value → Res, σ1.ld r (0 + Int.toNat 0 * 1) K = K (.slice ad1 l1.length z1) := fun K => ld_own K hr1 rfl
  rw [f144_l11, decide_eq_true (by decide), br_true, need_of i0, adr_some, q1, asSl_s, (h1.same s1 (by simp)).row _ (Nat.mul_one _)]
  obtain ⟨ad2', z2', qs2, σ2, g2, hR2, s2, n2⟩ := grow_row (by_ := 1) hR c8_len c8_one (by omega) l1 (by8 l1) (c8_flat l1).symm l1.length rfl (by unfold roomTop; simp; omega) (by unfold sizeTop; simp; omega)
  have s02 : Same σ σ2 [] := s1.fresh s2 (fun x hx => .inr (n1 x hx))
  have hr2 : σ2.get r = _ := (s02.2 r hrl (by simp)).trans hr
  have q2 : ∀ K : Value → Res, σ2.ld r (0 + Int.toNat 1 * 1) K = K (.slice ad2 l2.length z2) := fun K => ld_own K hr2 rfl
  simp only [List.length_nil, Nat.zero_add, List.nil_append] at g2 hR2
  rw [g2, v1, f144_l11, decide_eq_true (by decide), br_true, need_of i1, adr_some, q2, asSl_s, (h2.same s02 (by simp)).row _ (Nat.mul_one _)]
  obtain ⟨ad3', z3', qs3, σ3, g3, hR3, s3, n3⟩ := grow_row (by_ := 1) hR2 c8_len c8_one (by omega) l2 (by8 l2) (c8_flat l2).symm l2.length rfl (by unfold roomTop; omega) (by unfold sizeTop; omega)
  have f2 : ∀ q ∈ qs2, σ.next ≤ q := fun q hq => by rcases n2 q hq with h | h; exact n1 q h; have := s1.1; omega
  rw [g3, v2, f144_l11, decide_eq_false (by decide), br_false, ← List.length_append]
  exact ⟨ad3', z3', qs3, σ3, rfl, hR3, s02.fresh s3 (fun x hx => .inr (f2 x hx)), fun q hq => by rcases n3 q hq with h | h; exact f2 q h; have := s02.1; omega⟩
def lock (l : List UInt8) : List UInt8 := l ++ tail4 l
theorem lock_len (l : List UInt8) : (lock l).length = l.length + 4 := by unfold lock; rw [List.length_append, tail4_len]
theorem lock_spec (L k : Nat) (hL : 100000 < L) {σ : St} {ad : Option Addr} {z : Nat} {l : List UInt8} {F : List Nat} (h : Bytes σ ad l F) (hl : l.length ≤ 5000) :
    ∃ ad' z' qs σ', evCall Tryz.prog env L (k + 4) 143 [.slice ad l.length z] σ = some (.slice ad' (lock l).length z', σ') ∧ Row c8 1 5 σ' ad' z' qs (lock l) ∧ Same σ σ' [] ∧ ∀ q ∈ qs, σ.next ≤ q := by
  obtain ⟨q, σ1, g1, gq, hq, hq2, s1⟩ := tail_spec L k hL (z := z) h (by omega)
  rw [f143_eq, g1, bnd_some, asSl_s, need_true]
  have s2 : Same σ1 (σ1.new (Blk.own [Value.slice ad l.length z, Value.slice (some ⟨q, 0, none⟩) 4 1] 31)) [] := Same.new _ _ _
  have g2 : (σ1.new (Blk.own [Value.slice ad l.length z, Value.slice (some ⟨q, 0, none⟩) 4 1] 31)).get σ1.next = some (.own [Value.slice ad l.length z, Value.slice (some ⟨q, 0, none⟩) (tail4 l).length 1] 31) := get_new_same _ _
  have n2 : (σ1.new (Blk.own [Value.slice ad l.length z, Value.slice (some ⟨q, 0, none⟩) 4 1] 31)).next = σ1.next + 1 := rfl
  generalize σ1.new (Blk.own [Value.slice ad l.length z, Value.slice (some ⟨q, 0, none⟩) 4 1] 31) = σ2 at s2 g2 n2
  have s02 := s1.trans s2
  obtain ⟨ad', z', qs, σ3, g3, hR, s3, n3⟩ := concat_spec L (k + 1) (by omega) g2 (by omega) (h.same s02 (by simp)) ((Bytes.own gq hq2).same s2 (by simp)) (by rw [tail4_len]; omega)
  rw [g3, bnd_some, asSl_s]
  exact ⟨ad', z', qs, σ3, rfl, hR, s02.trans s3, fun q hq => by have := n3 q hq; have := s02.1; omega⟩
def fill (l : List UInt8) : List UInt8 := l ++ List.replicate (60 - l.length) 0
theorem fill_len {l : List UInt8} (h : l.length ≤ 60) : (fill l).length = 60 := by unfold fill; rw [List.length_append, List.length_replicate]; omega
def sector (l : List UInt8) : List UInt8 := lock (fill l)
theorem sector_len {l : List UInt8} (h : l.length ≤ 60) : (sector l).length = 64 := by unfold sector; rw [lock_len, fill_len h]
theorem sector_spec (L k : Nat) (hL : 100000 < L) {σ : St} {ad : Option Addr} {z : Nat} {l : List UInt8} {F : List Nat} (h : Bytes σ ad l F) (hl : l.length ≤ 60) :
    ∃ ad' z' qs σ', evCall Tryz.prog env L (k + 5) 131 [.slice ad l.length z] σ = some (.tuple #[.slice ad' 64 z', .bool true], σ') ∧ Row c8 1 5 σ' ad' z' qs (sector l) ∧ Same σ σ' [] ∧ ∀ q ∈ qs, σ.next ≤ q := by
  have w : IntKind.wrap .i64 ((60 : Int) - (l.length : Int)) = ((60 - l.length : Nat) : Int) := by rw [wrap_in _ (by omega) (by omega)]; omega
  rw [f131_eq, w, decide_eq_false (by omega), br_false, need_of (by simp; omega), need_true, Int.toNat_natCast, zeros8]
  have s1 : Same σ (σ.new (Blk.own (by8 (List.replicate (60 - l.length) 0)) 5)) [] := Same.new _ _ _
  have g1 : (σ.new (Blk.own (by8 (List.replicate (60 - l.length) 0)) 5)).get σ.next = some (Blk.own (by8 (List.replicate (60 - l.length) 0)) 5) := get_new_same _ _
  have n1 : (σ.new (Blk.own (by8 (List.replicate (60 - l.length) 0)) 5)).next = σ.next + 1 := rfl
  generalize σ.new (Blk.own (by8 (List.replicate (60 - l.length) 0)) 5) = σ1 at s1 g1 n1
  have s2 : Same σ1 (σ1.new (Blk.own [Value.slice ad l.length z, Value.slice (some ⟨σ.next, 0, none⟩) (60 - l.length) 1] 31)) [] := Same.new _ _ _
  have g2 : (σ1.new (Blk.own [Value.slice ad l.length z, Value.slice (some ⟨σ.next, 0, none⟩) (60 - l.length) 1] 31)).get σ1.next = some (.own [Value.slice ad l.length z, Value.slice (some ⟨σ.next, 0, none⟩) (List.replicate (60 - l.length) (0 : UInt8)).length 1] 31) := by rw [List.length_replicate]; exact get_new_same _ _
  have n2 : (σ1.new (Blk.own [Value.slice ad l.length z, Value.slice (some ⟨σ.next, 0, none⟩) (60 - l.length) 1] 31)).next = σ1.next + 1 := rfl
  generalize σ1.new (Blk.own [Value.slice ad l.length z, Value.slice (some ⟨σ.next, 0, none⟩) (60 - l.length) 1] 31) = σ2 at s2 g2 n2
  have s02 := s1.trans s2
  obtain ⟨ad3, z3, q3, σ3, g3, hR3, s3, n3⟩ := concat_spec L (k + 2) (by omega) g2 (by omega) (h.same s02 (by simp)) ((Bytes.own g1 (by omega)).same s2 (by simp)) (by rw [List.length_replicate]; omega)
  obtain ⟨ad4, z4, q4, σ4, g4, hR4, s4, n4⟩ := lock_spec L k hL (z := z3) (row_bytes hR3) (by rw [List.length_append, List.length_replicate]; omega)
  have hs := sector_len hl
  unfold sector fill at hs
  rw [hs] at g4
  rw [g3, bnd_some, asSl_s, g4, bnd_some, asSl_s]
  exact ⟨ad4, z4, q4, σ4, rfl, hR4, (s02.trans s3).trans s4, fun q hq => by have := n4 q hq; have := (s02.trans s3).1; omega⟩
theorem byte_mod (n m : Nat) : IntKind.wrap .u8 (Int.tmod (n : Int) 256) = ((UInt8.ofNat n).toNat : Int) := by
  rw [Int.tmod_eq_emod_of_nonneg (by omega)]
  show ((n : Int) % 256) % 256 = _
  rw [UInt8.toNat_ofNat']
  omega
theorem tdiv32 (n m : Nat) (hn : n < 4294967296) (hm : 0 < m) : IntKind.wrap .u32 (Int.tdiv (n : Int) (m : Int)) = ((n / m : Nat) : Int) := by
  rw [Int.tdiv_eq_ediv_of_nonneg (by omega), show ((n : Int) / (m : Int)) = ((n / m : Nat) : Int) from rfl]
  exact wrap_u32 _ (Nat.lt_of_le_of_lt (Nat.div_le_self _ _) hn)
theorem rlock_spec (L k : Nat) (hL : 100000 < L) (s : ByteArray) (hl : s.size ≤ 5000) (σ : St) : ∃ σ', evCall Tryz.prog env L (k + 2) 93 [.string s] σ = some (.string (str (lock s.data.toList)), σ') ∧ Same σ σ' [] := by
  have hc : (crc s.data.toList).toNat < 4294967296 := (crc s.data.toList).isLt
  have e1 : IntKind.wrap .u32 (Int.tdiv ((crc s.data.toList).toNat : Int) 256) = _ := tdiv32 _ 256 hc (by omega)
  have e2 : IntKind.wrap .u32 (Int.tdiv ((crc s.data.toList).toNat : Int) 65536) = _ := tdiv32 _ 65536 hc (by omega)
  have e3 : IntKind.wrap .u32 (Int.tdiv ((crc s.data.toList).toNat : Int) 16777216) = _ := tdiv32 _ 16777216 hc (by omega)
  have hone : ∀ l : List UInt8, l.length = 4 → ∀ K : List Value → Res, St.row (σ.new (Blk.own (by8 l) 5)) (some ⟨σ.next, 0, none⟩) 4 K = K (by8 l) := fun l h K => row_all (get_new_same _ _) (by rw [by8_len, h]) (by omega) K
  rw [f93_eq, rof_spec L k hL s (by omega) σ, bnd_some, asI_i, need_true, need_true, need_true, e1, e2, e3, byte_mod _ 0, byte_mod _ 0, byte_mod _ 0, plain_byte]
  have hb : [Value.int .u8 ((UInt8.ofNat (crc s.data.toList).toNat).toNat : Int), Value.int .u8 ((UInt8.ofNat ((crc s.data.toList).toNat / 256)).toNat : Int), Value.int .u8 ((UInt8.ofNat ((crc s.data.toList).toNat / 65536)).toNat : Int), Value.int .u8 ((UInt8.ofNat ((crc s.data.toList).toNat / 16777216)).toNat : Int)] = by8 (tail4 s.data.toList) := rfl
  rw [hb, hone _ (tail4_len _), asBy_by8, need_of (by rw [decide_eq_true_eq]; show s.size + (tail4 s.data.toList).length ≤ _; rw [tail4_len]; omega)]
  exact ⟨_, rfl, Same.new _ _ _⟩
theorem rsector_loop (L k : Nat) (hL : 100000 < L) (σ : St) : ∀ (n : Nat) (l : List UInt8), l.length ≤ 60 → 60 - l.length < n →
    ∃ σ', lpAt Tryz.prog env L (k + 2) 95 [true, true, false] [] n [(0, .string (str l))] σ = some (.tuple #[.string (str (sector l)), .bool true], σ') ∧ Same σ σ' []
  | 0, l, _, h => by omega
  | n + 1, l, h, hn => by
    rw [f95_l3]
    by_cases h60 : l.length = 60
    · obtain ⟨σ1, g1, s1⟩ := rlock_spec L k hL (str l) (by rw [str_size]; omega) σ
      have hf : fill l = l := by unfold fill; rw [h60]; simp
      rw [decide_eq_false (by rw [str_size]; omega), br_false, g1, bnd_some, asS_s]
      exact ⟨σ1, by unfold sector; rw [hf]; rfl, s1⟩
    · obtain ⟨σ1, g1, s1⟩ := rsector_loop L k hL σ n (l ++ [0]) (by rw [List.length_append]; simp; omega) (by rw [List.length_append]; simp; omega)
      have hf : fill (l ++ [0]) = fill l := by
        unfold fill
        rw [List.append_assoc, List.length_append, List.length_singleton, show 60 - l.length = (60 - (l.length + 1)) + 1 by omega, List.replicate_succ]
        rfl
      rw [decide_eq_true (by rw [str_size]; omega), br_true, need_of (by rw [decide_eq_true_eq, str_size]; omega)]
      exact ⟨σ1, by rw [show (ByteArray.mk ⟨(str l).data.toList ++ [0]⟩) = str (l ++ [0]) from rfl, g1]; unfold sector; rw [hf], s1⟩
theorem rsector_spec (L k : Nat) (hL : 100000 < L) (σ : St) (l : List UInt8) (hl : l.length ≤ 60) : ∃ σ', evCall Tryz.prog env L (k + 3) 95 [.string (str l)] σ = some (.tuple #[.string (str (sector l)), .bool true], σ') ∧ Same σ σ' [] := by
  rw [f95_eq, decide_eq_false (by rw [str_size]; omega), br_false]
  exact rsector_loop L k hL σ L l hl (by omega)
theorem str_inj {l m : List UInt8} : (ByteArray.toList (str l) == ByteArray.toList (str m)) = decide (l = m) := by
  rw [ByteArray.toList_eq, ByteArray.toList_eq]
  show (l == m) = _
  by_cases h : l = m
  · subst h; simp
  · rw [decide_eq_false h, beq_eq_false_iff_ne]; exact h
theorem str_ext (l : List UInt8) (i j : Nat) : ByteArray.extract (str l) i j = str ((l.drop i).take (j - i)) := by
  apply ByteArray.ext
  rw [ByteArray.data_extract]
  apply Array.ext'
  unfold str
  rw [List.extract_toArray, List.extract_eq_take_drop]
theorem lock_open (l : List UInt8) (h4 : 4 ≤ l.length) : (lock (l.take (l.length - 4)) = l) ↔ opened l = some (l.take (l.length - 4)) := by
  unfold opened lock
  have hd : l.take (l.length - 4) ++ l.drop (l.length - 4) = l := List.take_append_drop _ _
  constructor
  · intro h
    have : tail4 (l.take (l.length - 4)) = l.drop (l.length - 4) := List.append_cancel_left (h.trans hd.symm)
    rw [if_pos ⟨h4, this⟩]
  · intro h
    by_cases hc : tail4 (l.take (l.length - 4)) = l.drop (l.length - 4)
    · rw [hc]; exact hd
    · rw [if_neg (fun h => hc h.2)] at h; cases h
theorem ropen_spec (L k : Nat) (hL : 100000 < L) (σ : St) (l : List UInt8) (hl : l.length ≤ 5000) : ∃ σ', Same σ σ' [] ∧ ((∃ b, opened l = some b ∧ evCall Tryz.prog env L (k + 3) 50 [.string (str l)] σ = some (.tuple #[.string (str b), .bool true], σ')) ∨
    (opened l = none ∧ evCall Tryz.prog env L (k + 3) 50 [.string (str l)] σ = some (.tuple #[.string (str []), .bool false], σ'))) := by
  rw [f50_eq, str_size]
  by_cases h4 : l.length < 4
  · rw [decide_eq_true (by omega), br_true]
    exact ⟨σ, Same.refl _ _, .inr ⟨by unfold opened; rw [if_neg (by omega)], rfl⟩⟩
  · have w : IntKind.wrap .i64 ((l.length : Int) - 4) = ((l.length - 4 : Nat) : Int) := by rw [wrap_in _ (by omega) (by omega)]; omega
    have hx : ByteArray.extract (str l) 0 (Int.toNat ((l.length - 4 : Nat) : Int)) = str (l.take (l.length - 4)) := by
      rw [Int.toNat_natCast, str_ext, List.drop_zero, Nat.sub_zero]
    obtain ⟨σ1, g1, s1⟩ := rlock_spec L k hL (str (l.take (l.length - 4))) (by rw [str_size, List.length_take]; omega) σ
    rw [decide_eq_false (by omega), br_false, w, need_of (by simp [inRange]; omega), hx, g1, bnd_some, asS_s, str_inj, str_list]
    refine ⟨σ1, s1, ?_⟩
    have hso := lock_open l (by omega)
    by_cases hc : lock (l.take (l.length - 4)) = l
    · rw [decide_eq_true hc, not_true, br_false, need_of (by simp [inRange]; omega)]
      exact .inl ⟨_, hso.1 hc, rfl⟩
    · rw [decide_eq_false hc, not_false, br_true]
      refine .inr ⟨?_, rfl⟩
      unfold opened at hso ⊢
      by_cases hcc : 4 ≤ l.length ∧ tail4 (l.take (l.length - 4)) = l.drop (l.length - 4)
      · rw [if_pos hcc] at hso; exact absurd (hso.2 rfl) hc
      · rw [if_neg hcc]
end Go.AM.Bk

namespace Go.AM.Bk
open Go.Proofs
def rn : Nat → Nat → List UInt8 → Nat × Nat × List UInt8
  | _, _, [] => (2, 0, [])
  | i, acc, c :: r => if i = 8 ∧ 15 < c.toNat then (1, 0, []) else if 0 < i ∧ c.toNat = 0 then (1, 0, []) else if c.toNat < 128 then (0, acc + c.toNat % 128 * 128 ^ i, r) else rn (i + 1) (acc + c.toNat % 128 * 128 ^ i) r
def rnum (e : Nat) (l : List UInt8) : Nat × Nat × List UInt8 := if e ≠ 0 then (e, 0, l) else rn 0 0 l
def rtext (most : Nat) (e : Nat) (l : List UInt8) : Nat × List UInt8 × List UInt8 :=
  if (rnum e l).1 ≠ 0 then ((rnum e l).1, [], (rnum e l).2.2)
  else if most < (rnum e l).2.1 then (1, [], []) else if (rnum e l).2.2.length < (rnum e l).2.1 then (2, [], []) else (0, (rnum e l).2.2.take (rnum e l).2.1, (rnum e l).2.2.drop (rnum e l).2.1)
theorem pow128 (i : Nat) : 128 ^ i = 2 ^ (7 * i) := by rw [Nat.pow_mul]
theorem pow_le (i : Nat) (h : i ≤ 8) : 128 ^ i ≤ 72057594037927936 := by
  have : 128 ^ i ≤ 128 ^ 8 := Nat.pow_le_pow_right (by omega) h
  have e : (128 : Nat) ^ 8 = 72057594037927936 := by decide
  omega
theorem rn_enc : ∀ (n i acc : Nat) (r : List UInt8), i ≤ 8 → (0 < i → 0 < n) → n * 128 ^ i ≤ top → rn i acc (enc n ++ r) = (0, acc + n * 128 ^ i, r) := by
  intro n
  induction n using Nat.strongRecOn with
  | _ n ih =>
    intro i acc r hi h0 ht
    by_cases hb : 128 ≤ n
    · rw [enc_big hb, List.cons_append]
      have hc : (UInt8.ofNat (n % 128 + 128)).toNat = n % 128 + 128 := by rw [UInt8.toNat_ofNat', Nat.mod_eq_of_lt (by omega)]
      have hi8 : i ≠ 8 := fun e => by
        subst e
        have e : (128 : Nat) ^ 8 = 72057594037927936 := by decide
        rw [e] at ht; unfold top at ht; omega
      have hd : n % 128 * 128 ^ i + n / 128 * 128 ^ (i + 1) = n * 128 ^ i := by
        rw [Nat.pow_succ, Nat.mul_comm (128 ^ i) 128, ← Nat.mul_assoc, ← Nat.add_mul]
        congr 1
        omega
      unfold rn
      rw [hc, if_neg (by omega), if_neg (by omega), if_neg (by omega), ih (n / 128) (by omega) (i + 1) _ r (by omega) (fun _ => by omega) (by omega)]
      rw [show (n % 128 + 128) % 128 = n % 128 by omega, Nat.add_assoc, hd]
    · rw [enc_small hb, List.singleton_append]
      have hc : (UInt8.ofNat n).toNat = n := by rw [UInt8.toNat_ofNat', Nat.mod_eq_of_lt (by omega)]
      unfold rn
      have h8 : ¬ (i = 8 ∧ 15 < n) := fun ⟨e, h⟩ => by
        subst e
        have e : (128 : Nat) ^ 8 = 72057594037927936 := by decide
        rw [e] at ht; unfold top at ht; omega
      rw [hc, if_neg h8, if_neg (by omega), if_pos (by omega), Nat.mod_eq_of_lt (by omega)]
theorem or_i64 (a b : Nat) (ha : a < 9223372036854775808) (hb : b < 9223372036854775808) : ibit .or .i64 (a : Int) (b : Int) = ((a ||| b : Nat) : Int) := by
  have hlt : a ||| b < 2 ^ 63 := Nat.or_lt_two_pow ha hb
  show IntKind.wrap .i64 (((BitVec.ofInt 64 (a : Int)) ||| (BitVec.ofInt 64 (b : Int))).toNat : Int) = _
  have e : ∀ n : Nat, n < 9223372036854775808 → (BitVec.ofInt 64 (n : Int)).toNat = n := fun n hn => by
    rw [BitVec.toNat_ofInt]; omega
  rw [BitVec.toNat_or, e a ha, e b hb, wrap_in _ (by omega) (by omega)]
theorem andnot_all : ((List.range 256).all fun y => decide (ibit .andNot .u8 (y : Int) 128 = ((y % 128 : Nat) : Int))) = true := by kernel_rfl
theorem andnot_byte (c : UInt8) : ibit .andNot .u8 (c.toNat : Int) 128 = ((c.toNat % 128 : Nat) : Int) :=
  of_decide_eq_true (List.all_eq_true.1 andnot_all c.toNat (by have := c.toNat_lt; simp; omega))
theorem step_or (i acc x : Nat) (hi : i ≤ 8) (ha : acc < 128 ^ i) (hx : x < 128) :
    ibit .or .i64 (acc : Int) (IntKind.wrap .i64 (IntKind.wrap .i64 (x : Int) * 2 ^ min (Int.toNat (IntKind.wrap .i64 ((7 : Int) * (i : Int)))) 64)) = ((acc + x * 128 ^ i : Nat) : Int) := by
  have h7 : IntKind.wrap .i64 ((7 : Int) * (i : Int)) = ((7 * i : Nat) : Int) := by rw [wrap_in _ (by omega) (by omega)]; omega
  have hp := pow_le i hi
  have hxp : x * 128 ^ i ≤ 127 * 72057594037927936 := Nat.mul_le_mul (by omega) hp
  rw [h7, Int.toNat_natCast, Nat.min_eq_left (by omega), wrap_in (x : Int) (by omega) (by omega)]
  have e : (x : Int) * 2 ^ (7 * i) = ((x * 128 ^ i : Nat) : Int) := by rw [pow128]; simp
  rw [e, wrap_in _ (by omega) (by omega), or_i64 _ _ (by omega) (by omega)]
  congr 1
  rw [pow128] at ha ⊢
  rw [Nat.or_comm, ← Nat.shiftLeft_eq, ← Nat.shiftLeft_add_eq_or_of_lt ha, Nat.add_comm]
structure Rd (σ : St) (a : Nat) (e : Nat) (l : List UInt8) (F : List Nat) : Prop where
  ex : ∃ ad z, σ.get a = some (.own [.slice ad l.length z, .int .i64 e] 230) ∧ Bytes σ ad l F ∧ (z = 0 ∨ z = 1)
  lt : a < σ.next
  ne : a ∉ F
theorem Rd.same {σ σ' : St} {a e : Nat} {l : List UInt8} {F S : List Nat} (h : Rd σ a e l F) (hs : Same σ σ' S) (ha : a ∉ S) (hF : ∀ q ∈ F, q ∉ S) : Rd σ' a e l F := by
  obtain ⟨ad, z, h1, h2, h3⟩ := h.ex
  exact ⟨⟨ad, z, by rw [hs.2 a h.lt ha]; exact h1, h2.same hs hF, h3⟩, by have := h.lt; have := hs.1; omega, h.ne⟩
theorem err_spec (L k : Nat) {σ : St} {a e : Nat} {l : List UInt8} {F : List Nat} (h : Rd σ a e l F) : evCall Tryz.prog env L (k + 1) 127 [.pointer (some ⟨a, 0, none⟩)] σ = some (.int .i64 e, σ) := by
  obtain ⟨ad, z, h1, _⟩ := h.ex
  rw [f127_eq, ld_at h1 1 _ rfl, asI_i]
theorem wrongr_spec (L k : Nat) {σ : St} {a e : Nat} {l : List UInt8} {F : List Nat} (h : Rd σ a e l F) (c : Nat) : ∃ σ', evCall Tryz.prog env L (k + 1) 141 [.pointer (some ⟨a, 0, none⟩), .int .i64 c] σ = some (.int .i64 0, σ') ∧ Rd σ' a c [] F ∧ Same σ σ' [a] := by
  obtain ⟨ad, z, h1, h2, _⟩ := h.ex
  have hlt := h.lt
  have s1 := Same.set σ a (.own (List.set [.slice ad l.length z, .int .i64 e] 1 (.int .i64 c)) 230)
  have g1 : (σ.set a (.own (List.set [.slice ad l.length z, .int .i64 e] 1 (.int .i64 c)) 230)).get a = some (.own [.slice ad l.length z, .int .i64 c] 230) := get_set_same _ _ _
  rw [f141_eq, put_int h1 1 _ _ (by simp)]
  generalize σ.set a (.own (List.set [.slice ad l.length z, .int .i64 e] 1 (.int .i64 c)) 230) = σ1 at s1 g1
  rw [put_sl g1 0 _ _ _ (by simp)]
  have s2 := Same.set σ1 a (.own (List.set [.slice ad l.length z, .int .i64 c] 0 (.slice none 0 0)) 230)
  have s12 := s1.trans s2
  exact ⟨_, rfl, ⟨⟨none, 0, get_set_same _ _ _, ⟨.inl rfl, fun q hq => by have := h2.lt q hq; have := s12.1; omega⟩, .inl rfl⟩, by have := s12.1; omega, h.ne⟩, s12⟩
theorem rn_loop (L k : Nat) {σ : St} {a : Nat} {l : List UInt8} {F : List Nat} {ad : Option Addr} {z : Nat} (h1 : σ.get a = some (.own [.slice ad l.length z, .int .i64 (0 : Nat)] 230)) (h2 : Bytes σ ad l F) (h3 : z = 0 ∨ z = 1) (hlt : a < σ.next) (hne : a ∉ F) (hl : l.length ≤ 100000) : ∀ (n i acc : Nat), i ≤ 8 → acc < 128 ^ i → i ≤ l.length → l.length - i < n →
    ∃ σ', lpAt Tryz.prog env L (k + 1) 126 [true, true, true, false, true] [] n [(0, .pointer (some ⟨a, 0, none⟩)), (3, .int .i64 acc), (12, .slice ad l.length z), (13, .int .i64 l.length), (14, .int .i64 i)] σ = some (.int .i64 (rn i acc (l.drop i)).2.1, σ') ∧ Rd σ' a (rn i acc (l.drop i)).1 (rn i acc (l.drop i)).2.2 F ∧ Same σ σ' [a]
  | 0, i, acc, _, _, _, h => by omega
  | n + 1, i, acc, hi8, ha, hi, hn => by
    have hR : Rd σ a 0 l F := ⟨⟨ad, z, h1, h2, h3⟩, hlt, hne⟩
    rw [f126_l5]
    by_cases hie : i = l.length
    · obtain ⟨σ1, g1, r1, s1⟩ := wrongr_spec L k hR 2
      rw [decide_eq_false (by omega), br_false, hie, List.drop_length]
      rw [show ((2 : Nat) : Int) = 2 from rfl] at g1
      rw [g1, bnd_some, asI_i]
      exact ⟨σ1, rfl, r1, s1⟩
    · have hget : l[i]? = some l[i] := List.getElem?_eq_getElem (by omega)
      have hd : l.drop i = l[i] :: l.drop (i + 1) := List.drop_eq_getElem_cons (by omega)
      obtain ⟨r, o, e0, hat⟩ := h2.at hget
      rw [hd]
      generalize l[i] = c at hat
      have hc := c.toNat_lt
      have hw : IntKind.wrap .i64 ((i : Int) + 1) = ((i + 1 : Nat) : Int) := by rw [wrap_in _ (by omega) (by omega)]; omega
      have hor := step_or i acc (c.toNat % 128) hi8 ha (by omega)
      have h7 : decide ((0 : Int) ≤ IntKind.wrap .i64 ((7 : Int) * (i : Int))) = true := by rw [wrap_in _ (by omega) (by omega)]; exact decide_eq_true (by omega)
      have hp := pow_le i hi8
      obtain ⟨σ1, g1, r1, s1⟩ := wrongr_spec L k hR 1
      rw [show ((1 : Nat) : Int) = 1 from rfl] at g1
      rw [decide_eq_true (by omega), br_true, need_of (by simp [inRange]; omega), e0, adr_some, hat _ (by simp), asI_i, need_of h7, andnot_byte, hor]
      -- the last byte
      have last : ∀ (c128 : c.toNat < 128) (hno : ¬ (i = 8 ∧ 15 < c.toNat)) (hno2 : ¬ (0 < i ∧ c.toNat = 0)), ∃ σ', (St.ld σ a (0 + 0) fun v11 => asSl v11 fun v12 v13 v14 => need (Nat.beq v14 0 || Nat.beq v14 1) (need (inRange (IntKind.wrap .i64 ((i : Int) + 1)) ((v13 : Int) + 1)) (St.put σ a (0 + 0) [.slice (subA v12 (Int.toNat (IntKind.wrap .i64 ((i : Int) + 1)) * 1)) (v13 - Int.toNat (IntKind.wrap .i64 ((i : Int) + 1))) v14] fun v15 => some (Value.int .i64 ((acc + c.toNat % 128 * 128 ^ i : Nat) : Int), v15)))) =
          some (.int .i64 (rn i acc (c :: l.drop (i + 1))).2.1, σ') ∧ Rd σ' a (rn i acc (c :: l.drop (i + 1))).1 (rn i acc (c :: l.drop (i + 1))).2.2 F ∧ Same σ σ' [a] := by
        intro c128 hno hno2
        have hrn : rn i acc (c :: l.drop (i + 1)) = (0, acc + c.toNat % 128 * 128 ^ i, l.drop (i + 1)) := by
          unfold rn; rw [if_neg hno, if_neg hno2, if_pos c128]
        have hzz : (Nat.beq z 0 || Nat.beq z 1) = true := by rcases h3 with e | e <;> rw [e] <;> rfl
        have hb := Bytes.sub h2 (i + 1) (l.length - (i + 1)) (by omega)
        rw [List.take_of_length_le (by rw [List.length_drop]; omega)] at hb
        rw [hrn, ld_at h1 0 _ rfl, asSl_s, need_of hzz, hw, Int.toNat_natCast, need_of (by simp [inRange]; omega), put_sl h1 0 _ _ _ (by simp), Nat.mul_one]
        have s2 := Same.set σ a (.own (List.set [.slice ad l.length z, .int .i64 (0 : Nat)] 0 (.slice (subA ad (i + 1)) (l.length - (i + 1)) z)) 230)
        refine ⟨_, rfl, ⟨⟨subA ad (i + 1), z, by rw [get_set_same, List.length_drop]; rfl, hb.same s2 (fun q hq => by simp; rintro rfl; exact hne hq), h3⟩, hlt, hne⟩, s2⟩
      have lead : i ≠ 8 → ∃ σ', br (decide (c.toNat < 128)) (St.ld σ a (0 + 0) fun v11 => asSl v11 fun v12 v13 v14 => need (Nat.beq v14 0 || Nat.beq v14 1) (need (inRange (IntKind.wrap .i64 ((i : Int) + 1)) ((v13 : Int) + 1)) (St.put σ a (0 + 0) [.slice (subA v12 (Int.toNat (IntKind.wrap .i64 ((i : Int) + 1)) * 1)) (v13 - Int.toNat (IntKind.wrap .i64 ((i : Int) + 1))) v14] fun v15 => some (Value.int .i64 ((acc + c.toNat % 128 * 128 ^ i : Nat) : Int), v15))))
          (lpAt Tryz.prog env L (k + 1) 126 [true, true, true, false, true] [] n [(0, .pointer (some ⟨a, 0, none⟩)), (3, .int .i64 ((acc + c.toNat % 128 * 128 ^ i : Nat) : Int)), (12, .slice (some ⟨r, o, none⟩) l.length z), (13, .int .i64 l.length), (14, .int .i64 (IntKind.wrap .i64 ((i : Int) + 1)))] σ) =
            (if 0 < i ∧ c.toNat = 0 then (br (decide (c.toNat < 128)) (St.ld σ a (0 + 0) fun v11 => asSl v11 fun v12 v13 v14 => need (Nat.beq v14 0 || Nat.beq v14 1) (need (inRange (IntKind.wrap .i64 ((i : Int) + 1)) ((v13 : Int) + 1)) (St.put σ a (0 + 0) [.slice (subA v12 (Int.toNat (IntKind.wrap .i64 ((i : Int) + 1)) * 1)) (v13 - Int.toNat (IntKind.wrap .i64 ((i : Int) + 1))) v14] fun v15 => some (Value.int .i64 ((acc + c.toNat % 128 * 128 ^ i : Nat) : Int), v15))))
          (lpAt Tryz.prog env L (k + 1) 126 [true, true, true, false, true] [] n [(0, .pointer (some ⟨a, 0, none⟩)), (3, .int .i64 ((acc + c.toNat % 128 * 128 ^ i : Nat) : Int)), (12, .slice (some ⟨r, o, none⟩) l.length z), (13, .int .i64 l.length), (14, .int .i64 (IntKind.wrap .i64 ((i : Int) + 1)))] σ)) else some (.int .i64 (rn i acc (c :: l.drop (i + 1))).2.1, σ')) ∧ (¬ (0 < i ∧ c.toNat = 0) → Rd σ' a (rn i acc (c :: l.drop (i + 1))).1 (rn i acc (c :: l.drop (i + 1))).2.2 F ∧ Same σ σ' [a]) := by
        intro h8
        by_cases hz0 : 0 < i ∧ c.toNat = 0
        · exact ⟨σ, by rw [if_pos hz0], fun h => absurd hz0 h⟩
        · by_cases c128 : c.toNat < 128
          · obtain ⟨σ', e, r2, s2⟩ := last c128 (fun h => h8 h.1) hz0
            exact ⟨σ', by rw [if_neg hz0, decide_eq_true c128, br_true, e], fun _ => ⟨r2, s2⟩⟩
          · have ha' : acc + c.toNat % 128 * 128 ^ i < 128 ^ (i + 1) := by
              have : c.toNat % 128 * 128 ^ i ≤ 127 * 128 ^ i := Nat.mul_le_mul_right _ (by omega)
              rw [Nat.pow_succ]; omega
            obtain ⟨σ', e, r2, s2⟩ := rn_loop L k h1 h2 h3 hlt hne hl n (i + 1) (acc + c.toNat % 128 * 128 ^ i) (by omega) ha' (by omega) (by omega)
            have hrn : rn i acc (c :: l.drop (i + 1)) = rn (i + 1) (acc + c.toNat % 128 * 128 ^ i) (l.drop (i + 1)) := by
              conv => lhs; unfold rn
              rw [if_neg (fun h => h8 h.1), if_neg hz0, if_neg c128]
            rw [hrn]
            exact ⟨σ', by rw [if_neg hz0, decide_eq_false c128, br_false, hw, ← e0, e], fun _ => ⟨r2, s2⟩⟩
      have hci : decide ((c.toNat : Int) < 128) = decide (c.toNat < 128) := by
        by_cases h : c.toNat < 128
        · rw [decide_eq_true h, decide_eq_true (by omega)]
        · rw [decide_eq_false h, decide_eq_false (by omega)]
      rw [hci]
      have h0w : ∀ (hw1 : rn i acc (c :: l.drop (i + 1)) = (1, 0, [])), ∃ σ', (bnd (evCall Tryz.prog env L (k + 1) 141 [.pointer (some ⟨a, 0, none⟩), .int .i64 1] σ) fun v5 v6 => asI .i64 v5 fun v7 => some (Value.int .i64 v7, v6)) = some (.int .i64 (rn i acc (c :: l.drop (i + 1))).2.1, σ') ∧ Rd σ' a (rn i acc (c :: l.drop (i + 1))).1 (rn i acc (c :: l.drop (i + 1))).2.2 F ∧ Same σ σ' [a] := by
        intro hw1
        rw [hw1, g1, bnd_some, asI_i]
        exact ⟨σ1, rfl, r1, s1⟩
      by_cases h8 : i = 8
      · have e8 : (128 : Nat) ^ i = 72057594037927936 := by rw [h8]
        rw [show ((i : Int) == 8) = true by rw [beq_iff_eq]; omega, br_true]
        by_cases h128 : 128 ≤ c.toNat
        · rw [decide_eq_true (by omega), br_true]
          exact h0w (by unfold rn; rw [if_pos (by omega)])
        · rw [decide_eq_false (by omega), br_false]
          by_cases h15 : 15 < c.toNat
          · have hgt : ((acc + c.toNat % 128 * 128 ^ i : Nat) : Int) > 1152921504606846975 := by rw [e8]; omega
            rw [decide_eq_true hgt, br_true, br_true]
            exact h0w (by unfold rn; rw [if_pos ⟨h8, h15⟩])
          · have hgt : ¬ ((acc + c.toNat % 128 * 128 ^ i : Nat) : Int) > 1152921504606846975 := by rw [e8] at ha ⊢; omega
            rw [decide_eq_false hgt, br_false, decide_eq_true (by omega), br_true]
            by_cases h0 : c.toNat = 0
            · rw [show ((c.toNat : Int) == 0) = true by rw [beq_iff_eq]; omega, br_true]
              exact h0w (by unfold rn; rw [if_neg (by omega), if_pos (by omega)])
            · rw [show ((c.toNat : Int) == 0) = false by rw [beq_eq_false_iff_ne]; omega, br_false, decide_eq_true (by omega : c.toNat < 128), br_true]
              exact last (by omega) (by omega) (by omega)
      · rw [show ((i : Int) == 8) = false by rw [beq_eq_false_iff_ne]; omega, br_false]
        obtain ⟨σ', e, hr⟩ := lead h8
        by_cases hi0 : 0 < i
        · rw [decide_eq_true (by omega), br_true]
          by_cases h0 : c.toNat = 0
          · rw [show ((c.toNat : Int) == 0) = true by rw [beq_iff_eq]; omega, br_true]
            exact h0w (by unfold rn; rw [if_neg (by omega), if_pos (by omega)])
          · rw [show ((c.toNat : Int) == 0) = false by rw [beq_eq_false_iff_ne]; omega, br_false]
            rw [if_neg (by omega)] at e
            exact ⟨σ', e, hr (by omega)⟩
        · rw [decide_eq_false (by omega), br_false]
          rw [if_neg (by omega)] at e
          exact ⟨σ', e, hr (by omega)⟩
theorem number_spec (L k : Nat) (hL : 100000 < L) {σ : St} {a e : Nat} {l : List UInt8} {F : List Nat} (h : Rd σ a e l F) (hl : l.length ≤ 10000) :
    ∃ σ', evCall Tryz.prog env L (k + 2) 126 [.pointer (some ⟨a, 0, none⟩)] σ = some (.int .i64 (rnum e l).2.1, σ') ∧ Rd σ' a (rnum e l).1 (rnum e l).2.2 F ∧ Same σ σ' [a] := by
  rw [f126_eq, err_spec L k h, bnd_some, asI_i]
  unfold rnum
  by_cases he : e = 0
  · subst he
    obtain ⟨ad, z, h1, h2, h3⟩ := h.ex
    rw [show (((0 : Nat) : Int) != 0) = false from rfl, br_false, ld_at h1 0 _ rfl, asSl_s, if_neg (by simp)]
    exact rn_loop L k h1 h2 h3 h.lt h.ne (by omega) L 0 0 (by omega) (by simp) (by omega) (by omega)
  · rw [show ((e : Int) != 0) = true by rw [bne_iff_ne]; omega, br_true, if_pos he]
    exact ⟨σ, rfl, h, Same.refl _ _⟩
theorem rn_le : ∀ (l : List UInt8) (i acc : Nat), (rn i acc l).2.2.length ≤ l.length
  | [], i, acc => by simp [rn]
  | c :: r, i, acc => by
    unfold rn
    split
    · simp
    split
    · simp
    split
    · simp
    · have := rn_le r (i + 1) (acc + c.toNat % 128 * 128 ^ i); simp only [List.length_cons]; omega
theorem rnum_le (e : Nat) (l : List UInt8) : (rnum e l).2.2.length ≤ l.length := by
  unfold rnum; split
  · exact Nat.le_refl _
  · exact rn_le _ _ _
theorem text_read (L k : Nat) (hL : 100000 < L) {σ : St} {a e : Nat} {l : List UInt8} {F : List Nat} (h : Rd σ a e l F) (hl : l.length ≤ 10000) (most : Nat) :
    ∃ σ', evCall Tryz.prog env L (k + 3) 142 [.pointer (some ⟨a, 0, none⟩), .int .i64 most] σ = some (.string (str (rtext most e l).2.1), σ') ∧ Rd σ' a (rtext most e l).1 (rtext most e l).2.2 F ∧ Same σ σ' [a] := by
  obtain ⟨σ1, g1, r1, s1⟩ := number_spec L k hL h hl
  have hle := rnum_le e l
  rw [f142_eq, g1, bnd_some, asI_i, err_spec L (k + 1) r1, bnd_some, asI_i]
  unfold rtext
  generalize rnum e l = p at r1 hle
  obtain ⟨c, n, r⟩ := p
  dsimp only at r1 hle ⊢
  by_cases hc : c = 0
  rotate_left
  · rw [show ((c : Int) != 0) = true by rw [bne_iff_ne]; omega, br_true, if_pos hc]
    exact ⟨σ1, rfl, r1, s1⟩
  rw [show ((c : Int) != 0) = false by rw [hc]; rfl, br_false, if_neg (by omega)]
  by_cases hm : most < n
  · obtain ⟨σ2, g2, r2, s2⟩ := wrongr_spec L (k + 1) r1 1
    rw [show ((1 : Nat) : Int) = 1 from rfl] at g2
    rw [decide_eq_true (by omega), br_true, g2, bnd_some, asI_i, if_pos hm]
    exact ⟨σ2, rfl, r2, s1.trans s2⟩
  rw [decide_eq_false (by omega), br_false, if_neg hm]
  obtain ⟨ad, z, h1, h2, h3⟩ := r1.ex
  have hzz : (Nat.beq z 0 || Nat.beq z 1) = true := by rcases h3 with e | e <;> rw [e] <;> rfl
  rw [ld_at h1 0 _ rfl, asSl_s]
  by_cases hn : r.length < n
  · obtain ⟨σ2, g2, r2, s2⟩ := wrongr_spec L (k + 1) r1 2
    rw [show ((2 : Nat) : Int) = 2 from rfl] at g2
    rw [decide_eq_true (by omega), br_true, g2, bnd_some, asI_i, if_pos hn]
    exact ⟨σ2, rfl, r2, s1.trans s2⟩
  · have hb := Bytes.sub h2 0 n (by omega)
    have hb2 := Bytes.sub h2 n (r.length - n) (by omega)
    rw [List.take_of_length_le (by rw [List.length_drop]; omega)] at hb2
    have hlen : ((r.drop 0).take n).length = n := by rw [List.length_take, List.length_drop]; omega
    rw [decide_eq_false (by omega), br_false, ld_at h1 0 _ rfl, asSl_s, need_of hzz, need_of (by simp [inRange]; omega), hb.row _ (by rw [hlen, Int.toNat_natCast, Nat.sub_zero]), asBy_by8, ld_at h1 0 _ rfl, asSl_s, need_of hzz, need_of (by simp [inRange]; omega), put_sl h1 0 _ _ _ (by simp), Int.toNat_natCast, Nat.mul_one, if_neg hn, List.drop_zero]
    have s2 := Same.set σ1 a (.own (List.set [.slice ad r.length z, .int .i64 (c : Int)] 0 (.slice (subA ad n) (r.length - n) z)) 230)
    refine ⟨_, rfl, ⟨⟨subA ad n, z, by rw [get_set_same, List.length_drop, hc]; rfl, hb2.same s2 (fun q hq => by simp; rintro rfl; exact r1.ne hq), h3⟩, r1.lt, r1.ne⟩, s1.trans s2⟩
theorem read_spec (L k : Nat) {σ : St} {ad : Option Addr} {z : Nat} {l : List UInt8} {F : List Nat} (h : Bytes σ ad l F) (hz : z = 0 ∨ z = 1) : ∃ σ', evCall Tryz.prog env L (k + 1) 125 [.slice ad l.length z] σ = some (.pointer (some ⟨σ.next, 0, none⟩), σ') ∧ Rd σ' σ.next 0 l F ∧ Same σ σ' [] := by
  rw [f125_eq]
  have s1 := Same.new σ (.own [.slice ad l.length z, .int .i64 0] 230) []
  exact ⟨_, rfl, ⟨⟨ad, z, get_new_same _ _, h.same s1 (by simp), hz⟩, by simp, fun hq => by have := h.lt _ hq; omega⟩, s1⟩
structure Dd (σ : St) (a : Nat) (e : Nat) (l : List UInt8) : Prop where
  ex : σ.get a = some (.own [.string (str l), .int .i64 e] 130)
  lt : a < σ.next
theorem put_str {σ : St} {r : Nat} {vs : List Value} {e : TypeId} (h : σ.get r = some (.own vs e)) (o : Nat) (s : ByteArray) (ho : o < vs.length) (K : St → Res) : σ.put r o [.string s] K = K (σ.set r (.own (vs.set o (.string s)) e)) := put_at h o _ ho rfl K
theorem wrongd_spec (L k : Nat) {σ : St} {a e : Nat} {l : List UInt8} (h : Dd σ a e l) (c : Nat) : ∃ σ', evCall Tryz.prog env L (k + 1) 94 [.pointer (some ⟨a, 0, none⟩), .int .i64 c] σ = some (.tuple #[], σ') ∧ Dd σ' a c [] ∧ Same σ σ' [a] := by
  have h1 := h.ex
  have hlt := h.lt
  have s1 := Same.set σ a (.own (List.set [.string (str l), .int .i64 e] 1 (.int .i64 c)) 130)
  have g1 : (σ.set a (.own (List.set [.string (str l), .int .i64 e] 1 (.int .i64 c)) 130)).get a = some (.own [.string (str l), .int .i64 c] 130) := get_set_same _ _ _
  rw [f94_eq, put_int h1 1 _ _ (by simp)]
  generalize σ.set a (.own (List.set [.string (str l), .int .i64 e] 1 (.int .i64 c)) 130) = σ1 at s1 g1
  rw [put_str g1 0 _ (by simp)]
  have s2 := Same.set σ1 a (.own (List.set [.string (str l), .int .i64 c] 0 (.string ⟨#[]⟩)) 130)
  have s12 := s1.trans s2
  exact ⟨_, rfl, ⟨get_set_same _ _ _, by have := s12.1; omega⟩, s12⟩
theorem rd_loop (L k : Nat) {σ : St} {a : Nat} {l : List UInt8} (h : Dd σ a 0 l) (hl : l.length ≤ 100000) : ∀ (n i acc : Nat), i ≤ 8 → acc < 128 ^ i → i ≤ l.length → 8 - i < n →
    ∃ σ', lpAt Tryz.prog env L (k + 1) 51 [true, true, true, false, true] [] n [(0, .pointer (some ⟨a, 0, none⟩)), (3, .int .i64 acc), (4, .int .i64 ((128 ^ i : Nat) : Int)), (5, .int .i64 i)] σ = some (.int .i64 (rn i acc (l.drop i)).2.1, σ') ∧ Dd σ' a (rn i acc (l.drop i)).1 (rn i acc (l.drop i)).2.2 ∧ Same σ σ' [a]
  | 0, i, acc, _, _, _, h => by omega
  | n + 1, i, acc, hi8, ha, hi, hn => by
    have h1 := h.ex
    rw [f51_l5, decide_eq_true (by omega), br_true, ld_at h1 0 _ rfl, asS_s, str_size]
    by_cases hie : i = l.length
    · obtain ⟨σ1, g1, r1, s1⟩ := wrongd_spec L k h 2
      rw [show ((2 : Nat) : Int) = 2 from rfl] at g1
      rw [decide_eq_true (by omega), br_true, hie, List.drop_length, g1, bnd_some, asT_t, toList0, endl_n]
      exact ⟨σ1, rfl, r1, s1⟩
    · have hget : l[i]? = some l[i] := List.getElem?_eq_getElem (by omega)
      have hd : l.drop i = l[i] :: l.drop (i + 1) := List.drop_eq_getElem_cons (by omega)
      have hgd : List.getD (ByteArray.data (str l)).1 (Int.toNat (i : Int)) (0 : UInt8) = l[i] := by
        rw [Int.toNat_natCast, List.getD_eq_getElem?_getD]
        show (l[i]?).getD 0 = _
        rw [hget]; rfl
      rw [hd]
      have hp := pow_le i hi8
      have hc' := (l[i]).toNat_lt
      have hwc : IntKind.wrap .i64 ((l[i]).toNat : Int) = ((l[i]).toNat : Int) := wrap_in _ (by omega) (by omega)
      rw [decide_eq_false (by omega), br_false, ld_at h1 0 _ rfl, asS_s, need_of (by rw [str_size]; simp [inRange]; omega), hgd, hwc]
      generalize l[i] = c at hc'
      have hw : IntKind.wrap .i64 ((i : Int) + 1) = ((i + 1 : Nat) : Int) := by rw [wrap_in _ (by omega) (by omega)]; omega
      have hxp : c.toNat % 128 * 128 ^ i ≤ 127 * 72057594037927936 := Nat.mul_le_mul (by omega) hp
      have hv : IntKind.wrap .i64 ((acc : Int) + IntKind.wrap .i64 (Int.tmod (c.toNat : Int) 128 * ((128 ^ i : Nat) : Int))) = ((acc + c.toNat % 128 * 128 ^ i : Nat) : Int) := by
        have e1 : Int.tmod (c.toNat : Int) 128 * ((128 ^ i : Nat) : Int) = ((c.toNat % 128 * 128 ^ i : Nat) : Int) := by
          rw [Int.tmod_eq_emod_of_nonneg (by omega), Int.natCast_mul]; rfl
        rw [e1, wrap_in ((c.toNat % 128 * 128 ^ i : Nat) : Int) (by omega) (by omega), wrap_in _ (by omega) (by omega)]; omega
      rw [hv]
      obtain ⟨σ1, g1, r1, s1⟩ := wrongd_spec L k h 1
      rw [show ((1 : Nat) : Int) = 1 from rfl] at g1
      have bad : ∀ (hw1 : rn i acc (c :: l.drop (i + 1)) = (1, 0, [])), ∃ σ', (bnd (evCall Tryz.prog env L (k + 1) 94 [.pointer (some ⟨a, 0, none⟩), .int .i64 1] σ) fun v5 v6 => asT v5 fun v7 => endl v7 (some (Value.int .i64 0, v6))) = some (.int .i64 (rn i acc (c :: l.drop (i + 1))).2.1, σ') ∧ Dd σ' a (rn i acc (c :: l.drop (i + 1))).1 (rn i acc (c :: l.drop (i + 1))).2.2 ∧ Same σ σ' [a] := by
        intro hw1
        rw [hw1, g1, bnd_some, asT_t, toList0, endl_n]
        exact ⟨σ1, rfl, r1, s1⟩
      have last : ∀ (c128 : c.toNat < 128) (hno : ¬ (i = 8 ∧ 15 < c.toNat)) (hno2 : ¬ (0 < i ∧ c.toNat = 0)), ∃ σ', (St.ld σ a (0 + 0) fun v14 => asS v14 fun v15 => need (inRange (IntKind.wrap .i64 ((i : Int) + 1)) (((ByteArray.size v15 : Nat) : Int) + 1)) (St.put σ a (0 + 0) [.string (ByteArray.extract v15 (Int.toNat (IntKind.wrap .i64 ((i : Int) + 1))) (ByteArray.size v15))] fun v16 => some (Value.int .i64 ((acc + c.toNat % 128 * 128 ^ i : Nat) : Int), v16))) =
          some (.int .i64 (rn i acc (c :: l.drop (i + 1))).2.1, σ') ∧ Dd σ' a (rn i acc (c :: l.drop (i + 1))).1 (rn i acc (c :: l.drop (i + 1))).2.2 ∧ Same σ σ' [a] := by
        intro c128 hno hno2
        have hrn : rn i acc (c :: l.drop (i + 1)) = (0, acc + c.toNat % 128 * 128 ^ i, l.drop (i + 1)) := by
          unfold rn; rw [if_neg hno, if_neg hno2, if_pos c128]
        rw [hrn, ld_at h1 0 _ rfl, asS_s, hw, Int.toNat_natCast, need_of (by rw [str_size]; simp [inRange]; omega), put_str h1 0 _ (by simp), str_size, str_ext, List.take_of_length_le (by rw [List.length_drop]; omega)]
        exact ⟨_, rfl, ⟨get_set_same _ _ _, h.lt⟩, Same.set _ _ _⟩
      have hci : decide ((c.toNat : Int) < 128) = decide (c.toNat < 128) := by
        by_cases h : c.toNat < 128
        · rw [decide_eq_true h, decide_eq_true (by omega)]
        · rw [decide_eq_false h, decide_eq_false (by omega)]
      rw [hci]
      by_cases h8 : i = 8
      · rw [show ((i : Int) == 8) = true by rw [beq_iff_eq]; omega, br_true]
        by_cases h15 : 15 < c.toNat
        · rw [decide_eq_true (by omega), br_true]
          exact bad (by unfold rn; rw [if_pos ⟨h8, h15⟩])
        · rw [decide_eq_false (by omega), br_false, decide_eq_true (by omega : c.toNat < 128), br_true, decide_eq_true (by omega), br_true]
          by_cases h0 : c.toNat = 0
          · rw [show ((c.toNat : Int) == 0) = true by rw [beq_iff_eq]; omega, br_true]
            exact bad (by unfold rn; rw [if_neg (by omega), if_pos (by omega)])
          · rw [show ((c.toNat : Int) == 0) = false by rw [beq_eq_false_iff_ne]; omega, br_false]
            exact last (by omega) (by omega) (by omega)
      · rw [show ((i : Int) == 8) = false by rw [beq_eq_false_iff_ne]; omega, br_false]
        by_cases c128 : c.toNat < 128
        · rw [decide_eq_true c128, br_true]
          by_cases hi0 : 0 < i
          · rw [decide_eq_true (by omega), br_true]
            by_cases h0 : c.toNat = 0
            · rw [show ((c.toNat : Int) == 0) = true by rw [beq_iff_eq]; omega, br_true]
              exact bad (by unfold rn; rw [if_neg (by omega), if_pos (by omega)])
            · rw [show ((c.toNat : Int) == 0) = false by rw [beq_eq_false_iff_ne]; omega, br_false]
              exact last c128 (by omega) (by omega)
          · rw [decide_eq_false (by omega), br_false]
            exact last c128 (by omega) (by omega)
        · have ha' : acc + c.toNat % 128 * 128 ^ i < 128 ^ (i + 1) := by
            have : c.toNat % 128 * 128 ^ i ≤ 127 * 128 ^ i := Nat.mul_le_mul_right _ (by omega)
            rw [Nat.pow_succ]; omega
          obtain ⟨σ', e, r2, s2⟩ := rd_loop L k h hl n (i + 1) (acc + c.toNat % 128 * 128 ^ i) (by omega) ha' (by omega) (by omega)
          have hrn : rn i acc (c :: l.drop (i + 1)) = rn (i + 1) (acc + c.toNat % 128 * 128 ^ i) (l.drop (i + 1)) := by
            conv => lhs; unfold rn
            rw [if_neg (fun h => h8 h.1), if_neg (by omega), if_neg c128]
          have hp7 : 128 ^ i ≤ 562949953421312 := by
            have : 128 ^ i ≤ 128 ^ 7 := Nat.pow_le_pow_right (by omega) (by omega)
            have e : (128 : Nat) ^ 7 = 562949953421312 := by decide
            omega
          have hu : IntKind.wrap .i64 (((128 ^ i : Nat) : Int) * 128) = ((128 ^ (i + 1) : Nat) : Int) := by
            rw [Nat.pow_succ, wrap_in _ (by omega) (by omega), Int.natCast_mul]; rfl
          rw [hrn, decide_eq_false c128, br_false, hw, hu, e]
          exact ⟨σ', rfl, r2, s2⟩
theorem rnumber_spec (L k : Nat) (hL : 100000 < L) {σ : St} {a e : Nat} {l : List UInt8} (h : Dd σ a e l) (hl : l.length ≤ 10000) :
    ∃ σ', evCall Tryz.prog env L (k + 2) 51 [.pointer (some ⟨a, 0, none⟩)] σ = some (.int .i64 (rnum e l).2.1, σ') ∧ Dd σ' a (rnum e l).1 (rnum e l).2.2 ∧ Same σ σ' [a] := by
  rw [f51_eq, ld_at h.ex 1 _ rfl, asI_i]
  unfold rnum
  by_cases he : e = 0
  · subst he
    rw [show (((0 : Nat) : Int) != 0) = false from rfl, br_false, if_neg (by simp)]
    exact rd_loop L k h (by omega) L 0 0 (by omega) (by simp) (by omega) (by omega)
  · rw [show ((e : Int) != 0) = true by rw [bne_iff_ne]; omega, br_true, if_pos he]
    exact ⟨σ, rfl, h, Same.refl _ _⟩
theorem rtext_read (L k : Nat) (hL : 100000 < L) {σ : St} {a e : Nat} {l : List UInt8} (h : Dd σ a e l) (hl : l.length ≤ 10000) (most : Nat) :
    ∃ σ', evCall Tryz.prog env L (k + 3) 52 [.pointer (some ⟨a, 0, none⟩), .int .i64 most] σ = some (.string (str (rtext most e l).2.1), σ') ∧ Dd σ' a (rtext most e l).1 (rtext most e l).2.2 ∧ Same σ σ' [a] := by
  obtain ⟨σ1, g1, r1, s1⟩ := rnumber_spec L k hL h hl
  have hle := rnum_le e l
  rw [f52_eq, g1, bnd_some, asI_i, ld_at r1.ex 1 _ rfl, asI_i]
  unfold rtext
  generalize rnum e l = p at r1 hle
  obtain ⟨c, n, r⟩ := p
  dsimp only at r1 hle ⊢
  by_cases hc : c = 0
  rotate_left
  · rw [show ((c : Int) != 0) = true by rw [bne_iff_ne]; omega, br_true, if_pos hc]
    exact ⟨σ1, rfl, r1, s1⟩
  rw [show ((c : Int) != 0) = false by rw [hc]; rfl, br_false, if_neg (by omega)]
  by_cases hm : most < n
  · obtain ⟨σ2, g2, r2, s2⟩ := wrongd_spec L (k + 1) r1 1
    rw [show ((1 : Nat) : Int) = 1 from rfl] at g2
    rw [decide_eq_true (by omega), br_true, g2, bnd_some, asT_t, toList0, endl_n, if_pos hm]
    exact ⟨σ2, rfl, r2, s1.trans s2⟩
  rw [decide_eq_false (by omega), br_false, if_neg hm]
  have h1 := r1.ex
  rw [ld_at h1 0 _ rfl, asS_s, str_size]
  by_cases hn : r.length < n
  · obtain ⟨σ2, g2, r2, s2⟩ := wrongd_spec L (k + 1) r1 2
    rw [show ((2 : Nat) : Int) = 2 from rfl] at g2
    rw [decide_eq_true (by omega), br_true, g2, bnd_some, asT_t, toList0, endl_n, if_pos hn]
    exact ⟨σ2, rfl, r2, s1.trans s2⟩
  · rw [decide_eq_false (by omega), br_false, ld_at h1 0 _ rfl, asS_s, need_of (by rw [str_size]; simp [inRange]; omega), ld_at h1 0 _ rfl, asS_s, need_of (by rw [str_size]; simp [inRange]; omega), put_str h1 0 _ (by simp), Int.toNat_natCast, str_size, str_ext, str_ext, if_neg hn, List.drop_zero, Nat.sub_zero, List.take_of_length_le (l := r.drop n) (by rw [List.length_drop]; omega)]
    exact ⟨_, rfl, ⟨by rw [get_set_same, hc]; rfl, r1.lt⟩, s1.trans (Same.set _ _ _)⟩
end Go.AM.Bk

namespace Go.AM.Bk
open Go.Proofs
def hsec (t m : Int) : List UInt8 := sector (enc (clip t) ++ enc (clip m))
def bsec (t : Int) (s : ByteArray) : List UInt8 := sector (enc (clip t) ++ (enc s.size ++ s.data.toList))
theorem enc9 (n : Int) : (enc (clip n)).length ≤ 9 := (enc_len 8 _ (clip_lt n)).2
theorem encs (n : Nat) (h : n ≤ 16) : (enc n).length = 1 := by rw [enc_small (by omega)]; rfl
theorem hs_len (t m : Int) : (enc (clip t) ++ enc (clip m)).length ≤ 60 := by have := enc9 t; have := enc9 m; rw [List.length_append]; omega
theorem size_list (s : ByteArray) : s.data.toList.length = s.size := by rw [Array.length_toList]; rfl
theorem bs_len (t : Int) (s : ByteArray) (h : s.size ≤ 16) : (enc (clip t) ++ (enc s.size ++ s.data.toList)).length ≤ 60 := by
  have := enc9 t; have := encs _ h; rw [List.length_append, List.length_append, size_list]; omega
theorem hsec_len (t m : Int) : (hsec t m).length = 64 := sector_len (hs_len t m)
theorem bsec_len (t : Int) (s : ByteArray) (h : s.size ≤ 16) : (bsec t s).length = 64 := sector_len (bs_len t s h)
theorem hsector_spec (L k : Nat) (hL : 100000 < L) (σ : St) (t m : Int) : ∃ ad z qs σ', evCall Tryz.prog env L (k + 6) 112 [.agg [.int .i64 t, .int .i64 m].toArray] σ = some (.slice ad 64 z, σ') ∧ Row c8 1 5 σ' ad z qs (hsec t m) ∧ Same σ σ' [] ∧ ∀ q ∈ qs, σ.next ≤ q := by
  rw [f112_eq]
  have s1 : Same σ (σ.new (Blk.own [Value.int .i64 t, Value.int .i64 m] 166)) [] := Same.new _ _ _
  have g1 : (σ.new (Blk.own [Value.int .i64 t, Value.int .i64 m] 166)).get σ.next = some (Blk.own [Value.int .i64 t, Value.int .i64 m] 166) := get_new_same _ _
  have n1 : (σ.new (Blk.own [Value.int .i64 t, Value.int .i64 m] 166)).next = σ.next + 1 := rfl
  generalize σ.new (Blk.own [Value.int .i64 t, Value.int .i64 m] 166) = σ1 at s1 g1 n1
  obtain ⟨ad2, z2, q2, σ2, g2, r2, s2, f2⟩ := num_spec L (k + 4) (by omega) (Row.nil c8 1 5 σ1) (by simp) t
  have g2' : evCall Tryz.prog env L (k + 5) 133 [.slice none 0 0, .int .i64 t] σ1 = _ := g2
  rw [List.nil_append] at g2' r2
  have hs2 : σ2.get σ.next = _ := (s2.2 σ.next (by omega) (by simp)).trans g1
  obtain ⟨ad3, z3, q3, σ3, g3, r3, s3, f3⟩ := num_spec L (k + 4) (by omega) r2 (by have := enc9 t; omega) m
  obtain ⟨ad4, z4, q4, σ4, g4, r4, s4, f4⟩ := sector_spec L k hL (z := z3) (row_bytes r3) (hs_len t m)
  rw [ld_at g1 0 _ rfl, asI_i, g2', bnd_some, asSl_s, ld_at hs2 1 _ rfl, asI_i, ld_at g1 1 _ rfl, asI_i, chk_same, g3, bnd_some, asSl_s, g4, bnd_some, asT_t, toList2, uncons_c, asSl_s, uncons_c, asB_b, endl_n]
  have f2' : ∀ q ∈ q2, σ.next ≤ q := fun q hq => by rcases f2 q hq with h | h; cases h; omega
  have s03 : Same σ σ3 [] := (s1.trans s2).fresh s3 (fun x hx => .inr (f2' x hx))
  exact ⟨ad4, z4, q4, σ4, rfl, r4, s03.trans s4, fun q hq => by have := f4 q hq; have := s03.1; omega⟩
theorem bsector_spec (L k : Nat) (hL : 100000 < L) (σ : St) (t m : Int) (s : ByteArray) (hs : s.size ≤ 16) : ∃ ad z qs σ', evCall Tryz.prog env L (k + 6) 110 [.agg [.int .i64 t, .int .i64 m].toArray, .string s] σ = some (.slice ad 64 z, σ') ∧ Row c8 1 5 σ' ad z qs (bsec t s) ∧ Same σ σ' [] ∧ ∀ q ∈ qs, σ.next ≤ q := by
  rw [f110_eq]
  have s1 : Same σ (σ.new (Blk.own [Value.int .i64 t, Value.int .i64 m] 166)) [] := Same.new _ _ _
  have g1 : (σ.new (Blk.own [Value.int .i64 t, Value.int .i64 m] 166)).get σ.next = some (Blk.own [Value.int .i64 t, Value.int .i64 m] 166) := get_new_same _ _
  have n1 : (σ.new (Blk.own [Value.int .i64 t, Value.int .i64 m] 166)).next = σ.next + 1 := rfl
  generalize σ.new (Blk.own [Value.int .i64 t, Value.int .i64 m] 166) = σ1 at s1 g1 n1
  obtain ⟨ad2, z2, q2, σ2, g2, r2, s2, f2⟩ := num_spec L (k + 4) (by omega) (Row.nil c8 1 5 σ1) (by simp) t
  have g2' : evCall Tryz.prog env L (k + 5) 133 [.slice none 0 0, .int .i64 t] σ1 = _ := g2
  rw [List.nil_append] at g2' r2
  obtain ⟨ad3, z3, q3, σ3, g3, r3, s3, f3⟩ := text_spec L (k + 3) (by omega) r2 (by have := enc9 t; omega) s (by omega)
  rw [List.append_assoc] at g3 r3
  obtain ⟨ad4, z4, q4, σ4, g4, r4, s4, f4⟩ := sector_spec L k hL (z := z3) (row_bytes r3) (bs_len t s hs)
  rw [ld_at g1 0 _ rfl, asI_i, g2', bnd_some, asSl_s, g3, bnd_some, asSl_s, g4, bnd_some, asT_t, toList2, uncons_c, asSl_s, uncons_c, asB_b, endl_n]
  have f2' : ∀ q ∈ q2, σ.next ≤ q := fun q hq => by rcases f2 q hq with h | h; cases h; omega
  have s03 : Same σ σ3 [] := (s1.trans s2).fresh s3 (fun x hx => .inr (f2' x hx))
  exact ⟨ad4, z4, q4, σ4, rfl, r4, s03.trans s4, fun q hq => by have := f4 q hq; have := s03.1; omega⟩
theorem rhead_spec (L k : Nat) (hL : 100000 < L) (σ : St) (t m : Int) : ∃ σ', evCall Tryz.prog env L (k + 4) 92 [.int .i64 t, .int .i64 m] σ = some (.string (str (hsec t m)), σ') ∧ Same σ σ' [] := by
  obtain ⟨σ1, g1, s1⟩ := rnum_spec L (k + 2) (by omega) σ t
  obtain ⟨σ2, g2, s2⟩ := rnum_spec L (k + 2) (by omega) σ1 m
  obtain ⟨σ3, g3, s3⟩ := rsector_spec L k hL σ2 _ (hs_len t m)
  have := enc9 t; have := enc9 m
  rw [f92_eq, g1, bnd_some, asS_s, g2, bnd_some, asS_s, need_of (by rw [decide_eq_true_eq, str_size, str_size]; omega)]
  have g3' : evCall Tryz.prog env L (k + 3) 95 [Value.string ⟨⟨(ByteArray.data (str (enc (clip t)))).1 ++ (ByteArray.data (str (enc (clip m)))).1⟩⟩] σ2 = _ := g3
  rw [g3', bnd_some, asT_t, toList2, uncons_c, asS_s, uncons_c, asB_b, endl_n]
  exact ⟨σ3, rfl, (s1.trans s2).trans s3⟩
theorem rblock_spec (L k : Nat) (hL : 100000 < L) (σ : St) (t : Int) (s : ByteArray) (hs : s.size ≤ 16) : ∃ σ', evCall Tryz.prog env L (k + 4) 53 [.int .i64 t, .string s] σ = some (.string (str (bsec t s)), σ') ∧ Same σ σ' [] := by
  obtain ⟨σ1, g1, s1⟩ := rnum_spec L (k + 2) (by omega) σ t
  obtain ⟨σ2, g2, s2⟩ := rtext_spec L (k + 1) (by omega) σ1 s (by omega)
  obtain ⟨σ3, g3, s3⟩ := rsector_spec L k hL σ2 _ (bs_len t s hs)
  have := enc9 t; have := encs _ hs
  rw [f53_eq, g1, bnd_some, asS_s, g2, bnd_some, asS_s, need_of (by rw [decide_eq_true_eq, str_size, str_size, List.length_append, size_list]; omega)]
  have g3' : evCall Tryz.prog env L (k + 3) 95 [Value.string ⟨⟨(ByteArray.data (str (enc (clip t)))).1 ++ (ByteArray.data (str (enc s.size ++ s.data.toList))).1⟩⟩] σ2 = _ := g3
  rw [g3', bnd_some, asT_t, toList2, uncons_c, asS_s, uncons_c, asB_b, endl_n]
  exact ⟨σ3, rfl, (s1.trans s2).trans s3⟩
theorem bequal_spec (L k : Nat) {σ : St} {ad1 ad2 : Option Addr} {z1 z2 n1 n2 : Nat} {l m : List UInt8} {F G : List Nat} (h1 : Bytes σ ad1 l F) (h2 : Bytes σ ad2 m G) (e1 : n1 = l.length) (e2 : n2 = m.length) : evCall Tryz.prog env L (k + 1) 89 [.slice ad1 n1 z1, .slice ad2 n2 z2] σ = some (.bool (decide (l = m)), σ) := by
  rw [f89_eq, h1.row _ e1, asBy_by8, h2.row _ e2, asBy_by8]
  have : (ByteArray.toList ⟨List.toArray l⟩ == ByteArray.toList ⟨List.toArray m⟩) = decide (l = m) := str_inj
  rw [this]
def hof (l : List UInt8) (slot : Nat) : Nat × Nat :=
  match opened l with
  | none => (0, 0)
  | some b => if (rnum (rnum 0 b).1 (rnum 0 b).2.2).1 ≠ 0 ∨ (rnum 0 b).2.1 < 1 ∨ (rnum (rnum 0 b).1 (rnum 0 b).2.2).2.1 < 1 ∨ (rnum 0 b).2.1 % 2 ≠ slot ∨ hsec (rnum 0 b).2.1 (rnum (rnum 0 b).1 (rnum 0 b).2.2).2.1 ≠ l then (0, 0)
    else ((rnum 0 b).2.1, (rnum (rnum 0 b).1 (rnum 0 b).2.2).2.1)
theorem opened_len {l b : List UInt8} (h : opened l = some b) : b.length ≤ l.length := by
  unfold opened at h
  split at h
  · cases h; rw [List.length_take]; omega
  · cases h
theorem tmod2 (n : Nat) : Int.tmod (n : Int) 2 = ((n % 2 : Nat) : Int) := by rw [Int.tmod_eq_emod_of_nonneg (by omega)]; rfl
theorem headOf_spec (L k : Nat) (hL : 100000 < L) {σ : St} {ad : Option Addr} {z n : Nat} (hz : z = 0 ∨ z = 1) {l : List UInt8} {F : List Nat} (h : Bytes σ ad l F) (hl : l.length ≤ 5000) (hn : n = l.length) (slot : Nat) :
    ∃ σ', evCall Tryz.prog env L (k + 7) 90 [.slice ad n z, .int .i64 slot] σ = some (.agg [.int .i64 ((hof l slot).1 : Int), .int .i64 ((hof l slot).2 : Int)].toArray, σ') ∧ Same σ σ' [] := by
  subst hn
  rw [f90_eq]
  have s1 : Same σ (σ.new (Blk.own [Value.int .i64 0, Value.int .i64 0] 166)) [] := Same.new _ _ _
  have g1 : (σ.new (Blk.own [Value.int .i64 0, Value.int .i64 0] 166)).get σ.next = some (Blk.own [Value.int .i64 0, Value.int .i64 0] 166) := get_new_same _ _
  have n1 : (σ.new (Blk.own [Value.int .i64 0, Value.int .i64 0] 166)).next = σ.next + 1 := rfl
  generalize σ.new (Blk.own [Value.int .i64 0, Value.int .i64 0] 166) = σ1 at s1 g1 n1
  -- an answer
  have ret : ∀ {σ' : St} {vs : List Value} (x y : Int), σ'.get σ.next = some (.own vs 166) → vs.length = 2 → Same σ σ' [] → ∃ σ9, (σ'.put σ.next 0 [.int .i64 x, .int .i64 y] fun v34 => St.lds v34 σ.next 0 2 fun v35 => uncons v35 fun v36 v37 => asI .i64 v36 fun v38 => uncons v37 fun v39 v40 => asI .i64 v39 fun v41 => endl v40 (some (Value.agg #[Value.int .i64 v38, Value.int .i64 v41], v34))) = some (.agg [.int .i64 x, .int .i64 y].toArray, σ9) ∧ Same σ σ9 [] := by
    intro σ' vs x y hg hv hs
    have g9 : (σ'.set σ.next (.own [.int .i64 x, .int .i64 y] 166)).get σ.next = some (.own [.int .i64 x, .int .i64 y] 166) := get_set_same _ _ _
    refine ⟨σ'.set σ.next (.own [.int .i64 x, .int .i64 y] 166), ?_, ⟨hs.1, fun q hq _ => by rw [get_set (by omega)]; exact hs.2 q hq (by simp)⟩⟩
    rw [put_all (ws := [.int .i64 x, .int .i64 y]) hg hv.symm rfl, lds_all (n := 2) g9 rfl, uncons_c, asI_i, uncons_c, asI_i, endl_n]
  obtain ⟨σ2, s2, ho⟩ := open_spec L (k + 2) hL hz (h.same s1 (by simp)) (by omega)
  have s02 := s1.trans s2
  have ht2 : σ2.get σ.next = _ := (s2.2 σ.next (by omega) (by simp)).trans g1
  rcases ho with ⟨b, ad2, z2, F2, ho, g2, hB, hF2, hz2⟩ | ⟨ho, g2⟩
  rotate_left
  · obtain ⟨σ9, e9, s9⟩ := ret 0 0 ht2 rfl s02
    rw [g2, bnd_some, asT_t, toList2, uncons_c, asSl_s, uncons_c, asB_b, endl_n, not_false, br_true, e9]
    unfold hof; rw [ho]
    exact ⟨σ9, rfl, s9⟩
  have hbl := opened_len ho
  rw [g2, bnd_some, asT_t, toList2, uncons_c, asSl_s, uncons_c, asB_b, endl_n, not_true, br_false]
  obtain ⟨σ3, g3, hR3, s3⟩ := read_spec L (k + 5) (z := z2) hB hz2
  have ht3 : σ3.get σ.next = _ := (s3.2 σ.next (by have := s02.1; have := s2.1; omega) (by simp)).trans ht2
  have n2 := s2.1
  have n3 := s3.1
  obtain ⟨σ4, g4, hR4, s4⟩ := number_spec L (k + 4) hL hR3 (by omega)
  have hne : σ.next ≠ σ2.next := by omega
  have ht4 : σ4.get σ.next = _ := (s4.2 σ.next (by omega) (by simpa using hne)).trans ht3
  have n4 := s4.1
  have hle := rnum_le 0 b
  unfold hof
  rw [ho]
  dsimp only
  rw [g3, bnd_some, asP_p, g4, bnd_some, asI_i, need_true]
  generalize rnum 0 b = p1 at hR4 hle
  obtain ⟨e1, x1, r1⟩ := p1
  dsimp only at hR4 hle ⊢
  -- the head that is being read
  have s5 : Same σ4 (σ4.new (.own [.int .i64 x1, .int .i64 0] 166)) [] := Same.new _ _ _
  have g5 : (σ4.new (.own [.int .i64 x1, .int .i64 0] 166)).get σ4.next = some (.own [.int .i64 x1, .int .i64 0] 166) := get_new_same _ _
  have n5 : (σ4.new (.own [.int .i64 x1, .int .i64 0] 166)).next = σ4.next + 1 := rfl
  rw [tmp_put2 σ4 [Value.int .i64 0, Value.int .i64 0] [Value.int .i64 x1, Value.int .i64 0] 166 rfl rfl]
  generalize σ4.new (.own [.int .i64 x1, .int .i64 0] 166) = σ5 at s5 g5 n5
  have ht5 : σ5.get σ.next = _ := (s5.2 σ.next (by omega) (by simp)).trans ht4
  have hR5 := hR4.same s5 (by simp) (by simp)
  obtain ⟨σ6, g6, hR6, s6⟩ := number_spec L (k + 4) hL hR5 (by omega)
  have n6 := s6.1
  have hne2 : σ4.next ≠ σ2.next := by have := hR4.lt; omega
  have ht6 : σ6.get σ.next = _ := (s6.2 σ.next (by omega) (by simpa using hne)).trans ht5
  have hh6 : σ6.get σ4.next = _ := (s6.2 σ4.next (by omega) (by simpa using hne2)).trans g5
  rw [g6, bnd_some, asI_i]
  generalize rnum e1 r1 = p2 at hR6
  obtain ⟨e2, x2, r2⟩ := p2
  dsimp only at hR6 ⊢
  rw [put_int hh6 1 _ _ (by simp)]
  have s7 := Same.set σ6 σ4.next (.own (List.set [.int .i64 x1, .int .i64 0] 1 (.int .i64 x2)) 166)
  have g7 : (σ6.set σ4.next (.own (List.set [.int .i64 x1, .int .i64 0] 1 (.int .i64 x2)) 166)).get σ4.next = some (.own [.int .i64 x1, .int .i64 x2] 166) := get_set_same _ _ _
  generalize σ6.set σ4.next (.own (List.set [.int .i64 x1, .int .i64 0] 1 (.int .i64 x2)) 166) = σ7 at s7 g7
  have n7 := s7.1
  have hne3 : σ.next ≠ σ4.next := by omega
  have ht7 : σ7.get σ.next = _ := (s7.2 σ.next (by omega) (by simpa using hne3)).trans ht6
  have hR7 := hR6.same s7 (by simp; omega) (fun q hq => by simp; rintro rfl; have := hB.lt _ hq; omega)
  have s04 : Same σ σ4 [] := (s02.trans s3).fresh s4 (fun x hx => .inr (by simp at hx; subst hx; omega))
  have s06 : Same σ σ6 [] := (s04.trans s5).fresh s6 (fun x hx => .inr (by simp at hx; subst hx; omega))
  have s07 : Same σ σ7 [] := s06.fresh s7 (fun x hx => .inr (by simp at hx; subst hx; omega))
  rw [err_spec L (k + 5) hR7, bnd_some, asI_i]
  obtain ⟨σ9, e9, s9⟩ := ret 0 0 ht7 rfl s07
  by_cases he : e2 = 0
  rotate_left
  · rw [show ((e2 : Int) != 0) = true by rw [bne_iff_ne]; omega, br_true, e9, if_pos (.inl he)]
    exact ⟨σ9, rfl, s9⟩
  rw [show ((e2 : Int) != 0) = false by rw [he]; rfl, br_false, ld_at g7 0 _ rfl, asI_i]
  by_cases hx1 : x1 < 1
  · rw [decide_eq_true (by omega), br_true, e9, if_pos (.inr (.inl hx1))]
    exact ⟨σ9, rfl, s9⟩
  rw [decide_eq_false (by omega), br_false, ld_at g7 1 _ rfl, asI_i]
  by_cases hx2 : x2 < 1
  · rw [decide_eq_true (by omega), br_true, e9, if_pos (.inr (.inr (.inl hx2)))]
    exact ⟨σ9, rfl, s9⟩
  rw [decide_eq_false (by omega), br_false, ld_at g7 0 _ rfl, asI_i, tmod2]
  by_cases hsl : x1 % 2 = slot
  rotate_left
  · rw [show (((x1 % 2 : Nat) : Int) != (slot : Int)) = true by rw [bne_iff_ne]; omega, br_true, e9, if_pos (.inr (.inr (.inr (.inl hsl))))]
    exact ⟨σ9, rfl, s9⟩
  obtain ⟨ad8, z8, q8, σ8, g8, hR8, s8, f8⟩ := hsector_spec L k hL σ7 x1 x2
  have ht8 : σ8.get σ.next = _ := (s8.2 σ.next (by omega) (by simp)).trans ht7
  have hh8 : σ8.get σ4.next = _ := (s8.2 σ4.next (by omega) (by simp)).trans g7
  have eqs := bequal_spec L (k + 5) (z1 := z8) (z2 := z) (row_bytes hR8) ((h.same s07 (by simp)).same s8 (by simp)) (hsec_len _ _).symm rfl
  rw [show (((x1 % 2 : Nat) : Int) != (slot : Int)) = false by rw [hsl]; simp, br_false, lds_all (n := 2) g7 rfl, uncons_c, asI_i, uncons_c, asI_i, endl_n, g8, bnd_some, asSl_s, eqs, bnd_some, asB_b]
  by_cases heq : hsec x1 x2 = l
  · obtain ⟨σ10, e10, s10⟩ := ret (x1 : Int) (x2 : Int) ht8 rfl (s07.trans s8)
    rw [decide_eq_true heq, not_true, br_false, lds_all (n := 2) hh8 rfl, uncons_c, asI_i, uncons_c, asI_i, endl_n, e10, if_neg (fun h => by rcases h with h | h | h | h | h; exact h he; exact hx1 h; exact hx2 h; exact h hsl; exact h heq)]
    exact ⟨σ10, rfl, s10⟩
  · obtain ⟨σ10, e10, s10⟩ := ret 0 0 ht8 rfl (s07.trans s8)
    rw [decide_eq_false heq, not_false, br_true, e10, if_pos (.inr (.inr (.inr (.inr heq))))]
    exact ⟨σ10, rfl, s10⟩
theorem rheadOf_spec (L k : Nat) (hL : 100000 < L) {σ : St} {l : List UInt8} (hl : l.length ≤ 5000) (slot : Nat) :
    ∃ σ', evCall Tryz.prog env L (k + 5) 49 [.string (str l), .int .i64 slot] σ = some (.tuple #[.int .i64 ((hof l slot).1 : Int), .int .i64 ((hof l slot).2 : Int)], σ') ∧ Same σ σ' [] := by
  rw [f49_eq]
  obtain ⟨σ1, s1, ho⟩ := ropen_spec L (k + 1) hL σ l hl
  rcases ho with ⟨b, ho, g1⟩ | ⟨ho, g1⟩
  rotate_left
  · rw [g1, bnd_some, asT_t, toList2, uncons_c, asS_s, uncons_c, asB_b, endl_n, not_false, br_true]
    unfold hof; rw [ho]
    exact ⟨σ1, rfl, s1⟩
  have hbl := opened_len ho
  have hle := rnum_le 0 b
  rw [g1, bnd_some, asT_t, toList2, uncons_c, asS_s, uncons_c, asB_b, endl_n, not_true, br_false]
  unfold hof
  rw [ho]
  dsimp only
  have s2 : Same σ1 (σ1.new (Blk.own [Value.string (str b), Value.int .i64 0] 130)) [] := Same.new _ _ _
  have hD : Dd (σ1.new (Blk.own [Value.string (str b), Value.int .i64 0] 130)) σ1.next 0 b := ⟨get_new_same _ _, by simp⟩
  have n2 : (σ1.new (Blk.own [Value.string (str b), Value.int .i64 0] 130)).next = σ1.next + 1 := rfl
  generalize σ1.new (Blk.own [Value.string (str b), Value.int .i64 0] 130) = σ2 at s2 hD n2
  obtain ⟨σ3, g3, hD3, s3⟩ := rnumber_spec L (k + 2) hL hD (by omega)
  obtain ⟨σ4, g4, hD4, s4⟩ := rnumber_spec L (k + 2) hL hD3 (by omega)
  have n1 := s1.1
  have s04 : Same σ σ4 [] := (((s1.trans s2).fresh s3 (fun x hx => .inr (by simp at hx; subst hx; omega))).fresh s4 (fun x hx => .inr (by simp at hx; subst hx; omega)))
  rw [g3, bnd_some, asI_i, g4, bnd_some, asI_i, ld_at hD4.ex 1 _ rfl, asI_i]
  generalize rnum 0 b = p1 at hD4
  obtain ⟨e1, x1, r1⟩ := p1
  dsimp only at hD4 ⊢
  generalize rnum e1 r1 = p2 at hD4
  obtain ⟨e2, x2, r2⟩ := p2
  dsimp only at hD4 ⊢
  by_cases he : e2 = 0
  rotate_left
  · rw [show ((e2 : Int) != 0) = true by rw [bne_iff_ne]; omega, br_true, if_pos (.inl he)]
    exact ⟨σ4, rfl, s04⟩
  rw [show ((e2 : Int) != 0) = false by rw [he]; rfl, br_false]
  by_cases hx1 : x1 < 1
  · rw [decide_eq_true (by omega), br_true, if_pos (.inr (.inl hx1))]
    exact ⟨σ4, rfl, s04⟩
  rw [decide_eq_false (by omega), br_false]
  by_cases hx2 : x2 < 1
  · rw [decide_eq_true (by omega), br_true, if_pos (.inr (.inr (.inl hx2)))]
    exact ⟨σ4, rfl, s04⟩
  rw [decide_eq_false (by omega), br_false, tmod2]
  by_cases hsl : x1 % 2 = slot
  rotate_left
  · rw [show (((x1 % 2 : Nat) : Int) != (slot : Int)) = true by rw [bne_iff_ne]; omega, br_true, if_pos (.inr (.inr (.inr (.inl hsl))))]
    exact ⟨σ4, rfl, s04⟩
  obtain ⟨σ5, g5, s5⟩ := rhead_spec L k hL σ4 x1 x2
  rw [show (((x1 % 2 : Nat) : Int) != (slot : Int)) = false by rw [hsl]; simp, br_false, g5, bnd_some, asS_s, str_inj]
  by_cases heq : hsec x1 x2 = l
  · rw [decide_eq_true heq, not_true, br_false, if_neg (fun h => by rcases h with h | h | h | h | h; exact h he; exact hx1 h; exact hx2 h; exact h hsl; exact h heq)]
    exact ⟨σ5, rfl, s04.trans s5⟩
  · rw [decide_eq_false heq, not_false, br_true, if_pos (.inr (.inr (.inr (.inr heq))))]
    exact ⟨σ5, rfl, s04.trans s5⟩
end Go.AM.Bk

namespace Go.AM.Bk.D
open Go.Proofs
def Err (σ : St) (v : Value) (c at_ : Int) : Prop := ∃ q, v = .iface 162 (.pointer (some ⟨q, 0, none⟩)) ∧ σ.get q = some (.own [.string ⟨#[100, 105, 115, 107]⟩, .int .i64 at_, .iface 70 (.int .i64 c)] 164) ∧ q < σ.next
theorem Err.nil {σ : St} {v : Value} {c a : Int} (h : Err σ v c a) {α : Type} (K : Bool → Option α) : eqNil v K = K false := by
  obtain ⟨q, rfl, _⟩ := h
  rfl
abbrev Sec := { l : List UInt8 // l.length = 64 }
def sc (s : Sec) : List Value := by8 s.1
theorem sc_len (s : Sec) : (sc s).length = 64 := by unfold sc; rw [by8_len, s.2]
theorem sc_one (s : Sec) : (sc s).all oneCell = true := by8_one _
def zsec : Sec := ⟨List.replicate 64 0, rfl⟩
structure Lw where
  at_ : Int
  b : Sec
def lw (w : Lw) : List Value := .int .i64 w.at_ :: sc w.b
theorem lw_len (w : Lw) : (lw w).length = 65 := by unfold lw; rw [List.length_cons, sc_len]
theorem lw_one (w : Lw) : (lw w).all oneCell = true := by unfold lw; rw [List.all_cons, sc_one]; rfl
theorem z64 : (List.replicate 64 (.int .u8 0) : List Value) = sc zsec := rfl
theorem z65 : (.int .i64 0 :: List.replicate 64 (.int .u8 0) : List Value) = lw ⟨0, zsec⟩ := rfl
theorem ov65 (a : Int) : over (lw ⟨0, zsec⟩) 0 [.int .i64 a] = lw ⟨a, zsec⟩ := rfl
theorem over_all {vs ws : List Value} (h : ws.length = vs.length) : over vs 0 ws = ws := by simp [over, h]
theorem ov_sec (a : Int) (s b : Sec) : over (lw ⟨a, s⟩) 1 (sc b) = lw ⟨a, b⟩ := by
  unfold over lw
  rw [sc_len, show 1 + 64 = 65 from rfl, List.drop_of_length_le (by rw [List.length_cons, sc_len]; exact Nat.le_refl _)]
  simp
def look (i : Int) (s : Sec) : List Lw → Sec
  | [] => s
  | w :: ws => look i (if w.at_ = i then w.b else s) ws
def lay (kept : Nat → Bool) : Nat → List Sec → List Lw → List Sec
  | _, S, [] => S
  | k, S, w :: ws => lay kept (k + 1) (if kept k = true then S.set w.at_.toNat w.b else S) ws
theorem lay_len (kept : Nat → Bool) : ∀ (W : List Lw) (k : Nat) (S : List Sec), (lay kept k S W).length = S.length
  | [], _, _ => rfl
  | w :: ws, k, S => by
    unfold lay
    rw [lay_len kept ws]
    split <;> simp
def InR (n : Nat) (W : List Lw) : Prop := ∀ w ∈ W, 0 ≤ w.at_ ∧ w.at_ < n
structure Disk (σ : St) (a : Nat) (F : List Nat) (S : List Sec) (W : List Lw) : Prop where
  ex : ∃ q1 q2 ad1 z1 ad2 z2, F = a :: (q1 ++ q2) ∧ σ.get a = some (.own [.slice ad1 S.length z1, .slice ad2 W.length z2] 95) ∧ Row sc 64 101 σ ad1 z1 q1 S ∧ Row lw 65 103 σ ad2 z2 q2 W ∧ a ∉ q1 ∧ a ∉ q2 ∧ ∀ q ∈ q1, q ∉ q2
  lt : ∀ q ∈ F, q < σ.next
theorem Disk.same {σ σ' : St} {a : Nat} {F G : List Nat} {S : List Sec} {W : List Lw} (h : Disk σ a F S W) (hs : Same σ σ' G) (hF : ∀ q ∈ F, q ∉ G) : Disk σ' a F S W := by
  obtain ⟨q1, q2, ad1, z1, ad2, z2, rfl, h1, h2, h3, h4⟩ := h.ex
  exact ⟨⟨q1, q2, ad1, z1, ad2, z2, rfl, by rw [hs.2 a (h.lt a (by simp)) (hF a (by simp))]; exact h1, h2.same hs (fun q hq => hF q (by simp [hq])), h3.same hs (fun q hq => hF q (by simp [hq])), h4⟩, fun q hq => by have := h.lt q hq; have := hs.1; omega⟩
theorem Disk.idle {σ σ' : St} {a : Nat} {F : List Nat} {S : List Sec} {W : List Lw} (h : Disk σ a F S W) (hs : Same σ σ' []) : Disk σ' a F S W := h.same hs (by simp)
abbrev ptr (a : Nat) : Value := .pointer (some ⟨a, 0, none⟩)
abbrev word : ByteArray := ⟨#[100, 105, 115, 107]⟩
theorem wrap_spec (L k : Nat) (σ : St) (at_ : Int) (e : Int) (he : e ≠ 0) : ∃ v σ', evCall Tryz.prog env L (k + 1) 42 [.string word, .int .i64 at_, .iface 70 (.int .i64 e)] σ = some (v, σ') ∧ Err σ' v e at_ ∧ Same σ σ' [] := by
  rw [f42_eq, eqNil_iface, br_false]
  have hb : (e == 0) = false := by simpa using he
  refine ⟨.iface 162 (.pointer (some ⟨σ.next, 0, none⟩)), σ.new (Blk.own [.string word, .int .i64 at_, .iface 70 (.int .i64 e)] 164), ?_, ⟨_, rfl, get_new_same _ _, by simp⟩, Same.new _ _ _⟩
  simp [eqErr, hb, oneCell]
theorem new_spec (L k : Nat) (σ : St) (n : Int) : ∃ a F σ', evCall Tryz.prog env L (k + 1) 8 [.int .i64 n] σ = some (ptr a, σ') ∧ Disk σ' a F (List.replicate (mx 0 (mn n 1024)).toNat zsec) [] ∧ Same σ σ' [] ∧ ∀ q ∈ F, σ.next ≤ q := by
  have hm : 0 ≤ mx 0 (mn n 1024) ∧ mx 0 (mn n 1024) ≤ 1024 := by unfold mx mn; repeat' split <;> omega
  rw [f8_eq]
  generalize mx 0 (mn n 1024) = m at hm
  rw [need_of (by simp; omega), z64, zerosN_flat]
  have hr := Row.fresh sc 64 101 σ (List.replicate m.toNat zsec)
  generalize hσ1 : σ.new (.own ((List.replicate m.toNat zsec).flatMap sc) 101) = σ1 at hr
  have hs1 : Same σ σ1 [] := by rw [← hσ1]; exact Same.new _ _ _
  have hn1 : σ1.next = σ.next + 1 := by rw [← hσ1]; rfl
  have hs2 : Same σ1 (σ1.new (.own [.slice (some ⟨σ.next, 0, none⟩) m.toNat 64, .slice none 0 0] 95)) [] := Same.new _ _ _
  refine ⟨σ1.next, [σ1.next, σ.next], _, rfl, ⟨⟨[σ.next], [], some ⟨σ.next, 0, none⟩, 64, none, 0, rfl, by rw [get_new_same, List.length_replicate]; rfl, hr.same hs2 (by simp), Row.nil _ _ _ _, by simp; omega, by simp, by simp⟩, by simp; omega⟩, hs1.trans hs2, by simp; omega⟩
section
variable {σ : St} {a : Nat} {F : List Nat} {S : List Sec} {W : List Lw} (h : Disk σ a F S W) (L k : Nat)
include h
theorem len_spec : evCall Tryz.prog env L (k + 1) 85 [ptr a] σ = some (.int .i64 S.length, σ) := by
  obtain ⟨q1, q2, ad1, z1, ad2, z2, rfl, h1, _⟩ := h.ex
  rw [f85_eq, ld_at h1 0 _ rfl, asSl_s]
theorem there_spec (i : Int) : ∃ v σ', evCall Tryz.prog env L (k + 2) 41 [ptr a, .int .i64 i] σ = some (v, σ') ∧ Same σ σ' [] ∧ ((0 ≤ i ∧ i < S.length ∧ v = .nilIface) ∨ (¬ (0 ≤ i ∧ i < S.length) ∧ Err σ' v 5 i)) := by
  rw [f41_eq]
  by_cases h0 : i < 0
  · obtain ⟨v, σ', g, e, s⟩ := wrap_spec L k σ i 5 (by decide)
    rw [decide_eq_true h0, br_true, g]
    exact ⟨v, σ', rfl, s, .inr ⟨by omega, e⟩⟩
  · rw [decide_eq_false h0, br_false, len_spec h, bnd_some, asI_i]
    by_cases h1 : i ≥ S.length
    · obtain ⟨v, σ', g, e, s⟩ := wrap_spec L k σ i 5 (by decide)
      rw [decide_eq_true h1, br_true, g]
      exact ⟨v, σ', rfl, s, .inr ⟨by omega, e⟩⟩
    · rw [decide_eq_false h1, br_false]
      exact ⟨_, σ, rfl, Same.refl _ _, .inl ⟨by omega, by omega, rfl⟩⟩
theorem write_spec {ad : Option Addr} {z : Nat} {l : List UInt8} {G : List Nat} (hB : Bytes σ ad l G) (hW : W.length ≤ 100000) (i : Int) :
    ∃ v σ', evCall Tryz.prog env L (k + 3) 10 [ptr a, .int .i64 i, .slice ad l.length z] σ = some (v, σ') ∧
      ((∃ (F' : List Nat) (hl : l.length = 64), 0 ≤ i ∧ i < S.length ∧ v = .nilIface ∧ Disk σ' a F' S (W ++ [⟨i, ⟨l, hl⟩⟩]) ∧ Turn σ σ' F F') ∨
       (¬ (0 ≤ i ∧ i < S.length) ∧ Err σ' v 5 i ∧ Same σ σ' []) ∨ ((0 ≤ i ∧ i < S.length) ∧ l.length ≠ 64 ∧ Err σ' v 1 i ∧ Same σ σ' [])) := by
  rw [f10_eq, z65, ov65]
  obtain ⟨v1, σ1, g1, s1, h1⟩ := there_spec h L k i
  rw [g1, bnd_some]
  rcases h1 with ⟨i0, i1, rfl⟩ | ⟨i0, e1⟩
  rotate_left
  · rw [e1.nil, not_false, br_true]
    exact ⟨v1, σ1, rfl, .inr (.inl ⟨i0, e1, s1⟩)⟩
  have hn64 : Nat.beq (List.length (lw ⟨i, zsec⟩)) 65 = true := by rw [lw_len]; rfl
  rw [eqNil_nil, not_true, br_false, need_of hn64, tmp_put2 _ _ _ _ (by rw [lw_len, lw_len]) (lw_one _)]
  generalize hσ2 : σ1.new (.own (lw ⟨i, zsec⟩) 103) = σ2
  have hg2 : σ2.get σ1.next = some (.own (lw ⟨i, zsec⟩) 103) := by rw [← hσ2, get_new_same]
  have s2 : Same σ1 σ2 [] := by rw [← hσ2]; exact Same.new _ _ _
  have n2 : σ2.next = σ1.next + 1 := by rw [← hσ2]; rfl
  have s12 := s1.trans s2
  have n1 := s1.1
  obtain ⟨σ3, g3, hg3, s3, n3⟩ := cpy_spec (hB.same s12 (by simp)) hg2 (m := min l.length 64) (o := 1) (Nat.min_le_left _ _) (by rw [lw_len]; omega)
  rw [g3]
  have s13 : Same σ σ3 [] := s12.fresh s3 (by simp; omega)
  by_cases hl : l.length = 64
  rotate_left
  · obtain ⟨v4, σ4, g4, e4, s4⟩ := wrap_spec L (k + 1) σ3 i 1 (by decide)
    refine ⟨v4, σ4, ?_, .inr (.inr ⟨⟨i0, i1⟩, hl, e4, s13.trans s4⟩)⟩
    by_cases hm : (((min l.length 64 : Nat) : Int) != (l.length : Int)) = true
    · rw [hm, br_true, g4]; rfl
    · rw [show (((min l.length 64 : Nat) : Int) != (l.length : Int)) = false by simpa using hm, br_false, show ((l.length : Int) != 64) = true by simp; omega, br_true, g4]; rfl
  rw [show (((min l.length 64 : Nat) : Int) != (l.length : Int)) = false by simp; omega, br_false, show ((l.length : Int) != 64) = false by simp; omega, br_false]
  have hov : over (lw ⟨i, zsec⟩) 1 (by8 (l.take (min l.length 64))) = lw ⟨i, ⟨l, hl⟩⟩ := by
    rw [List.take_of_length_le (by omega)]; exact ov_sec i zsec ⟨l, hl⟩
  rw [hov] at hg3
  obtain ⟨q1, q2, ad1, z1, ad2, z2, rfl, ha, hr1, hr2, ha1, ha2, hd⟩ := h.ex
  have hlt := h.lt
  have hal := hlt a (by simp)
  have hg3a : σ3.get a = _ := (s13.2 a hal (by simp)).trans ha
  rw [ld_at hg3a 1 _ rfl, asSl_s, lds_all hg3 (lw_len _).symm, need_of (by rw [lw_len]; rfl), need_of (by rw [lw_len]; rfl), show zerosN (lw ⟨0, zsec⟩) 1 = lw ⟨0, zsec⟩ from List.append_nil _, over_all (by rw [lw_len, lw_len])]
  generalize hσ4 : σ3.new (.own (lw ⟨i, ⟨l, hl⟩⟩) 103) = σ4
  have hg4 : σ4.get σ3.next = some (.own (lw ⟨i, ⟨l, hl⟩⟩) 103) := by rw [← hσ4, get_new_same]
  have s4 : Same σ3 σ4 [] := by rw [← hσ4]; exact Same.new _ _ _
  have n4 : σ4.next = σ3.next + 1 := by rw [← hσ4]; rfl
  have s14 := s13.trans s4
  have hg4a : σ4.get a = _ := (s14.2 a hal (by simp)).trans ha
  rw [ld_at hg4a 1 _ rfl, asSl_s, chk_same, row_all hg4 (lw_len _).symm (by omega)]
  have hr4 := hr2.same s14 (by simp)
  obtain ⟨ad', z', q', σ5, hgrow, hr5, s5, hq5⟩ := grow_row (by_ := 72) hr4 lw_len lw_one (by omega) [(⟨i, ⟨l, hl⟩⟩ : Lw)] (lw ⟨i, ⟨l, hl⟩⟩) (by simp) 1 rfl (by unfold roomTop; omega) (by unfold sizeTop; omega)
  rw [hgrow]
  have n14 := s14.1
  have n5 := s5.1
  have hg5a : σ5.get a = _ := (s5.2 a (by omega) ha2).trans hg4a
  rw [put_sl hg5a 1 _ _ _ (by simp)]
  have s6 := Same.set σ5 a (.own (List.set [Value.slice ad1 S.length z1, .slice ad2 W.length z2] 1 (.slice ad' (W.length + 1) z')) 95)
  have hne' : a ∉ q' := fun hx => by
    rcases hq5 a hx with hx | hx
    · exact ha2 hx
    · omega
  have hd5 : ∀ q ∈ q1, q ∉ q2 := hd
  refine ⟨_, _, rfl, .inl ⟨a :: (q1 ++ q'), hl, i0, i1, rfl, ⟨⟨q1, q', ad1, z1, ad', z', rfl, by rw [get_set_same, List.length_append]; rfl, ((hr1.same s14 (by simp)).same s5 hd).same s6 (fun q hq => by simp; rintro rfl; exact ha1 hq), hr5.same s6 (fun q hq => by simp; rintro rfl; exact hne' hq), ha1, hne', fun q hq hq' => ?_⟩, fun q hq => ?_⟩, ⟨⟨by simp; omega, fun j hj hS => ?_⟩, fun q hq => ?_⟩⟩⟩
  · rcases hq5 q hq' with hx | hx
    · exact hd q hq hx
    · have := hlt q (by simp [hq]); omega
  · simp only [next_set]
    rcases List.mem_cons.1 hq with rfl | hq
    · omega
    · rcases List.mem_append.1 hq with hq | hq
      · have := hlt q (by simp [hq]); omega
      · exact hr5.lt q hq
  · simp only [List.mem_cons, List.mem_append, not_or] at hS
    rw [s6.2 j (by omega) (by simp; exact hS.1), s5.2 j (by omega) hS.2.2, s14.2 j hj (by simp)]
  · simp only [next_set]
    rcases List.mem_cons.1 hq with rfl | hq
    · exact ⟨.inl (by simp), by omega⟩
    · rcases List.mem_append.1 hq with hq | hq
      · exact ⟨.inl (by simp [hq]), by have := hlt q (by simp [hq]); omega⟩
      · refine ⟨?_, hr5.lt q hq⟩
        rcases hq5 q hq with hx | hx
        · exact .inl (by simp [hx])
        · exact .inr (by omega)
theorem read_loop {ad2 : Option Addr} {z2 : Nat} {q2 : List Nat} (hF : ∀ q ∈ q2, q ∈ F) (hW : W.length ≤ 100000) (i : Int) (t : Nat) (ht : σ.next ≤ t) : ∀ (n j : Nat) (σ' : St) (s : Sec), j ≤ W.length → W.length - j < n → Row lw 65 103 σ' ad2 z2 q2 W → σ'.get t = some (.own (sc s) 101) → t < σ'.next → Same σ σ' [] →
    ∃ σ9, lpAt Tryz.prog env L k 88 [true, true, true, false, true] [] n [(1, .int .i64 i), (7, ptr t), (26, .slice ad2 W.length z2), (27, .int .i64 W.length), (28, .int .i64 j)] σ' = some (.tuple #[.slice (some ⟨t, 0, none⟩) 64 0, .nilIface], σ9) ∧ σ9.get t = some (.own (sc (look i s (W.drop j))) 101) ∧ t < σ9.next ∧ Same σ σ9 []
  | 0, j, σ', s, _, hn, _, _, _, _ => by omega
  | n + 1, j, σ', s, hj, hn, hr, hg, htl, hs => by
    rw [f88_l6]
    by_cases hje : j = W.length
    · rw [decide_eq_false (by omega), br_false, List.drop_of_length_le (by omega)]
      exact ⟨σ', rfl, hg, htl, hs⟩
    · have hget : W[j]? = some W[j] := List.getElem?_eq_getElem (by omega)
      have hdrop : W.drop j = W[j] :: W.drop (j + 1) := List.drop_eq_getElem_cons (by omega)
      obtain ⟨q, e, hat⟩ := hr.lds lw_len hget
      rw [hdrop]
      generalize W[j] = w at hat
      have hw : IntKind.wrap .i64 ((j : Int) + 1) = ((j + 1 : Nat) : Int) := by rw [wrap_in _ (by omega) (by omega)]; omega
      rw [decide_eq_true (by omega), br_true, need_of (by simp [inRange]; omega), e, adr_some, hat _ (by simp), need_of (by rw [lw_len]; rfl), z65, tmp_put2 _ _ _ _ (by rw [lw_len, lw_len]) (lw_one _)]
      generalize hσ2 : σ'.new (.own (lw w) 103) = σ2
      have hg2 : σ2.get σ'.next = some (.own (lw w) 103) := by rw [← hσ2, get_new_same]
      have s2 : Same σ' σ2 [] := by rw [← hσ2]; exact Same.new _ _ _
      have n2 : σ2.next = σ'.next + 1 := by rw [← hσ2]; rfl
      have ht2 : σ2.get t = some (.own (sc s) 101) := by rw [s2.2 t htl (by simp)]; exact hg
      rw [ld_at hg2 0 (.int .i64 w.at_) rfl, asI_i, hw, ← e]
      unfold look
      by_cases hc : w.at_ = i
      · have hl1 : ∀ K : List Value → Res, σ2.lds σ'.next 1 64 K = K (sc w.b) := fun K => by
          rw [lds_own K hg2 (by rw [lw_len]; omega)]
          congr 1
          unfold lw
          rw [List.drop_succ_cons, List.drop_zero, ← sc_len w.b, List.take_length]
        rw [show (w.at_ == i) = true by simpa using hc, br_true, hl1, need_of (by rw [sc_len]; rfl), put_all ht2 (by rw [sc_len, sc_len]) (sc_one _), if_pos hc]
        have s3 := Same.set σ2 t (.own (sc w.b) 101)
        exact read_loop hF hW i t ht n (j + 1) _ w.b (by omega) (by omega) ((hr.same s2 (by simp)).same s3 (fun q hq => by have := h.lt q (hF q hq); simp; omega)) (get_set_same _ _ _) (by simp; omega) ((hs.trans s2).fresh s3 (by simp; omega))
      · rw [show (w.at_ == i) = false by simpa using hc, br_false, if_neg hc]
        exact read_loop hF hW i t ht n (j + 1) σ2 s (by omega) (by omega) (hr.same s2 (by simp)) ht2 (by omega) (hs.trans s2)
theorem read_spec (hL : W.length < L) (hW : W.length ≤ 100000) (i : Int) :
    ∃ v σ', evCall Tryz.prog env L (k + 3) 88 [ptr a, .int .i64 i] σ = some (v, σ') ∧ Same σ σ' [] ∧
      ((∃ (s : Sec) (t : Nat), 0 ≤ i ∧ i < S.length ∧ S[i.toNat]? = some s ∧ v = .tuple #[.slice (some ⟨t, 0, none⟩) 64 0, .nilIface] ∧ σ'.get t = some (.own (sc (look i s W)) 101) ∧ σ.next ≤ t ∧ t < σ'.next) ∨
       (∃ v', ¬ (0 ≤ i ∧ i < S.length) ∧ v = .tuple #[.slice none 0 0, v'] ∧ Err σ' v' 5 i)) := by
  rw [f88_eq]
  obtain ⟨v1, σ1, g1, s1, h1⟩ := there_spec h L k i
  rw [g1, bnd_some]
  rcases h1 with ⟨i0, i1, rfl⟩ | ⟨i0, e1⟩
  rotate_left
  · rw [e1.nil, not_false, br_true]
    exact ⟨_, σ1, rfl, s1, .inr ⟨v1, i0, rfl, e1⟩⟩
  obtain ⟨q1, q2, ad1, z1, ad2, z2, rfl, ha, hr1, hr2, ha1, ha2, hd⟩ := h.ex
  have hlt := h.lt
  have hal := hlt a (by simp)
  have hg1a : σ1.get a = _ := (s1.2 a hal (by simp)).trans ha
  have hget : S[i.toNat]? = some (S[i.toNat]'(by omega)) := List.getElem?_eq_getElem (by omega)
  obtain ⟨q, e, hat⟩ := (hr1.same s1 (by simp)).lds sc_len hget
  rw [eqNil_nil, not_true, br_false, ld_at hg1a 0 _ rfl, asSl_s, need_of (by simp [inRange]; omega), e, adr_some, hat _ (by simp), need_of (by rw [sc_len]; rfl), z64, tmp_put2 _ _ _ _ (by rw [sc_len, sc_len]) (sc_one _)]
  generalize S[i.toNat]'(by omega) = s at hget
  generalize hσ2 : σ1.new (.own (sc s) 101) = σ2
  have hg2 : σ2.get σ1.next = some (.own (sc s) 101) := by rw [← hσ2, get_new_same]
  have s2 : Same σ1 σ2 [] := by rw [← hσ2]; exact Same.new _ _ _
  have n2 : σ2.next = σ1.next + 1 := by rw [← hσ2]; rfl
  have hg2a : σ2.get a = _ := (s2.2 a (by have := s1.1; omega) (by simp)).trans hg1a
  rw [ld_at hg2a 1 _ rfl, asSl_s]
  obtain ⟨σ9, g9, hg9, hl9, s9⟩ := read_loop h L (k + 2) (ad2 := ad2) (z2 := z2) (q2 := q2) (fun q hq => by simp [hq]) hW i σ1.next s1.1 L 0 σ2 s (by omega) (by omega) (hr2.same (s1.trans s2) (by simp)) hg2 (by omega) (s1.trans s2)
  exact ⟨_, σ9, g9, s9, .inl ⟨s, σ1.next, i0, i1, hget, rfl, hg9, s1.1, hl9⟩⟩
end
theorem settle_loop (L k f : Nat) (caps : List Value) (kept : Nat → Bool) (P : St → Prop) {a : Nat} {ad1 ad2 : Option Addr} {z1 z2 : Nat} {q1 q2 : List Nat} {W : List Lw} {n0 : Nat} (ha1 : a ∉ q1) (ha2 : a ∉ q2) (hd : ∀ q ∈ q1, q ∉ q2) {σ0 : St} (ha0 : a < σ0.next)
    (hP : ∀ σ σ', P σ → Same σ σ' q1 → P σ') (hcall : ∀ (σ : St) (j : Nat), P σ → evCall Tryz.prog env L k f (.int .i64 j :: caps) σ = some (.bool (kept j), σ)) (hW : W.length ≤ 100000) (hin : InR n0 W) : ∀ (n j : Nat) (σ : St) (S : List Sec), j ≤ W.length → W.length - j < n → S.length = n0 →
    Row sc 64 101 σ ad1 z1 q1 S → Row lw 65 103 σ ad2 z2 q2 W → σ.get a = some (.own [.slice ad1 n0 z1, .slice ad2 W.length z2] 95) → P σ → Same σ0 σ q1 →
    ∃ σ9, lpAt Tryz.prog env L k 114 [true, false, true] [] n [(0, ptr a), (1, .func (.func f) #[] caps.toArray), (11, .slice ad2 W.length z2), (12, .int .i64 W.length), (13, .int .i64 j)] σ = some (.tuple #[], σ9) ∧
      Row sc 64 101 σ9 ad1 z1 q1 (lay kept j S (W.drop j)) ∧ σ9.get a = some (.own [.slice ad1 n0 z1, .slice none 0 0] 95) ∧ Same σ0 σ9 (a :: q1)
  | 0, j, σ, S, _, hn, _, _, _, _, _, _ => by omega
  | n + 1, j, σ, S, hj, hn, hS, hr1, hr2, ha, hp, hs => by
    rw [f114_l2]
    by_cases hje : j = W.length
    · rw [decide_eq_false (by omega), br_false, List.drop_of_length_le (by omega), put_sl ha (0 + 1) _ _ _ (by simp)]
      have s3 := Same.set σ a (.own (List.set [Value.slice ad1 n0 z1, .slice ad2 W.length z2] (0 + 1) (.slice none 0 0)) 95)
      exact ⟨_, rfl, hr1.same s3 (fun q hq => by simp; rintro rfl; exact ha1 hq), by rw [get_set_same]; rfl, (hs.mono (by simp +contextual)).trans (s3.mono (by simp))⟩
    · have hget : W[j]? = some W[j] := List.getElem?_eq_getElem (by omega)
      have hdrop : W.drop j = W[j] :: W.drop (j + 1) := List.drop_eq_getElem_cons (by omega)
      have hwin := hin _ (List.mem_of_getElem? hget)
      obtain ⟨q, e, hat⟩ := hr2.lds lw_len hget
      rw [hdrop]
      generalize W[j] = w at hat hwin
      have hw : IntKind.wrap .i64 ((j : Int) + 1) = ((j + 1 : Nat) : Int) := by rw [wrap_in _ (by omega) (by omega)]; omega
      rw [decide_eq_true (by omega), br_true, need_of (by simp [inRange]; omega), e, adr_some, hat _ (by simp), need_of (by rw [lw_len]; rfl), z65, tmp_put2 _ _ _ _ (by rw [lw_len, lw_len]) (lw_one _)]
      generalize hσ2 : σ.new (.own (lw w) 103) = σ2
      have hg2 : σ2.get σ.next = some (.own (lw w) 103) := by rw [← hσ2, get_new_same]
      have s2 : Same σ σ2 [] := by rw [← hσ2]; exact Same.new _ _ _
      have n2 : σ2.next = σ.next + 1 := by rw [← hσ2]; rfl
      have hasF : ∀ K : FuncId → List Value → List Value → Res, asF (.func (.func f) #[] caps.toArray) K = K f [] caps := fun K => by simp [asF]
      have hal : a < σ.next := by have := hs.1; omega
      have ha2' : σ2.get a = _ := (s2.2 a hal (by simp)).trans ha
      have hp2 := hP σ σ2 hp (s2.mono (by simp))
      rw [hasF, List.nil_append, List.singleton_append, hcall σ2 j hp2, bnd_some, asB_b, hw, ← e]
      unfold lay
      cases hk : kept j with
      | false =>
        rw [br_false, if_neg (by simp)]
        exact settle_loop L k f caps kept P ha1 ha2 hd ha0 hP hcall hW hin n (j + 1) σ2 S (by omega) (by omega) hS (hr1.same s2 (by simp)) (hr2.same s2 (by simp)) ha2' hp2 (hs.trans (s2.mono (by simp)))
      | true =>
        have hl1 : ∀ K : List Value → Res, σ2.lds σ.next 1 64 K = K (sc w.b) := fun K => by
          rw [lds_own K hg2 (by rw [lw_len]; omega)]
          congr 1
          unfold lw
          rw [List.drop_succ_cons, List.drop_zero, ← sc_len w.b, List.take_length]
        obtain ⟨q', σ3, e1, e2, hput, hr3, s3, n3⟩ := (hr1.same s2 (by simp)).put sc_len sc_one (i := w.at_.toNat) (by omega) w.b
        rw [br_true, if_pos rfl, ld_at ha2' (0 + 0) _ rfl, asSl_s, ld_at hg2 0 (.int .i64 w.at_) rfl, asI_i, hl1, need_of (by simp [inRange]; omega), e2, adr_some, need_of (by rw [sc_len]; rfl), hput _ (by simp)]
        rw [← e2]
        have ha3 : σ3.get a = _ := (s3.2 a (by omega) ha1).trans ha2'
        exact settle_loop L k f caps kept P ha1 ha2 hd ha0 hP hcall hW hin n (j + 1) σ3 _ (by omega) (by omega) (by simpa using hS) hr3 ((hr2.same s2 (by simp)).same s3 (fun q hq hq' => hd q hq' hq)) ha3 (hP σ2 σ3 hp2 s3) ((hs.trans (s2.mono (by simp))).trans s3)
theorem settle_spec (L k f : Nat) (caps : List Value) (kept : Nat → Bool) (P : St → Prop) {σ : St} {a : Nat} {F : List Nat} {S : List Sec} {W : List Lw} (h : Disk σ a F S W) (hL : W.length < L)
    (hP : ∀ σ1 σ', P σ1 → σ.next ≤ σ1.next → Same σ1 σ' F → P σ') (hp : P σ) (hcall : ∀ (σ : St) (j : Nat), P σ → evCall Tryz.prog env L k f (.int .i64 j :: caps) σ = some (.bool (kept j), σ)) (hW : W.length ≤ 100000) (hin : InR S.length W) :
    ∃ F' σ', evCall Tryz.prog env L (k + 1) 114 [ptr a, .func (.func f) #[] caps.toArray] σ = some (.tuple #[], σ') ∧ Disk σ' a F' (lay kept 0 S W) [] ∧ Turn σ σ' F F' ∧ (∀ q ∈ F', q ∈ F) := by
  obtain ⟨q1, q2, ad1, z1, ad2, z2, rfl, ha, hr1, hr2, ha1, ha2, hd⟩ := h.ex
  have hlt := h.lt
  rw [f114_eq, ld_at ha 1 _ rfl, asSl_s]
  obtain ⟨σ9, g9, hr9, ha9, s9⟩ := settle_loop L k f caps kept (fun σ' => P σ' ∧ σ.next ≤ σ'.next) ha1 ha2 hd (hlt a (by simp)) (fun σ1 σ2 h1 h2 => ⟨hP σ1 σ2 h1.1 h1.2 (h2.mono (fun x hx => by simp [hx])), by have := h2.1; omega⟩) (fun σ j hp => hcall σ j hp.1) hW hin L 0 σ S (by omega) (by omega) rfl hr1 hr2 ha ⟨hp, Nat.le_refl _⟩ (Same.refl _ _)
  have hn := s9.1
  rw [List.drop_zero] at hr9
  refine ⟨a :: q1, σ9, g9, ⟨⟨q1, [], ad1, z1, none, 0, by simp, by rw [ha9, lay_len]; rfl, hr9, Row.nil _ _ _ _, ha1, by simp, by simp⟩, fun q hq => ?_⟩, ⟨s9.mono (fun x hx => ?_), fun q hq => ⟨.inl ?_, ?_⟩⟩, fun q hq => ?_⟩
  · rcases List.mem_cons.1 hq with rfl | hq
    · have := hlt q (by simp); omega
    · have := hlt q (by simp [hq]); omega
  · rcases List.mem_cons.1 hx with rfl | hx
    · simp
    · simp [hx]
  · rcases List.mem_cons.1 hq with rfl | hq
    · simp
    · simp [hq]
  · rcases List.mem_cons.1 hq with rfl | hq
    · have := hlt q (by simp); omega
    · have := hlt q (by simp [hq]); omega
  · rcases List.mem_cons.1 hq with rfl | hq
    · simp
    · simp [hq]
theorem flush_spec (L k : Nat) {σ : St} {a : Nat} {F : List Nat} {S : List Sec} {W : List Lw} (h : Disk σ a F S W) (hL : W.length < L) (hW : W.length ≤ 100000) (hin : InR S.length W) :
    ∃ F' σ', evCall Tryz.prog env L (k + 3) 111 [ptr a] σ = some (.tuple #[], σ') ∧ Disk σ' a F' (lay (fun _ => true) 0 S W) [] ∧ Turn σ σ' F F' := by
  obtain ⟨F', σ', g, h1, h2, _⟩ := settle_spec L (k + 1) 134 [] (fun _ => true) (fun _ => True) h hL (fun _ _ _ _ _ => trivial) trivial (fun σ j _ => by rw [f134_eq]) hW hin
  refine ⟨F', σ', ?_, h1, h2⟩
  rw [f111_eq, g, bnd_some, asT_t, toList0, endl_n]
def bit (keep : Int) (j : Nat) : Bool := ibit BinOp.and IntKind.u64 (Int.fdiv keep (2 ^ (min (Int.toNat (Int.tmod (j : Int) 64)) 64))) 1 == 1
theorem crash_spec (L k : Nat) {σ : St} {a : Nat} {F : List Nat} {S : List Sec} {W : List Lw} (h : Disk σ a F S W) (hL : W.length < L) (hW : W.length ≤ 100000) (hin : InR S.length W) (keep : Int) :
    ∃ F' σ', evCall Tryz.prog env L (k + 3) 66 [ptr a, .int .u64 keep] σ = some (.tuple #[], σ') ∧ Disk σ' a F' (lay (bit keep) 0 S W) [] ∧ Turn σ σ' F F' := by
  rw [f66_eq]
  generalize hσ1 : σ.new (.own [.int .u64 keep] 59) = σ1
  have hg1 : σ1.get σ.next = some (.own [.int .u64 keep] 59) := by rw [← hσ1, get_new_same]
  have s1 : Same σ σ1 [] := by rw [← hσ1]; exact Same.new _ _ _
  have n1 : σ1.next = σ.next + 1 := by rw [← hσ1]; rfl
  have h1 := h.idle s1
  obtain ⟨F', σ', g, h2, h3, _⟩ := settle_spec L (k + 1) 115 [ptr σ.next] (bit keep) (fun σ' => σ'.get σ.next = some (.own [.int .u64 keep] 59)) h1 hL (fun σ1' σ2 hp hn hs => by rw [hs.2 _ (by omega) (fun hx => by have := h.lt _ hx; omega)]; exact hp) hg1 (fun σ' j hp => by
    rw [f115_eq, asP_p, adr_some, ld_own _ hp (v := .int .u64 keep) rfl, asI_i, need_of (by rw [show Int.tmod (j : Int) 64 = ((j % 64 : Nat) : Int) from rfl]; exact decide_eq_true (by omega))]; rfl) hW hin
  refine ⟨F', σ', ?_, h2, .before s1 h3 h.lt⟩
  rw [show (#[Value.pointer (some { block := σ.next, off := 0 })] : Array Value) = [ptr σ.next].toArray from rfl, g, bnd_some, asT_t, toList0, endl_n]
end Go.AM.Bk.D

namespace Go.AM.Bk
theorem opened_lock (p : List UInt8) : opened (lock p) = some p := by
  unfold opened lock
  have h4 := tail4_len p
  have hl : (p ++ tail4 p).length - 4 = p.length := by rw [List.length_append, h4]; omega
  rw [hl, List.take_left, List.drop_left, if_pos ⟨by rw [List.length_append, h4]; omega, rfl⟩]
theorem rnum_enc (n : Nat) (h : n ≤ top) (r : List UInt8) : rnum 0 (enc n ++ r) = (0, n, r) := by
  unfold rnum
  rw [if_neg (by simp), rn_enc n 0 0 r (by omega) (fun h => by omega) (by simpa using h)]
  simp
theorem hof_hsec (t m : Nat) (h1 : 1 ≤ t) (h2 : 1 ≤ m) (ht : t ≤ top) (hm : m ≤ top) : hof (hsec t m) (t % 2) = (t, m) := by
  unfold hof
  have e : opened (hsec t m) = some (enc t ++ (enc m ++ List.replicate (60 - (enc t ++ enc m).length) 0)) := by
    unfold hsec sector
    rw [opened_lock, clip_of ht, clip_of hm]
    unfold fill
    rw [List.append_assoc]
  rw [e]
  dsimp only
  rw [rnum_enc t ht, rnum_enc m hm]
  dsimp only
  rw [if_neg (fun h => by rcases h with h | h | h | h | h; exact h rfl; omega; omega; exact h rfl; exact h rfl)]
theorem hof_zero : ∀ slot : Nat, hof (List.replicate 64 0) slot = (0, 0) := by
  intro slot
  have e : opened (List.replicate 64 0) = none := by
    unfold opened
    rw [if_neg]
    rintro ⟨_, h⟩
    have : decide (tail4 ((List.replicate 64 (0 : UInt8)).take ((List.replicate 64 (0 : UInt8)).length - 4)) = (List.replicate 64 (0 : UInt8)).drop ((List.replicate 64 (0 : UInt8)).length - 4)) = false := by kernel_rfl
    rw [decide_eq_true h] at this
    cases this
  unfold hof
  rw [e]
def blk (t : Nat) (l : List UInt8) : Option ByteArray :=
  match opened l with
  | none => none
  | some b => if (rtext 16 (rnum 0 b).1 (rnum 0 b).2.2).1 = 0 ∧ bsec t (str (rtext 16 (rnum 0 b).1 (rnum 0 b).2.2).2.1) = l then some (str (rtext 16 (rnum 0 b).1 (rnum 0 b).2.2).2.1) else none
theorem rtext_enc (s : ByteArray) (h : s.size ≤ 16) (r : List UInt8) : rtext 16 0 (enc s.size ++ s.data.toList ++ r) = (0, s.data.toList, r) := by
  unfold rtext
  have hs := size_list s
  rw [List.append_assoc, rnum_enc _ (by unfold top; omega)]
  dsimp only
  rw [if_neg (by simp), if_neg (by omega), if_neg (by rw [List.length_append]; omega), ← hs, List.take_left, List.drop_left]
theorem opened_bsec (t : Nat) (ht : t ≤ top) (s : ByteArray) : opened (bsec t s) = some (enc t ++ (enc s.size ++ s.data.toList ++ List.replicate (60 - (enc t ++ (enc s.size ++ s.data.toList)).length) 0)) := by
  unfold bsec sector
  rw [opened_lock, clip_of ht]
  unfold fill
  rw [List.append_assoc]
theorem blk_bsec (t : Nat) (ht : t ≤ top) (s : ByteArray) (h : s.size ≤ 16) : blk t (bsec t s) = some s := by
  unfold blk
  rw [opened_bsec t ht s]
  dsimp only
  rw [rnum_enc t ht]
  dsimp only
  rw [rtext_enc s h]
  dsimp only
  rw [str_eta, if_pos ⟨rfl, rfl⟩]
theorem blk_turn {t : Nat} (ht : t ≤ top) {l b : List UInt8} (ho : opened l = some b) {s : ByteArray} (hb : bsec t s = l) : rnum 0 b = (0, t, enc s.size ++ s.data.toList ++ List.replicate (60 - (enc t ++ (enc s.size ++ s.data.toList)).length) 0) := by
  rw [← hb, opened_bsec t ht s] at ho
  cases ho
  exact rnum_enc t ht _
def area (rd : Nat → List UInt8) (t : Nat) : Nat → Option (List ByteArray)
  | 0 => some []
  | n + 1 => match area rd t n with | none => none | some l => match blk t (rd (2 + 32 * (t % 2) + n)) with | none => none | some s => some (l ++ [s])
def headS (rd : Nat → List UInt8) : Nat × Nat := if (hof (rd 1) 1).1 > (hof (rd 0) 0).1 then hof (rd 1) 1 else hof (rd 0) 0
def opn (rd : Nat → List UInt8) : Option (Nat × Nat × List ByteArray) :=
  if 0 < (headS rd).1 then (match area rd (headS rd).1 32 with | none => none | some l => some ((headS rd).1, (headS rd).2, l))
  else if rd 0 = List.replicate 64 0 ∧ rd 1 = List.replicate 64 0 then some (0, 0, List.replicate 32 ⟨#[]⟩) else none
theorem area_of {rd : Nat → List UInt8} {t : Nat} (ht : t ≤ top) {bl : List ByteArray} (hs : ∀ (i : Nat) (s : ByteArray), bl[i]? = some s → rd (2 + 32 * (t % 2) + i) = bsec t s ∧ s.size ≤ 16) : ∀ n : Nat, n ≤ bl.length → area rd t n = some (bl.take n)
  | 0, _ => rfl
  | n + 1, h => by
    have hget : bl[n]? = some bl[n] := List.getElem?_eq_getElem (by omega)
    obtain ⟨h1, h2⟩ := hs n _ hget
    unfold area
    rw [area_of ht hs n (by omega), h1, blk_bsec t ht _ h2, List.take_add_one, hget]
    rfl
structure Good (rd : Nat → List UInt8) (t m : Nat) (bl : List ByteArray) : Prop where
  len : bl.length = 32
  ht : t ≤ 1000
  hm : m ≤ top
  zero : t = 0 → rd 0 = List.replicate 64 0 ∧ rd 1 = List.replicate 64 0 ∧ m = 0 ∧ bl = List.replicate 32 ⟨#[]⟩
  head : 0 < t → rd (t % 2) = hsec t m ∧ 1 ≤ m
  other : 0 < t → (hof (rd ((t + 1) % 2)) ((t + 1) % 2)).1 < t
  blocks : 0 < t → ∀ (i : Nat) (s : ByteArray), bl[i]? = some s → rd (2 + 32 * (t % 2) + i) = bsec t s ∧ s.size ≤ 16
theorem Good.headS {rd : Nat → List UInt8} {t m : Nat} {bl : List ByteArray} (h : Good rd t m bl) : headS rd = (t, m) := by
  unfold Bk.headS
  by_cases h0 : t = 0
  · obtain ⟨z0, z1, zm, _⟩ := h.zero h0
    rw [z0, z1, hof_zero, hof_zero, if_neg (by simp), h0, zm]
  · obtain ⟨h1, h2⟩ := h.head (by omega)
    have h3 := h.other (by omega)
    have ht := h.ht
    have hh := hof_hsec t m (by omega) h2 (by unfold top; omega) h.hm
    rcases Nat.mod_two_eq_zero_or_one t with hp | hp
    · have hp1 : (t + 1) % 2 = 1 := by omega
      rw [hp] at h1 hh; rw [hp1] at h3
      rw [h1, hh, if_neg (by simp only; omega)]
    · have hp1 : (t + 1) % 2 = 0 := by omega
      rw [hp] at h1 hh; rw [hp1] at h3
      rw [h1, hh, if_pos (by simp only; omega)]
theorem Good.opn {rd : Nat → List UInt8} {t m : Nat} {bl : List ByteArray} (h : Good rd t m bl) : opn rd = some (t, m, bl) := by
  unfold Bk.opn
  rw [h.headS]
  dsimp only
  by_cases h0 : t = 0
  · obtain ⟨z0, z1, zm, zb⟩ := h.zero h0
    rw [if_neg (by omega), if_pos ⟨z0, z1⟩, h0, zm, zb]
  · have ht := h.ht
    have ha := area_of (rd := rd) (t := t) (by unfold top; omega) (h.blocks (by omega)) 32 (by rw [h.len]; exact Nat.le_refl _)
    rw [if_pos (by omega), ha]
    dsimp only
    rw [List.take_of_length_le (by rw [h.len]; exact Nat.le_refl _)]
theorem Good.frame {rd rd' : Nat → List UInt8} {t m : Nat} {bl : List ByteArray} (h : Good rd t m bl) (h0 : rd' 0 = rd 0) (h1 : rd' 1 = rd 1) (ha : ∀ i, i < 32 → rd' (2 + 32 * (t % 2) + i) = rd (2 + 32 * (t % 2) + i)) : Good rd' t m bl := by
  have hp : ∀ n : Nat, rd' (n % 2) = rd (n % 2) := fun n => by
    rcases Nat.mod_two_eq_zero_or_one n with hp | hp <;> rw [hp]
    · exact h0
    · exact h1
  exact ⟨h.len, h.ht, h.hm, fun e => by rw [h0, h1]; exact h.zero e, fun e => by rw [hp]; exact h.head e, fun e => by rw [hp]; exact h.other e, fun e i s hi => by
    have hil := (List.getElem?_eq_some_iff.1 hi).1
    rw [h.len] at hil
    rw [ha i hil]; exact h.blocks e i s hi⟩
theorem Good.next {rd rd' : Nat → List UInt8} {t m : Nat} {bl : List ByteArray} (h : Good rd t m bl) (ht : t < 1000) {m' : Nat} {bl' : List ByteArray} (hl : bl'.length = 32) (hm : m' ≤ top) (h1 : 1 ≤ m')
    (hh : rd' ((t + 1) % 2) = hsec ((t + 1 : Nat) : Int) m') (ho : rd' (t % 2) = rd (t % 2)) (hb : ∀ (i : Nat) (s : ByteArray), bl'[i]? = some s → rd' (2 + 32 * ((t + 1) % 2) + i) = bsec ((t + 1 : Nat) : Int) s ∧ s.size ≤ 16) : Good rd' (t + 1) m' bl' := by
  refine ⟨hl, by omega, hm, fun e => by omega, fun _ => ⟨hh, h1⟩, fun _ => ?_, fun _ => hb⟩
  rw [show (t + 1 + 1) % 2 = t % 2 by omega, ho]
  by_cases h0 : t = 0
  · obtain ⟨z0, z1, _⟩ := h.zero h0
    rw [h0, show 0 % 2 = 0 from rfl, z0, hof_zero]; simp
  · obtain ⟨g1, g2⟩ := h.head (by omega)
    rw [g1, hof_hsec t m (by omega) g2 (by unfold top; omega) h.hm]
    simp
end Go.AM.Bk

namespace Go.AM.Bk
open Go.Proofs
abbrev ptr (a : Nat) : Value := .pointer (some ⟨a, 0, none⟩)
def strs (bl : List ByteArray) : List Value := bl.map Value.string
theorem strs_len (bl : List ByteArray) : (strs bl).length = bl.length := List.length_map ..
theorem strs_one (bl : List ByteArray) : (strs bl).all oneCell = true := by
  unfold strs; rw [List.all_map, List.all_eq_true]; exact fun _ _ => rfl
theorem strs_get {bl : List ByteArray} {i : Nat} {s : ByteArray} (h : bl[i]? = some s) : (strs bl)[i]? = some (.string s) := by unfold strs; rw [List.getElem?_map, h]; rfl
theorem strs_set (bl : List ByteArray) (i : Nat) (s : ByteArray) : (strs bl).set i (.string s) = strs (bl.set i s) := by unfold strs; rw [List.map_set]
def imc (d : Nat) (t m : Int) (bl : List ByteArray) (w : Option Addr) : List Value := ptr d :: .int .i64 t :: .int .i64 m :: (strs bl ++ [.pointer w])
theorem imc_len (d : Nat) (t m : Int) (bl : List ByteArray) (w : Option Addr) : (imc d t m bl w).length = bl.length + 4 := by unfold imc; simp [strs_len]
theorem imc_blocks (d : Nat) (t m : Int) (bl : List ByteArray) (w : Option Addr) (h : bl.length = 32) : ((imc d t m bl w).drop 3).take 32 = strs bl := by
  show (strs bl ++ [Value.pointer w]).take 32 = _
  rw [← h, ← strs_len, List.take_left]
theorem imc_set (d : Nat) (t m : Int) (bl : List ByteArray) (w : Option Addr) {i : Nat} (hi : i < bl.length) (s : ByteArray) : (imc d t m bl w).set (3 + i) (.string s) = imc d t m (bl.set i s) w := by
  show (ptr d :: .int .i64 t :: .int .i64 m :: (strs bl ++ [.pointer w])).set (3 + i) _ = ptr d :: .int .i64 t :: .int .i64 m :: (strs (bl.set i s) ++ [.pointer w])
  rw [show 3 + i = i + 1 + 1 + 1 by omega, List.set_cons_succ, List.set_cons_succ, List.set_cons_succ, List.set_append_left _ _ (by rw [strs_len]; exact hi), strs_set]
theorem imc_work (d : Nat) (t m : Int) (bl : List ByteArray) (w : Option Addr) (h : bl.length = 32) : (imc d t m bl w)[35]? = some (.pointer w) := by
  show (strs bl ++ [Value.pointer w])[32]? = _
  rw [List.getElem?_append_right (by rw [strs_len]; omega), strs_len, h]; rfl
structure Img (σ : St) (m d : Nat) (t mk : Int) (bl : List ByteArray) (w : Option Addr) : Prop where
  ex : σ.get m = some (.own (imc d t mk bl w) 169)
  lt : m < σ.next
  len : bl.length = 32
theorem Img.same {σ σ' : St} {m d : Nat} {t mk : Int} {bl : List ByteArray} {w : Option Addr} {S : List Nat} (h : Img σ m d t mk bl w) (hs : Same σ σ' S) (hm : m ∉ S) : Img σ' m d t mk bl w :=
  ⟨by rw [hs.2 m h.lt hm]; exact h.ex, by have := h.lt; have := hs.1; omega, h.len⟩
section
variable {σ : St} {m d : Nat} {t mk : Int} {bl : List ByteArray} {w : Option Addr} (h : Img σ m d t mk bl w) (L k : Nat)
include h
theorem mark_spec : evCall Tryz.prog env L (k + 1) 56 [ptr m] σ = some (.int .i64 mk, σ) := by
  rw [f56_eq, ld_at h.ex 2 _ rfl, asI_i]
theorem busy_spec : evCall Tryz.prog env L (k + 1) 107 [ptr m] σ = some (.bool (!Option.isNone w), σ) := by
  rw [f107_eq, ld_at h.ex 35 _ (imc_work d t mk bl w h.len), asP_p]
theorem blocks_spec : ∃ σ', evCall Tryz.prog env L (k + 1) 55 [ptr m] σ = some (.agg (strs bl).toArray, σ') ∧ Same σ σ' [] := by
  have hg : ∀ B, (σ.new B).get m = some (.own (imc d t mk bl w) 169) := fun B => by rw [get_new (by have := h.lt; omega)]; exact h.ex
  have hl := imc_len d t mk bl w
  have hbl := h.len
  rw [f55_eq, lds_own _ (hg _) (by rw [hl]; omega), imc_blocks d t mk bl w h.len, need_of (by rw [strs_len, h.len]; rfl), tmp_put2 _ _ _ _ (by rw [strs_len, h.len]; rfl) (strs_one bl), lds_all (get_new_same _ _) (by rw [strs_len, h.len])]
  exact ⟨_, rfl, Same.new _ _ _⟩
end
def rdS (S : List D.Sec) (W : List D.Lw) (i : Nat) : List UInt8 := match S[i]? with | some s => (D.look i s W).1 | none => []
theorem dread_spec {σ : St} {d : Nat} {F : List Nat} {S : List D.Sec} {W : List D.Lw} (h : D.Disk σ d F S W) (L k : Nat) (hL : W.length < L) (hW : W.length ≤ 100000) {x : Int} {i : Nat} (hx : x = i) (hi : i < S.length) :
    ∃ q σ', evCall Tryz.prog env L (k + 3) 88 [ptr d, .int .i64 x] σ = some (.tuple #[.slice (some ⟨q, 0, none⟩) 64 0, .nilIface], σ') ∧ Bytes σ' (some ⟨q, 0, none⟩) (rdS S W i) [q] ∧ (rdS S W i).length = 64 ∧ Same σ σ' [] ∧ σ.next ≤ q := by
  subst hx
  obtain ⟨v, σ', g, s, hor⟩ := D.read_spec h L k hL hW (i : Int)
  rcases hor with ⟨sec, q, _, _, hg, rfl, hq, hn, hlt⟩ | ⟨_, hno, _⟩
  · have e : rdS S W i = (D.look i sec W).1 := by
      rw [Int.toNat_natCast] at hg
      unfold rdS; rw [hg]
    rw [e]
    exact ⟨q, σ', g, Bytes.own hq hlt, (D.look i sec W).2, s, hn⟩
  · exact absurd ⟨by omega, by omega⟩ hno
theorem wrapi_spec (L k : Nat) (σ : St) (at_ : Int) (e : Int) (he : e ≠ 0) : ∃ q σ', evCall Tryz.prog env L (k + 2) 87 [.int .i64 at_, .int .i64 e] σ = some (.iface 162 (ptr q), σ') ∧ σ'.get q = some (.own [.string ⟨#[105, 109, 97, 103, 101]⟩, .int .i64 at_, .iface 70 (.int .i64 e)] 164) ∧ q < σ'.next ∧ Same σ σ' [] := by
  rw [f87_eq, f42_eq, eqNil_iface, br_false]
  have hb : (e == 0) = false := by simpa using he
  have h : ∀ K : Res, eqErr (.iface 70 (.int .i64 e)) 70 .i64 0 (fun v2 => br v2 (some (Value.nilIface, σ)) K) = K := by
    intro K; simp [eqErr, hb]
  rw [h, need_true, need_of (show oneCell (Value.iface 70 (Value.int .i64 e)) = true from rfl), need_true, bnd_some]
  exact ⟨σ.next, _, rfl, get_new_same _ _, by simp, Same.new _ _ _⟩
section
variable {σ : St} {m d : Nat} {t : Nat} {mk : Int} {bl : List ByteArray} {w : Option Addr} {F : List Nat} {S : List D.Sec} {W : List D.Lw} (h : Img σ m d t mk bl w) (hD : D.Disk σ d F S W) (L k : Nat) (hL : 100000 < L) (hW : W.length ≤ 10000) (hS : 66 ≤ S.length)
include h hD hL hW hS
theorem iread_spec {i : Nat} (hi : i < 32) {x0 : Int} (hx0 : x0 = i) (ht : t ≤ top) : ∃ x b σ', evCall Tryz.prog env L (k + 7) 128 [ptr m, .int .i64 x0] σ = some (.tuple #[.string x, .bool b], σ') ∧ Same σ σ' [] ∧ blk t (rdS S W (2 + 32 * (t % 2) + i)) = (if b = true then some x else none) := by
  subst hx0
  have hl := imc_len d t mk bl w
  have hbl := h.len
  have r12 : ∀ {σ' : St}, σ'.get m = σ.get m → ∀ K : List Value → Res, σ'.lds m 1 2 K = K [.int .i64 t, .int .i64 mk] := fun e K => by rw [h.ex] at e; rw [lds_own K e (by rw [hl]; omega)]; rfl
  have hat : IntKind.wrap .i64 ((2 : Int) + IntKind.wrap .i64 ((32 : Int) * Int.tmod (t : Int) 2)) = ((2 + 32 * (t % 2) : Nat) : Int) := by
    rw [tmod2, wrap_in ((32 : Int) * ((t % 2 : Nat) : Int)) (by omega) (by omega), wrap_in _ (by omega) (by omega)]; omega
  have s1 : Same σ (σ.new (Blk.own [Value.int .i64 t, Value.int .i64 mk] 166)) [] := Same.new _ _ _
  have g1 : (σ.new (Blk.own [Value.int .i64 t, Value.int .i64 mk] 166)).get σ.next = some (Blk.own [Value.int .i64 t, Value.int .i64 mk] 166) := get_new_same _ _
  have e45 : evCall Tryz.prog env L (k + 6) 109 [.agg #[.int .i64 t, .int .i64 mk]] σ = some (.int .i64 ((2 + 32 * (t % 2) : Nat) : Int), σ.new (Blk.own [Value.int .i64 t, Value.int .i64 mk] 166)) := by
    have : evCall Tryz.prog env L (k + 6) 109 [.agg [.int .i64 (t : Int), .int .i64 mk].toArray] σ = _ := f109_eq L (k + 5) σ t mk
    rw [ld_at g1 0 _ rfl, asI_i, hat] at this
    exact this
  have hlt := h.lt
  have hwi : IntKind.wrap .i64 (((2 + 32 * (t % 2) : Nat) : Int) + (i : Int)) = ((2 + 32 * (t % 2) + i : Nat) : Int) := by rw [wrap_in _ (by omega) (by omega)]; omega
  rw [f128_eq, ld_at h.ex 0 _ rfl, asP_p, r12 rfl, uncons_c, asI_i, uncons_c, asI_i, endl_n, e45, bnd_some, asI_i]
  generalize σ.new (Blk.own [Value.int .i64 t, Value.int .i64 mk] 166) = σ1 at s1
  have h1 := h.same s1 (by simp)
  obtain ⟨q, σ2, g2, hB, hlen, s2, hq⟩ := dread_spec (hD.idle s1) L (k + 3) (by omega) (by omega) hwi (by omega)
  rw [ld_at h1.ex 0 _ rfl, asP_p, chk_same, g2, bnd_some, asT_t, toList2, uncons_c, asSl_s, uncons_c, endl_n]
  have s02 := s1.trans s2
  generalize rdS S W (2 + 32 * (t % 2) + i) = l at hB hlen
  obtain ⟨σ3, s3, ho⟩ := open_spec L (k + 2) hL (z := 0) (.inl rfl) hB (by omega)
  have s03 := s02.trans s3
  rw [hlen] at ho
  unfold blk
  rcases ho with ⟨b, ad3, z3, F3, ho, g3, hB3, hF3, hz3⟩ | ⟨ho, g3⟩
  rotate_left
  · rw [g3, bnd_some, asT_t, toList2, uncons_c, asSl_s, uncons_c, asB_b, endl_n, not_false, br_true, ho]
    exact ⟨_, false, σ3, rfl, s03, rfl⟩
  have hbl2 := opened_len ho
  rw [g3, bnd_some, asT_t, toList2, uncons_c, asSl_s, uncons_c, asB_b, endl_n, not_true, br_false, ho]
  dsimp only
  obtain ⟨σ4, g4, hR4, s4⟩ := read_spec L (k + 5) (z := z3) hB3 hz3
  obtain ⟨σ5, g5, hR5, s5⟩ := number_spec L (k + 4) hL hR4 (by omega)
  have hle := rnum_le 0 b
  generalize rnum 0 b = p1 at hR5 hle
  obtain ⟨e1, x1, r1⟩ := p1
  dsimp only at hR5 hle ⊢
  obtain ⟨σ6, g6, hR6, s6⟩ := text_read L (k + 3) hL hR5 (by omega) 16
  rw [show ((16 : Nat) : Int) = 16 from rfl] at g6
  rw [g4, bnd_some, asP_p, g5, bnd_some, asI_i, g6, bnd_some, asS_s, err_spec L (k + 5) hR6, bnd_some, asI_i]
  have n3 := s03.1
  have hs16 : (rtext 16 e1 r1).1 = 0 → (str (rtext 16 e1 r1).2.1).size ≤ 16 := by
    intro he
    unfold rtext at he ⊢
    rw [str_size]
    split
    · simp
    split
    · simp
    split
    · simp
    · simp only [List.length_take]; omega
  generalize rtext 16 e1 r1 = p2 at hR6 hs16
  obtain ⟨e2, x2, r2⟩ := p2
  dsimp only at hR6 hs16 ⊢
  have s06 : Same σ σ6 [] := ((s03.trans s4).fresh s5 (fun x hx => .inr (by simp at hx; subst hx; omega))).fresh s6 (fun x hx => .inr (by simp at hx; subst hx; omega))
  by_cases he : e2 = 0
  rotate_left
  · rw [show ((e2 : Int) == 0) = false by rw [beq_eq_false_iff_ne]; omega, br_false, if_neg (fun h => he h.1)]
    exact ⟨_, false, σ6, rfl, s06, rfl⟩
  obtain ⟨ad7, z7, q7, σ7, g7, hR7, s7, f7⟩ := bsector_spec L k hL σ6 t mk (str x2) (hs16 he)
  have hB7 := (hB.same (((s3.trans s4).fresh s5 (fun x hx => .inr (by simp at hx; subst hx; have := s3.1; omega))).fresh s6 (fun x hx => .inr (by simp at hx; subst hx; have := s3.1; omega))) (by simp)).same s7 (by simp)
  have eqs := bequal_spec L (k + 5) (z1 := z7) (z2 := 0) (row_bytes hR7) hB7 (bsec_len _ _ (hs16 he)).symm hlen.symm
  have hm6 : σ6.get m = σ.get m := s06.2 m hlt (by simp)
  have g7' : evCall Tryz.prog env L (k + 6) 110 [.agg #[.int .i64 t, .int .i64 mk], .string (str x2)] σ6 = _ := g7
  rw [show ((e2 : Int) == 0) = true by rw [he]; rfl, br_true, r12 hm6, uncons_c, asI_i, uncons_c, asI_i, endl_n, g7', bnd_some, asSl_s, eqs, bnd_some, asB_b]
  refine ⟨_, _, σ7, rfl, s06.trans s7, ?_⟩
  by_cases heq : bsec t (str x2) = l
  · rw [if_pos ⟨he, heq⟩, decide_eq_true heq, if_pos rfl]
  · rw [if_neg (fun h => heq h.2), decide_eq_false heq, if_neg (by simp)]
end
end Go.AM.Bk

namespace Go.AM.Bk
open Go.Proofs
theorem area_none {rd : Nat → List UInt8} {t : Nat} {n : Nat} (h : area rd t n = none) : ∀ m : Nat, n ≤ m → area rd t m = none
  | 0, hm => by rw [show n = 0 by omega] at h; exact h
  | m + 1, hm => by
    by_cases e : n = m + 1
    · rw [← e]; exact h
    · unfold area; rw [area_none h m (by omega)]
section
variable {d : Nat} {t : Nat} {mk : Int} {w : Option Addr} {F : List Nat} {S : List D.Sec} {W : List D.Lw} (L k : Nat) (hL : 100000 < L) (hW : W.length ≤ 10000) (hS : 66 ≤ S.length) (ht : t ≤ top) {m : Nat} (hmF : m ∉ F)
include hL hW hS ht hmF
theorem load_inner (m0 : Nat) {v : Nat} (hv : v < 4) : ∀ (n b : Nat) (σ : St) (cur : List ByteArray), b ≤ 8 → 8 - b < n → Img σ m d t mk cur w → D.Disk σ d F S W → area (rdS S W) t (8 * v + b) = some (cur.take (8 * v + b)) →
    (∃ σ', lpAt Tryz.prog env L (k + 8) 91 [true, false, true, false, true, true, false, true, true] [m0] n [(0, ptr m), (3, .int .i64 v), (7, .int .i64 v), (10, .int .i64 b)] σ = some (.bool false, σ') ∧ area (rdS S W) t 32 = none ∧ Same σ σ' [m]) ∨
    (∃ σ' cur', lpAt Tryz.prog env L (k + 8) 91 [true, false, true, false, true, true, false, true, true] [m0] n [(0, ptr m), (3, .int .i64 v), (7, .int .i64 v), (10, .int .i64 b)] σ = lpAt Tryz.prog env L (k + 8) 91 [true, false, true] [] m0 [(0, ptr m), (7, .int .i64 ((v + 1 : Nat) : Int))] σ' ∧ Img σ' m d t mk cur' w ∧ D.Disk σ' d F S W ∧ area (rdS S W) t (8 * (v + 1)) = some (cur'.take (8 * (v + 1))) ∧ Same σ σ' [m])
  | 0, b, σ, cur, _, h, _, _, _ => by omega
  | n + 1, b, σ, cur, hb, hn, hI, hD, ha => by
    rw [f91_l5]
    have hw1 : ∀ x : Nat, x < 100 → IntKind.wrap .i64 ((x : Int) + 1) = ((x + 1 : Nat) : Int) := fun x hx => by rw [wrap_in _ (by omega) (by omega)]; omega
    by_cases hb8 : b = 8
    · subst hb8
      rw [decide_eq_false (by omega), br_false, hw1 v (by omega)]
      exact .inr ⟨σ, cur, rfl, hI, hD, by rw [show 8 * (v + 1) = 8 * v + 8 by omega]; exact ha, Same.refl _ _⟩
    · have hx0 : IntKind.wrap .i64 (IntKind.wrap .i64 ((v : Int) * 8) + (b : Int)) = ((8 * v + b : Nat) : Int) := by rw [wrap_in ((v : Int) * 8) (by omega) (by omega), wrap_in _ (by omega) (by omega)]; omega
      obtain ⟨x, q, σ1, g1, s1, hblk⟩ := iread_spec hI hD L (k + 1) hL hW hS (i := 8 * v + b) (by omega) hx0 ht
      rw [decide_eq_true (by omega), br_true, g1, bnd_some, asT_t, toList2, uncons_c, asS_s, uncons_c, asB_b, endl_n]
      cases q with
      | false =>
        rw [not_false, br_true]
        refine .inl ⟨σ1, rfl, area_none (n := 8 * v + b + 1) ?_ 32 (by omega), s1.mono (by simp)⟩
        unfold area
        rw [ha]
        dsimp only
        rw [hblk, if_neg (by simp)]
      | true =>
        rw [if_pos rfl] at hblk
        have hI1 := hI.same s1 (by simp)
        have hD1 := hD.idle s1
        have hcl := hI.len
        have ho : 0 + 3 + Int.toNat (v : Int) * 8 + Int.toNat (b : Int) * 1 = 3 + (8 * v + b) := by simp; omega
        rw [not_true, br_false, need_of (by simp [inRange]; omega), need_of (by simp [inRange]; omega), ho, put_at hI1.ex (3 + (8 * v + b)) (.string x) (by rw [imc_len]; omega) rfl, imc_set _ _ _ _ _ (by omega), hw1 b (by omega)]
        have s2 := Same.set σ1 m (.own (imc d t mk (cur.set (8 * v + b) x) w) 169)
        have hI2 : Img (σ1.set m (.own (imc d t mk (cur.set (8 * v + b) x) w) 169)) m d t mk (cur.set (8 * v + b) x) w := ⟨get_set_same _ _ _, hI1.lt, by rw [List.length_set]; exact hcl⟩
        have hD2 := hD1.same s2 (fun q hq => by simp; rintro rfl; exact hmF hq)
        have ha2 : area (rdS S W) t (8 * v + (b + 1)) = some ((cur.set (8 * v + b) x).take (8 * v + (b + 1))) := by
          rw [show 8 * v + (b + 1) = (8 * v + b) + 1 by omega]
          unfold area
          rw [ha]
          dsimp only
          rw [hblk]
          dsimp only
          rw [List.take_add_one, List.getElem?_set, if_pos rfl, if_pos (by omega), List.take_set_of_le (Nat.le_refl _)]
          rfl
        have s12 : Same σ _ [m] := (s1.mono (by simp)).trans s2
        rcases load_inner m0 hv n (b + 1) _ (cur.set (8 * v + b) x) (by omega) (by omega) hI2 hD2 ha2 with ⟨σ', e, hno, s3⟩ | ⟨σ', cur', e, y1, y2, y3, s3⟩
        · exact .inl ⟨σ', e, hno, s12.trans s3⟩
        · exact .inr ⟨σ', cur', e, y1, y2, y3, s12.trans s3⟩
theorem load_outer : ∀ (n v : Nat) (σ : St) (cur : List ByteArray), v ≤ 4 → 4 - v < n → Img σ m d t mk cur w → D.Disk σ d F S W → area (rdS S W) t (8 * v) = some (cur.take (8 * v)) →
    ∃ b σ', lpAt Tryz.prog env L (k + 8) 91 [true, false, true] [] n [(0, ptr m), (7, .int .i64 v)] σ = some (.bool b, σ') ∧ Same σ σ' [m] ∧ (b = false → area (rdS S W) t 32 = none) ∧ (b = true → ∃ cur', Img σ' m d t mk cur' w ∧ area (rdS S W) t 32 = some cur')
  | 0, v, σ, cur, _, h, _, _, _ => by omega
  | n + 1, v, σ, cur, hv, hn, hI, hD, ha => by
    rw [f91_l2]
    by_cases hv4 : v = 4
    · subst hv4
      rw [decide_eq_false (by omega), br_false]
      exact ⟨true, σ, rfl, Same.refl _ _, (fun h => (by cases h)), fun _ => ⟨cur, hI, by rw [ha, List.take_of_length_le (by rw [hI.len]; omega)]⟩⟩
    · rw [decide_eq_true (by omega), br_true]
      rcases load_inner L k hL hW hS ht hmF n (v := v) (by omega) L 0 σ cur (by omega) (by omega) hI hD ha with ⟨σ', e, hno, s3⟩ | ⟨σ', cur', e, y1, y2, y3, s3⟩
      · exact ⟨false, σ', e, s3, fun _ => hno, fun h => (by cases h)⟩
      · obtain ⟨b, σ2, e2, s2, z1, z2⟩ := load_outer n (v + 1) σ' cur' (by omega) (by omega) y1 y2 y3
        exact ⟨b, σ2, e.trans e2, s3.trans s2, z1, z2⟩
theorem load_spec {σ : St} {cur : List ByteArray} (hI : Img σ m d t mk cur w) (hD : D.Disk σ d F S W) : ∃ b σ', evCall Tryz.prog env L (k + 9) 91 [ptr m] σ = some (.bool b, σ') ∧ Same σ σ' [m] ∧ (b = false → area (rdS S W) t 32 = none) ∧ (b = true → ∃ cur', Img σ' m d t mk cur' w ∧ area (rdS S W) t 32 = some cur') := by
  rw [f91_eq]
  exact load_outer L k hL hW hS ht hmF L 0 σ cur (by omega) (by omega) hI hD rfl
end
theorem hof_le {l : List UInt8} {slot : Nat} : (hof l slot).1 ≤ top := by
  have key : ∀ (n i acc : Nat) (l : List UInt8), l.length ≤ n → i ≤ 8 → acc < 128 ^ i → (rn i acc l).2.1 ≤ top := by
    intro n
    induction n with
    | zero =>
      intro i acc l hl _ _
      have h0 : l = [] := List.eq_nil_of_length_eq_zero (by omega)
      subst h0; simp [rn]
    | succ n ih =>
      intro i acc l hl hi ha
      cases l with
      | nil => simp [rn]
      | cons c r =>
        unfold rn
        split
        · simp
        rename_i h8
        split
        · simp
        have hp := pow_le i hi
        split
        · rename_i h128
          have hx : c.toNat % 128 * 128 ^ i ≤ 127 * 128 ^ i := Nat.mul_le_mul_right _ (by omega)
          by_cases e : i = 8
          · subst e
            have e8 : (128 : Nat) ^ 8 = 72057594037927936 := by decide
            rw [e8] at ha ⊢
            simp only; unfold top; omega
          · have hp7 : 128 ^ i ≤ 562949953421312 := by
              have : 128 ^ i ≤ 128 ^ 7 := Nat.pow_le_pow_right (by omega) (by omega)
              have e : (128 : Nat) ^ 7 = 562949953421312 := by decide
              omega
            simp only; unfold top; omega
        · rename_i h128
          have hc := c.toNat_lt
          have hx : c.toNat % 128 * 128 ^ i ≤ 127 * 128 ^ i := Nat.mul_le_mul_right _ (by omega)
          exact ih (i + 1) _ r (by simp at hl; omega) (by omega) (by rw [Nat.pow_succ]; omega)
  unfold hof
  split
  · exact Nat.zero_le _
  · rename_i b _
    split
    · exact Nat.zero_le _
    · show (rnum 0 b).2.1 ≤ top
      unfold rnum
      rw [if_neg (by simp)]
      exact key b.length 0 0 b (Nat.le_refl _) (by omega) (by simp)
section
variable {σ : St} {d : Nat} {F : List Nat} {S : List D.Sec} {W : List D.Lw} (L k : Nat) (hL : 100000 < L) (hW : W.length ≤ 10000) (hS : 66 ≤ S.length)
include hL hW hS
theorem slot_step {m : Nat} (hmF : m ∉ F) {t : Nat} {mk : Int} {bl : List ByteArray} {w : Option Addr} (hI : Img σ m d t mk bl w) (hD : D.Disk σ d F S W) (n : Nat) {slot : Nat} (hs : slot < 2) (bk : Bool) :
    ∃ σ', lpAt Tryz.prog env L (k + 8) 45 [true, true, true, true, false, true] [] (n + 1) [(0, ptr d), (4, ptr m), (5, .bool bk), (18, .int .i64 slot)] σ =
        lpAt Tryz.prog env L (k + 8) 45 [true, true, true, true, false, true] [] n [(0, ptr d), (4, ptr m), (5, .bool (bk && decide (rdS S W slot = List.replicate 64 0))), (18, .int .i64 ((slot + 1 : Nat) : Int))] σ' ∧
      Img σ' m d (if (hof (rdS S W slot) slot).1 > t then (hof (rdS S W slot) slot).1 else t : Nat) (if (hof (rdS S W slot) slot).1 > t then ((hof (rdS S W slot) slot).2 : Int) else mk) bl w ∧ Same σ σ' [m] := by
  rw [f45_l6, decide_eq_true (by omega), br_true]
  obtain ⟨q, σ1, g1, hB, hlen, s1, hq⟩ := dread_spec hD L (k + 5) (by omega) (by omega) (x := slot) rfl (by omega)
  rw [g1, bnd_some, asT_t, toList2, uncons_c, asSl_s, uncons_c, endl_n]
  have hw1 : IntKind.wrap .i64 ((slot : Int) + 1) = ((slot + 1 : Nat) : Int) := by rw [wrap_in _ (by omega) (by omega)]; omega
  generalize rdS S W slot = l at hB hlen
  -- the head
  have tail : ∀ {σ2 : St} (bk' : Bool), Same σ σ2 [] → Same σ1 σ2 [] → ∃ σ', (bnd (evCall Tryz.prog env L (k + 8) 90 [.slice (some ⟨q, 0, none⟩) 64 0, .int .i64 slot] σ2) fun v14 v15 => asAgL v14 fun v16 => uncons v16 fun v17 v18 => asI .i64 v17 fun v19 => uncons v18 fun v20 v21 => asI .i64 v20 fun v22 => endl v21 (St.put (St.new v15 (Blk.own [Value.int .i64 0, Value.int .i64 0] 166)) (St.next v15) 0 [Value.int .i64 v19, Value.int .i64 v22] fun v23 => St.ld v23 (St.next v15) 0 fun v24 => asI .i64 v24 fun v25 => St.ld v23 m (0 + 1 + 0) fun v26 => asI .i64 v26 fun v27 =>
      br (decide (v25 > v27)) (St.lds v23 (St.next v15) 0 2 fun v28 => uncons v28 fun v29 v30 => asI .i64 v29 fun v31 => uncons v30 fun v32 v33 => asI .i64 v32 fun v34 => endl v33 (St.put v23 m (0 + 1) [Value.int .i64 v31, Value.int .i64 v34] fun v35 =>
        lpAt Tryz.prog env L (k + 8) 45 [true, true, true, true, false, true] [] n [(0, ptr d), (4, ptr m), (5, .bool bk'), (18, .int .i64 (IntKind.wrap .i64 ((slot : Int) + 1)))] v35)) (lpAt Tryz.prog env L (k + 8) 45 [true, true, true, true, false, true] [] n [(0, ptr d), (4, ptr m), (5, .bool bk'), (18, .int .i64 (IntKind.wrap .i64 ((slot : Int) + 1)))] v23))) =
      lpAt Tryz.prog env L (k + 8) 45 [true, true, true, true, false, true] [] n [(0, ptr d), (4, ptr m), (5, .bool bk'), (18, .int .i64 ((slot + 1 : Nat) : Int))] σ' ∧
      Img σ' m d (if (hof l slot).1 > t then (hof l slot).1 else t : Nat) (if (hof l slot).1 > t then ((hof l slot).2 : Int) else mk) bl w ∧ Same σ σ' [m] := by
    intro σ2 bk' s02 s12
    obtain ⟨σ3, g3, s3⟩ := headOf_spec L (k + 1) hL (z := 0) (.inl rfl) (hB.same s12 (by simp)) (by omega) hlen.symm slot
    generalize hof l slot = hp at g3
    obtain ⟨ht, hm⟩ := hp
    rw [g3, bnd_some]
    show ∃ σ', asAgL (.agg [Value.int .i64 (ht : Int), Value.int .i64 (hm : Int)].toArray) _ = _ ∧ _
    rw [asAgL_a]
    show ∃ σ', uncons [Value.int .i64 (ht : Int), Value.int .i64 (hm : Int)] _ = _ ∧ _
    rw [uncons_c, asI_i, uncons_c, asI_i, endl_n, tmp_put2 σ3 [Value.int .i64 0, Value.int .i64 0] [Value.int .i64 (ht : Int), Value.int .i64 (hm : Int)] 166 rfl rfl]
    have s03 := s02.trans s3
    have s4 : Same σ3 (σ3.new (Blk.own [Value.int .i64 (ht : Int), Value.int .i64 (hm : Int)] 166)) [] := Same.new _ _ _
    have g4 : (σ3.new (Blk.own [Value.int .i64 (ht : Int), Value.int .i64 (hm : Int)] 166)).get σ3.next = some (Blk.own [Value.int .i64 (ht : Int), Value.int .i64 (hm : Int)] 166) := get_new_same _ _
    generalize σ3.new (Blk.own [Value.int .i64 (ht : Int), Value.int .i64 (hm : Int)] 166) = σ4 at s4 g4
    have s04 := s03.trans s4
    have hI4 := hI.same s04 (by simp)
    rw [ld_at g4 0 _ rfl, asI_i, ld_at hI4.ex (0 + 1 + 0) _ rfl, asI_i, hw1]
    by_cases hgt : ht > t
    · rw [decide_eq_true (by omega), br_true, lds_all (n := 2) g4 rfl, uncons_c, asI_i, uncons_c, asI_i, endl_n, put_own _ hI4.ex (by rw [imc_len, hI.len]; simp) rfl]
      have hov : over (imc d t mk bl w) (0 + 1) [Value.int .i64 (ht : Int), Value.int .i64 (hm : Int)] = imc d ht hm bl w := rfl
      rw [hov]
      have s5 := Same.set σ4 m (.own (imc d ht hm bl w) 169)
      exact ⟨_, rfl, ⟨by dsimp only; rw [if_pos hgt, if_pos hgt]; exact get_set_same _ _ _, hI4.lt, hI4.len⟩, (s04.mono (by simp)).trans s5⟩
    · rw [decide_eq_false (by omega), br_false]
      exact ⟨σ4, rfl, by dsimp only; rw [if_neg hgt, if_neg hgt]; exact hI4, s04.mono (by simp)⟩
  cases bk with
  | false =>
    rw [br_false]
    obtain ⟨σ', e, h1, h2⟩ := tail false s1 (Same.refl _ _)
    exact ⟨σ', e, h1, h2⟩
  | true =>
    rw [br_true, zeros8]
    have s2 : Same σ1 (σ1.new (Blk.own (by8 (List.replicate 64 0)) 5)) [] := Same.new _ _ _
    have g2 : (σ1.new (Blk.own (by8 (List.replicate 64 0)) 5)).get σ1.next = some (Blk.own (by8 (List.replicate 64 0)) 5) := get_new_same _ _
    have n2 : (σ1.new (Blk.own (by8 (List.replicate 64 0)) 5)).next = σ1.next + 1 := rfl
    generalize σ1.new (Blk.own (by8 (List.replicate 64 0)) 5) = σ2 at s2 g2 n2
    have eqs := bequal_spec L (k + 7) (z1 := 0) (z2 := 1) (hB.same s2 (by simp)) (Bytes.own g2 (by omega)) hlen.symm (List.length_replicate ..).symm
    rw [eqs, bnd_some, asB_b]
    obtain ⟨σ', e, h1, h2⟩ := tail (decide (l = List.replicate 64 0)) (s1.trans s2) s2
    exact ⟨σ', e, h1, h2⟩
theorem open_img (hD : D.Disk σ d F S W) :
    (∃ m t mk bl σ', opn (rdS S W) = some (t, mk, bl) ∧ evCall Tryz.prog env L (k + 10) 45 [ptr d] σ = some (.tuple #[ptr m, .nilIface], σ') ∧ Img σ' m d (t : Nat) (mk : Nat) bl none ∧ σ.next ≤ m ∧ Same σ σ' []) ∨
    (∃ q σ', opn (rdS S W) = none ∧ evCall Tryz.prog env L (k + 10) 45 [ptr d] σ = some (.tuple #[.pointer none, .iface 162 (ptr q)], σ') ∧ σ'.get q = some (.own [.string ⟨#[105, 109, 97, 103, 101]⟩, .int .i64 0, .iface 70 (.int .i64 4)] 164) ∧ q < σ'.next ∧ Same σ σ' []) := by
  obtain ⟨L', rfl⟩ : ∃ L', L = L' + 3 := ⟨L - 3, by omega⟩
  have hlit : ([ptr d, Value.int .i64 0, Value.int .i64 0, Value.string { data := #[] }, Value.string { data := #[] }, Value.string { data := #[] }, Value.string { data := #[] }, Value.string { data := #[] }, Value.string { data := #[] }, Value.string { data := #[] }, Value.string { data := #[] }, Value.string { data := #[] }, Value.string { data := #[] }, Value.string { data := #[] }, Value.string { data := #[] }, Value.string { data := #[] }, Value.string { data := #[] }, Value.string { data := #[] }, Value.string { data := #[] }, Value.string { data := #[] }, Value.string { data := #[] }, Value.string { data := #[] }, Value.string { data := #[] }, Value.string { data := #[] }, Value.string { data := #[] }, Value.string { data := #[] }, Value.string { data := #[] }, Value.string { data := #[] }, Value.string { data := #[] }, Value.string { data := #[] }, Value.string { data := #[] }, Value.string { data := #[] }, Value.string { data := #[] }, Value.string { data := #[] }, Value.string { data := #[] }, Value.pointer none] : List Value) = imc d ((0 : Nat) : Int) 0 (List.replicate 32 ⟨#[]⟩) none := rfl
  rw [f45_eq, D.len_spec hD (L' + 3) (k + 8), bnd_some, asI_i, f86_eq, bnd_some, asI_i, decide_eq_false (by omega), br_false, hlit]
  have s1 : Same σ (σ.new (.own (imc d ((0 : Nat) : Int) 0 (List.replicate 32 ⟨#[]⟩) none) 169)) [] := Same.new _ _ _
  have hI : Img (σ.new (.own (imc d ((0 : Nat) : Int) 0 (List.replicate 32 ⟨#[]⟩) none) 169)) σ.next d ((0 : Nat) : Int) 0 (List.replicate 32 ⟨#[]⟩) none := ⟨get_new_same _ _, by simp, rfl⟩
  generalize σ.new (.own (imc d ((0 : Nat) : Int) 0 (List.replicate 32 ⟨#[]⟩) none) 169) = σ1 at s1 hI
  have hmF : σ.next ∉ F := fun hq => by have := hD.lt _ hq; omega
  have hD1 := hD.idle s1
  have n1 := s1.1
  obtain ⟨σ2, e2, hI2, s2⟩ := slot_step (L' + 3) (k + 1) hL hW hS hmF hI hD1 (L' + 2) (slot := 0) (by omega) true
  have hD2 := hD1.same s2 (fun q hq => by simp; rintro rfl; exact hmF hq)
  obtain ⟨σ3, e3, hI3, s3⟩ := slot_step (L' + 3) (k + 1) hL hW hS hmF hI2 hD2 (L' + 1) (slot := 1) (by omega) (true && decide (rdS S W 0 = List.replicate 64 0))
  have hD3 := hD2.same s3 (fun q hq => by simp; rintro rfl; exact hmF hq)
  have s03 : Same σ σ3 [] := (s1.fresh s2 (fun x hx => .inr (by simp at hx; subst hx; exact Nat.le_refl _))).fresh s3 (fun x hx => .inr (by simp at hx; subst hx; exact Nat.le_refl _))
  refine (fun hres => ?_) (e2.trans e3)
  rw [show (lpAt Tryz.prog env (L' + 3) (k + 9) 45 [true, true, true, true, false, true] [] (L' + 3) [(0, ptr d), (4, ptr σ.next), (5, .bool true), (18, .int .i64 0)] σ1) = _ from hres]
  have hz2 : ∀ (l : List UInt8) (s : Nat), (hof l s).1 = 0 → (hof l s).2 = 0 := by
    intro l s
    unfold hof
    split
    · exact fun _ => rfl
    · split
      · exact fun _ => rfl
      · rename_i h; intro h0; exact absurd (.inr (.inl (by omega))) h
  -- the head that counts
  have hhd : Img σ3 σ.next d ((headS (rdS S W)).1 : Nat) ((headS (rdS S W)).2 : Nat) (List.replicate 32 ⟨#[]⟩) none := by
    have e0a : (if (hof (rdS S W 0) 0).1 > 0 then (hof (rdS S W 0) 0).1 else 0) = (hof (rdS S W 0) 0).1 := by split <;> omega
    have e0b : (if (hof (rdS S W 0) 0).1 > 0 then ((hof (rdS S W 0) 0).2 : Int) else 0) = ((hof (rdS S W 0) 0).2 : Int) := by
      split
      · rfl
      · rename_i h; rw [hz2 _ _ (by omega)]; rfl
    rw [e0a, e0b] at hI3
    unfold headS
    by_cases hgt : (hof (rdS S W 1) 1).1 > (hof (rdS S W 0) 0).1
    · rw [if_pos hgt, if_pos hgt] at hI3; rw [if_pos hgt]; exact hI3
    · rw [if_neg hgt, if_neg hgt] at hI3; rw [if_neg hgt]; exact hI3
  have htop : (headS (rdS S W)).1 ≤ top := by unfold headS; split <;> exact hof_le
  have hz3 : (headS (rdS S W)).1 = 0 → (headS (rdS S W)).2 = 0 := by
    unfold headS
    split
    · exact hz2 _ _
    · exact hz2 _ _
  rw [f45_l6, decide_eq_false (by decide), br_false, ld_at hhd.ex (0 + 1 + 0) _ rfl, asI_i]
  have fail : ∀ {σ4 : St}, Same σ σ4 [] → opn (rdS S W) = none → ∃ q σ', opn (rdS S W) = none ∧ (bnd (evCall Tryz.prog env (L' + 3) (k + 9) 87 [.int .i64 0, .int .i64 4] σ4) fun v63 v64 => some (Value.tuple #[Value.pointer none, v63], v64)) = some (.tuple #[.pointer none, .iface 162 (ptr q)], σ') ∧ σ'.get q = some (.own [.string ⟨#[105, 109, 97, 103, 101]⟩, .int .i64 0, .iface 70 (.int .i64 4)] 164) ∧ q < σ'.next ∧ Same σ σ' [] := by
    intro σ4 hs hno
    obtain ⟨q, σ5, g5, hq1, hq2, s5⟩ := wrapi_spec (L' + 3) (k + 7) σ4 0 4 (by decide)
    rw [g5, bnd_some]
    exact ⟨q, σ5, hno, rfl, hq1, hq2, hs.trans s5⟩
  by_cases ht0 : 0 < (headS (rdS S W)).1
  · obtain ⟨b, σ4, g4, s4, hb1, hb2⟩ := load_spec (L' + 3) k hL hW hS htop hmF hhd hD3
    have s04 : Same σ σ4 [] := s03.fresh s4 (fun x hx => .inr (by simp at hx; subst hx; exact Nat.le_refl _))
    rw [decide_eq_true (by omega), br_true, g4, bnd_some, asB_b]
    cases b with
    | false =>
      rw [not_false, br_true]
      exact .inr (fail s04 (by unfold opn; rw [if_pos ht0, hb1 rfl]))
    | true =>
      obtain ⟨cur, hI4, ha⟩ := hb2 rfl
      rw [not_true, br_false]
      exact .inl ⟨σ.next, _, _, cur, σ4, by unfold opn; rw [if_pos ht0, ha], rfl, hI4, Nat.le_refl _, s04⟩
  · have ht00 : (headS (rdS S W)).1 = 0 := by omega
    rw [decide_eq_false (by omega), br_false]
    by_cases hz : rdS S W 0 = List.replicate 64 0 ∧ rdS S W 1 = List.replicate 64 0
    · have hbk : ((true && decide (rdS S W 0 = List.replicate 64 0)) && decide (rdS S W 1 = List.replicate 64 0)) = true := by rw [decide_eq_true hz.1, decide_eq_true hz.2]; rfl
      rw [hbk, not_true, br_false]
      refine .inl ⟨σ.next, 0, 0, List.replicate 32 ⟨#[]⟩, σ3, by unfold opn; rw [if_neg ht0, if_pos hz], rfl, ?_, Nat.le_refl _, s03⟩
      rw [ht00, hz3 ht00] at hhd
      exact hhd
    · have hbk : ((true && decide (rdS S W 0 = List.replicate 64 0)) && decide (rdS S W 1 = List.replicate 64 0)) = false := by
        by_cases h0 : rdS S W 0 = List.replicate 64 0
        · rw [decide_eq_false (fun h1 => hz ⟨h0, h1⟩), Bool.and_false]
        · rw [decide_eq_false h0]; rfl
      rw [hbk, not_false, br_true]
      exact .inr (fail s03 (by unfold opn; rw [if_neg ht0, if_neg hz]))
end
end Go.AM.Bk

namespace Go.AM.Bk
open Go.Proofs
def Err (σ : St) (v : Value) (c at_ : Int) : Prop := ∃ q, v = .iface 162 (.pointer (some ⟨q, 0, none⟩)) ∧ σ.get q = some (.own [.string ⟨#[105, 109, 97, 103, 101]⟩, .int .i64 at_, .iface 70 (.int .i64 c)] 164) ∧ q < σ.next
end Go.AM.Bk
