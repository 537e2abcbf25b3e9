/-
  Texts laid together: BkM, BkO, BkN, BkQ, BkR, BkT, Am22, BkU, BkV, BkW, BkArgs, BkX, BkSA, BkSB, BkSE, BkSD.
-/
import Derived.Test.YtnihjgamfnabnaaGreatDoorBkAg
import Derived.Test.YtnihjgamfnabnaaGreatDoorAm13g
import Derived.Test.YtnihjgamfnabnaaGreatDoorEnvBk
import Derived.Test.YtnihjgamfnabnaaGreatDoorEqBk
set_option linter.unusedVariables false
set_option linter.unusedSimpArgs false
set_option linter.unusedSectionVars false
/-
  THE IMAGE, opened.
-/
namespace Go.AM.Bk
open Go.Proofs

theorem area_none {rd : Nat → List UInt8} {t : Nat} {n : Nat} (h : area rd t n = none) : ∀ m : Nat, n ≤ m → area rd t m = none
  | 0, hm => by rw [show n = 0 by omega] at h; exact h
  | m + 1, hm => by
    by_cases e : n = m + 1
    · rw [← e]; exact h
    · unfold area; rw [area_none h m (by omega)]

section
variable {d : Nat} {t : Nat} {mk : Int} {w : Option Addr} {F : List Nat} {S : List D.Sec} {W : List D.Lw} (L k : Nat) (hL : 100000 < L) (hW : W.length ≤ 10000) (hS : 66 ≤ S.length) (ht : t ≤ top) {m : Nat} (hmF : m ∉ F)
include hL hW hS ht hmF
theorem load_inner (m0 : Nat) {v : Nat} (hv : v < 4) : ∀ (n b : Nat) (σ : St) (cur : List ByteArray), b ≤ 8 → 8 - b < n → Img σ m d t mk cur w → D.Disk σ d F S W → area (rdS S W) t (8 * v + b) = some (cur.take (8 * v + b)) →
    (∃ σ', lpAt Tryz.prog env L (k + 8) 91 [true, false, true, false, true, true, false, true, true] [m0] n [(0, ptr m), (3, .int .i64 v), (7, .int .i64 v), (10, .int .i64 b)] σ = some (.bool false, σ') ∧ area (rdS S W) t 32 = none ∧ Same σ σ' [m]) ∨
    (∃ σ' cur', lpAt Tryz.prog env L (k + 8) 91 [true, false, true, false, true, true, false, true, true] [m0] n [(0, ptr m), (3, .int .i64 v), (7, .int .i64 v), (10, .int .i64 b)] σ = lpAt Tryz.prog env L (k + 8) 91 [true, false, true] [] m0 [(0, ptr m), (7, .int .i64 ((v + 1 : Nat) : Int))] σ' ∧ Img σ' m d t mk cur' w ∧ D.Disk σ' d F S W ∧ area (rdS S W) t (8 * (v + 1)) = some (cur'.take (8 * (v + 1))) ∧ Same σ σ' [m])
  | 0, b, σ, cur, _, h, _, _, _ => by omega
  | n + 1, b, σ, cur, hb, hn, hI, hD, ha => by
    rw [f91_l5]
    have hw1 : ∀ x : Nat, x < 100 → IntKind.wrap .i64 ((x : Int) + 1) = ((x + 1 : Nat) : Int) := fun x hx => by rw [wrap_in _ (by omega) (by omega)]; omega
    by_cases hb8 : b = 8
    · subst hb8
      rw [decide_eq_false (by omega), br_false, hw1 v (by omega)]
      exact .inr ⟨σ, cur, rfl, hI, hD, by rw [show 8 * (v + 1) = 8 * v + 8 by omega]; exact ha, Same.refl _ _⟩
    · have hx0 : IntKind.wrap .i64 (IntKind.wrap .i64 ((v : Int) * 8) + (b : Int)) = ((8 * v + b : Nat) : Int) := by rw [wrap_in ((v : Int) * 8) (by omega) (by omega), wrap_in _ (by omega) (by omega)]; omega
      obtain ⟨x, q, σ1, g1, s1, hblk⟩ := iread_spec hI hD L (k + 1) hL hW hS (i := 8 * v + b) (by omega) hx0 ht
      rw [decide_eq_true (by omega), br_true, g1, bnd_some, asT_t, toList2, uncons_c, asS_s, uncons_c, asB_b, endl_n]
      cases q with
      | false =>
        rw [not_false, br_true]
        refine .inl ⟨σ1, rfl, area_none (n := 8 * v + b + 1) ?_ 32 (by omega), s1.mono (by simp)⟩
        unfold area
        rw [ha]
        dsimp only
        rw [hblk, if_neg (by simp)]
      | true =>
        rw [if_pos rfl] at hblk
        have hI1 := hI.same s1 (by simp)
        have hD1 := hD.idle s1
        have hcl := hI.len
        have ho : 0 + 3 + Int.toNat (v : Int) * 8 + Int.toNat (b : Int) * 1 = 3 + (8 * v + b) := by simp; omega
        rw [not_true, br_false, need_of (by simp [inRange]; omega), need_of (by simp [inRange]; omega), ho, put_at hI1.ex (3 + (8 * v + b)) (.string x) (by rw [imc_len]; omega) rfl, imc_set _ _ _ _ _ (by omega), hw1 b (by omega)]
        have s2 := Same.set σ1 m (.own (imc d t mk (cur.set (8 * v + b) x) w) 169)
        have hI2 : Img (σ1.set m (.own (imc d t mk (cur.set (8 * v + b) x) w) 169)) m d t mk (cur.set (8 * v + b) x) w := ⟨get_set_same _ _ _, hI1.lt, by rw [List.length_set]; exact hcl⟩
        have hD2 := hD1.same s2 (fun q hq => by simp; rintro rfl; exact hmF hq)
        have ha2 : area (rdS S W) t (8 * v + (b + 1)) = some ((cur.set (8 * v + b) x).take (8 * v + (b + 1))) := by
          rw [show 8 * v + (b + 1) = (8 * v + b) + 1 by omega]
          unfold area
          rw [ha]
          dsimp only
          rw [hblk]
          dsimp only
          rw [List.take_add_one, List.getElem?_set, if_pos rfl, if_pos (by omega), List.take_set_of_le (Nat.le_refl _)]
          rfl
        have s12 : Same σ _ [m] := (s1.mono (by simp)).trans s2
        rcases load_inner m0 hv n (b + 1) _ (cur.set (8 * v + b) x) (by omega) (by omega) hI2 hD2 ha2 with ⟨σ', e, hno, s3⟩ | ⟨σ', cur', e, y1, y2, y3, s3⟩
        · exact .inl ⟨σ', e, hno, s12.trans s3⟩
        · exact .inr ⟨σ', cur', e, y1, y2, y3, s12.trans s3⟩
theorem load_outer : ∀ (n v : Nat) (σ : St) (cur : List ByteArray), v ≤ 4 → 4 - v < n → Img σ m d t mk cur w → D.Disk σ d F S W → area (rdS S W) t (8 * v) = some (cur.take (8 * v)) →
    ∃ b σ', lpAt Tryz.prog env L (k + 8) 91 [true, false, true] [] n [(0, ptr m), (7, .int .i64 v)] σ = some (.bool b, σ') ∧ Same σ σ' [m] ∧ (b = false → area (rdS S W) t 32 = none) ∧ (b = true → ∃ cur', Img σ' m d t mk cur' w ∧ area (rdS S W) t 32 = some cur')
  | 0, v, σ, cur, _, h, _, _, _ => by omega
  | n + 1, v, σ, cur, hv, hn, hI, hD, ha => by
    rw [f91_l2]
    by_cases hv4 : v = 4
    · subst hv4
      rw [decide_eq_false (by omega), br_false]
      exact ⟨true, σ, rfl, Same.refl _ _, (fun h => (by cases h)), fun _ => ⟨cur, hI, by rw [ha, List.take_of_length_le (by rw [hI.len]; omega)]⟩⟩
    · rw [decide_eq_true (by omega), br_true]
      rcases load_inner L k hL hW hS ht hmF n (v := v) (by omega) L 0 σ cur (by omega) (by omega) hI hD ha with ⟨σ', e, hno, s3⟩ | ⟨σ', cur', e, y1, y2, y3, s3⟩
      · exact ⟨false, σ', e, s3, fun _ => hno, fun h => (by cases h)⟩
      · obtain ⟨b, σ2, e2, s2, z1, z2⟩ := load_outer n (v + 1) σ' cur' (by omega) (by omega) y1 y2 y3
        exact ⟨b, σ2, e.trans e2, s3.trans s2, z1, z2⟩
theorem load_spec {σ : St} {cur : List ByteArray} (hI : Img σ m d t mk cur w) (hD : D.Disk σ d F S W) : ∃ b σ', evCall Tryz.prog env L (k + 9) 91 [ptr m] σ = some (.bool b, σ') ∧ Same σ σ' [m] ∧ (b = false → area (rdS S W) t 32 = none) ∧ (b = true → ∃ cur', Img σ' m d t mk cur' w ∧ area (rdS S W) t 32 = some cur') := by
  rw [f91_eq]
  exact load_outer L k hL hW hS ht hmF L 0 σ cur (by omega) (by omega) hI hD rfl
end

theorem hof_le {l : List UInt8} {slot : Nat} : (hof l slot).1 ≤ top := by
  have key : ∀ (n i acc : Nat) (l : List UInt8), l.length ≤ n → i ≤ 8 → acc < 128 ^ i → (rn i acc l).2.1 ≤ top := by
    intro n
    induction n with
    | zero =>
      intro i acc l hl _ _
      have h0 : l = [] := List.eq_nil_of_length_eq_zero (by omega)
      subst h0; simp [rn]
    | succ n ih =>
      intro i acc l hl hi ha
      cases l with
      | nil => simp [rn]
      | cons c r =>
        unfold rn
        split
        · simp
        rename_i h8
        split
        · simp
        have hp := pow_le i hi
        split
        · rename_i h128
          have hx : c.toNat % 128 * 128 ^ i ≤ 127 * 128 ^ i := Nat.mul_le_mul_right _ (by omega)
          by_cases e : i = 8
          · subst e
            have e8 : (128 : Nat) ^ 8 = 72057594037927936 := by decide
            rw [e8] at ha ⊢
            simp only; unfold top; omega
          · have hp7 : 128 ^ i ≤ 562949953421312 := by
              have : 128 ^ i ≤ 128 ^ 7 := Nat.pow_le_pow_right (by omega) (by omega)
              have e : (128 : Nat) ^ 7 = 562949953421312 := by decide
              omega
            simp only; unfold top; omega
        · rename_i h128
          have hc := c.toNat_lt
          have hx : c.toNat % 128 * 128 ^ i ≤ 127 * 128 ^ i := Nat.mul_le_mul_right _ (by omega)
          exact ih (i + 1) _ r (by simp at hl; omega) (by omega) (by rw [Nat.pow_succ]; omega)
  unfold hof
  split
  · exact Nat.zero_le _
  · rename_i b _
    split
    · exact Nat.zero_le _
    · show (rnum 0 b).2.1 ≤ top
      unfold rnum
      rw [if_neg (by simp)]
      exact key b.length 0 0 b (Nat.le_refl _) (by omega) (by simp)

section
variable {σ : St} {d : Nat} {F : List Nat} {S : List D.Sec} {W : List D.Lw} (L k : Nat) (hL : 100000 < L) (hW : W.length ≤ 10000) (hS : 66 ≤ S.length)
include hL hW hS
theorem zero64 : zerosN [Value.int .u8 (0 : Int)] 64 = by8 (List.replicate 64 0) := zeros8 64
/-- One slot. -/
theorem slot_step {m : Nat} (hmF : m ∉ F) {t : Nat} {mk : Int} {bl : List ByteArray} {w : Option Addr} (hI : Img σ m d t mk bl w) (hD : D.Disk σ d F S W) (n : Nat) {slot : Nat} (hs : slot < 2) (bk : Bool) :
    ∃ σ', lpAt Tryz.prog env L (k + 8) 45 [true, true, true, true, false, true] [] (n + 1) [(0, ptr d), (4, ptr m), (5, .bool bk), (18, .int .i64 slot)] σ =
        lpAt Tryz.prog env L (k + 8) 45 [true, true, true, true, false, true] [] n [(0, ptr d), (4, ptr m), (5, .bool (bk && decide (rdS S W slot = List.replicate 64 0))), (18, .int .i64 ((slot + 1 : Nat) : Int))] σ' ∧
      Img σ' m d (if (hof (rdS S W slot) slot).1 > t then (hof (rdS S W slot) slot).1 else t : Nat) (if (hof (rdS S W slot) slot).1 > t then ((hof (rdS S W slot) slot).2 : Int) else mk) bl w ∧ Same σ σ' [m] := by
  rw [f45_l6, decide_eq_true (by omega), br_true]
  obtain ⟨q, σ1, g1, hB, hlen, s1, hq⟩ := dread_spec hD L (k + 5) (by omega) (by omega) (x := slot) rfl (by omega)
  rw [g1, bnd_some, asT_t, toList2, uncons_c, asSl_s, uncons_c, endl_n]
  have hw1 : IntKind.wrap .i64 ((slot : Int) + 1) = ((slot + 1 : Nat) : Int) := by rw [wrap_in _ (by omega) (by omega)]; omega
  generalize rdS S W slot = l at hB hlen
  -- the head
  have tail : ∀ {σ2 : St} (bk' : Bool), Same σ σ2 [] → Same σ1 σ2 [] → ∃ σ', (bnd (evCall Tryz.prog env L (k + 8) 90 [.slice (some ⟨q, 0, none⟩) 64 0, .int .i64 slot] σ2) fun v14 v15 => asAgL v14 fun v16 => uncons v16 fun v17 v18 => asI .i64 v17 fun v19 => uncons v18 fun v20 v21 => asI .i64 v20 fun v22 => endl v21 (St.put (St.new v15 (Blk.own [Value.int .i64 0, Value.int .i64 0] 166)) (St.next v15) 0 [Value.int .i64 v19, Value.int .i64 v22] fun v23 => St.ld v23 (St.next v15) 0 fun v24 => asI .i64 v24 fun v25 => St.ld v23 m (0 + 1 + 0) fun v26 => asI .i64 v26 fun v27 =>
      br (decide (v25 > v27)) (St.lds v23 (St.next v15) 0 2 fun v28 => uncons v28 fun v29 v30 => asI .i64 v29 fun v31 => uncons v30 fun v32 v33 => asI .i64 v32 fun v34 => endl v33 (St.put v23 m (0 + 1) [Value.int .i64 v31, Value.int .i64 v34] fun v35 =>
        lpAt Tryz.prog env L (k + 8) 45 [true, true, true, true, false, true] [] n [(0, ptr d), (4, ptr m), (5, .bool bk'), (18, .int .i64 (IntKind.wrap .i64 ((slot : Int) + 1)))] v35)) (lpAt Tryz.prog env L (k + 8) 45 [true, true, true, true, false, true] [] n [(0, ptr d), (4, ptr m), (5, .bool bk'), (18, .int .i64 (IntKind.wrap .i64 ((slot : Int) + 1)))] v23))) =
      lpAt Tryz.prog env L (k + 8) 45 [true, true, true, true, false, true] [] n [(0, ptr d), (4, ptr m), (5, .bool bk'), (18, .int .i64 ((slot + 1 : Nat) : Int))] σ' ∧
      Img σ' m d (if (hof l slot).1 > t then (hof l slot).1 else t : Nat) (if (hof l slot).1 > t then ((hof l slot).2 : Int) else mk) bl w ∧ Same σ σ' [m] := by
    intro σ2 bk' s02 s12
    obtain ⟨σ3, g3, s3⟩ := headOf_spec L (k + 1) hL (z := 0) (.inl rfl) (hB.same s12 (by simp)) (by omega) hlen.symm slot
    generalize hof l slot = hp at g3
    obtain ⟨ht, hm⟩ := hp
    rw [g3, bnd_some]
    show ∃ σ', asAgL (.agg [Value.int .i64 (ht : Int), Value.int .i64 (hm : Int)].toArray) _ = _ ∧ _
    rw [asAgL_a]
    show ∃ σ', uncons [Value.int .i64 (ht : Int), Value.int .i64 (hm : Int)] _ = _ ∧ _
    rw [uncons_c, asI_i, uncons_c, asI_i, endl_n, tmp_put2 σ3 [Value.int .i64 0, Value.int .i64 0] [Value.int .i64 (ht : Int), Value.int .i64 (hm : Int)] 166 rfl rfl]
    have s03 := s02.trans s3
    have s4 : Same σ3 (σ3.new (Blk.own [Value.int .i64 (ht : Int), Value.int .i64 (hm : Int)] 166)) [] := Same.new _ _ _
    have g4 : (σ3.new (Blk.own [Value.int .i64 (ht : Int), Value.int .i64 (hm : Int)] 166)).get σ3.next = some (Blk.own [Value.int .i64 (ht : Int), Value.int .i64 (hm : Int)] 166) := get_new_same _ _
    generalize σ3.new (Blk.own [Value.int .i64 (ht : Int), Value.int .i64 (hm : Int)] 166) = σ4 at s4 g4
    have s04 := s03.trans s4
    have hI4 := hI.same s04 (by simp)
    rw [ld_at g4 0 _ rfl, asI_i, ld_at hI4.ex (0 + 1 + 0) _ rfl, asI_i, hw1]
    by_cases hgt : ht > t
    · rw [decide_eq_true (by omega), br_true, lds_all (n := 2) g4 rfl, uncons_c, asI_i, uncons_c, asI_i, endl_n, put_own _ hI4.ex (by rw [imc_len, hI.len]; simp) rfl]
      have hov : over (imc d t mk bl w) (0 + 1) [Value.int .i64 (ht : Int), Value.int .i64 (hm : Int)] = imc d ht hm bl w := rfl
      rw [hov]
      have s5 := Same.set σ4 m (.own (imc d ht hm bl w) 169)
      exact ⟨_, rfl, ⟨by dsimp only; rw [if_pos hgt, if_pos hgt]; exact get_set_same _ _ _, hI4.lt, hI4.len⟩, (s04.mono (by simp)).trans s5⟩
    · rw [decide_eq_false (by omega), br_false]
      exact ⟨σ4, rfl, by dsimp only; rw [if_neg hgt, if_neg hgt]; exact hI4, s04.mono (by simp)⟩
  cases bk with
  | false =>
    rw [br_false]
    obtain ⟨σ', e, h1, h2⟩ := tail false s1 (Same.refl _ _)
    exact ⟨σ', e, h1, h2⟩
  | true =>
    rw [br_true, zeros8]
    have s2 : Same σ1 (σ1.new (Blk.own (by8 (List.replicate 64 0)) 5)) [] := Same.new _ _ _
    have g2 : (σ1.new (Blk.own (by8 (List.replicate 64 0)) 5)).get σ1.next = some (Blk.own (by8 (List.replicate 64 0)) 5) := get_new_same _ _
    have n2 : (σ1.new (Blk.own (by8 (List.replicate 64 0)) 5)).next = σ1.next + 1 := rfl
    generalize σ1.new (Blk.own (by8 (List.replicate 64 0)) 5) = σ2 at s2 g2 n2
    have eqs := bequal_spec L (k + 7) (z1 := 0) (z2 := 1) (hB.same s2 (by simp)) (Bytes.own g2 (by omega)) hlen.symm (List.length_replicate ..).symm
    rw [eqs, bnd_some, asB_b]
    obtain ⟨σ', e, h1, h2⟩ := tail (decide (l = List.replicate 64 0)) (s1.trans s2) s2
    exact ⟨σ', e, h1, h2⟩

/-- An image is opened. -/
theorem open_img (hD : D.Disk σ d F S W) :
    (∃ m t mk bl σ', opn (rdS S W) = some (t, mk, bl) ∧ evCall Tryz.prog env L (k + 10) 45 [ptr d] σ = some (.tuple #[ptr m, .nilIface], σ') ∧ Img σ' m d (t : Nat) (mk : Nat) bl none ∧ σ.next ≤ m ∧ Same σ σ' []) ∨
    (∃ q σ', opn (rdS S W) = none ∧ evCall Tryz.prog env L (k + 10) 45 [ptr d] σ = some (.tuple #[.pointer none, .iface 162 (ptr q)], σ') ∧ σ'.get q = some (.own [.string ⟨#[105, 109, 97, 103, 101]⟩, .int .i64 0, .iface 70 (.int .i64 4)] 164) ∧ q < σ'.next ∧ Same σ σ' []) := by
  obtain ⟨L', rfl⟩ : ∃ L', L = L' + 3 := ⟨L - 3, by omega⟩
  have hlit : ([ptr d, Value.int .i64 0, Value.int .i64 0, Value.string { data := #[] }, Value.string { data := #[] }, Value.string { data := #[] }, Value.string { data := #[] }, Value.string { data := #[] }, Value.string { data := #[] }, Value.string { data := #[] }, Value.string { data := #[] }, Value.string { data := #[] }, Value.string { data := #[] }, Value.string { data := #[] }, Value.string { data := #[] }, Value.string { data := #[] }, Value.string { data := #[] }, Value.string { data := #[] }, Value.string { data := #[] }, Value.string { data := #[] }, Value.string { data := #[] }, Value.string { data := #[] }, Value.string { data := #[] }, Value.string { data := #[] }, Value.string { data := #[] }, Value.string { data := #[] }, Value.string { data := #[] }, Value.string { data := #[] }, Value.string { data := #[] }, Value.string { data := #[] }, Value.string { data := #[] }, Value.string { data := #[] }, Value.string { data := #[] }, Value.string { data := #[] }, Value.string { data := #[] }, Value.pointer none] : List Value) = imc d ((0 : Nat) : Int) 0 (List.replicate 32 ⟨#[]⟩) none := rfl
  rw [f45_eq, D.len_spec hD (L' + 3) (k + 8), bnd_some, asI_i, f86_eq, bnd_some, asI_i, decide_eq_false (by omega), br_false, hlit]
  have s1 : Same σ (σ.new (.own (imc d ((0 : Nat) : Int) 0 (List.replicate 32 ⟨#[]⟩) none) 169)) [] := Same.new _ _ _
  have hI : Img (σ.new (.own (imc d ((0 : Nat) : Int) 0 (List.replicate 32 ⟨#[]⟩) none) 169)) σ.next d ((0 : Nat) : Int) 0 (List.replicate 32 ⟨#[]⟩) none := ⟨get_new_same _ _, by simp, rfl⟩
  generalize σ.new (.own (imc d ((0 : Nat) : Int) 0 (List.replicate 32 ⟨#[]⟩) none) 169) = σ1 at s1 hI
  have hmF : σ.next ∉ F := fun hq => by have := hD.lt _ hq; omega
  have hD1 := hD.idle s1
  have n1 := s1.1
  obtain ⟨σ2, e2, hI2, s2⟩ := slot_step (L' + 3) (k + 1) hL hW hS hmF hI hD1 (L' + 2) (slot := 0) (by omega) true
  have hD2 := hD1.same s2 (fun q hq => by simp; rintro rfl; exact hmF hq)
  obtain ⟨σ3, e3, hI3, s3⟩ := slot_step (L' + 3) (k + 1) hL hW hS hmF hI2 hD2 (L' + 1) (slot := 1) (by omega) (true && decide (rdS S W 0 = List.replicate 64 0))
  have hD3 := hD2.same s3 (fun q hq => by simp; rintro rfl; exact hmF hq)
  have s03 : Same σ σ3 [] := (s1.fresh s2 (fun x hx => .inr (by simp at hx; subst hx; exact Nat.le_refl _))).fresh s3 (fun x hx => .inr (by simp at hx; subst hx; exact Nat.le_refl _))
  refine (fun hres => ?_) (e2.trans e3)
  rw [show (lpAt Tryz.prog env (L' + 3) (k + 9) 45 [true, true, true, true, false, true] [] (L' + 3) [(0, ptr d), (4, ptr σ.next), (5, .bool true), (18, .int .i64 0)] σ1) = _ from hres]
  have hz2 : ∀ (l : List UInt8) (s : Nat), (hof l s).1 = 0 → (hof l s).2 = 0 := by
    intro l s
    unfold hof
    split
    · exact fun _ => rfl
    · split
      · exact fun _ => rfl
      · rename_i h; intro h0; exact absurd (.inr (.inl (by omega))) h
  -- the head that counts
  have hhd : Img σ3 σ.next d ((headS (rdS S W)).1 : Nat) ((headS (rdS S W)).2 : Nat) (List.replicate 32 ⟨#[]⟩) none := by
    have e0a : (if (hof (rdS S W 0) 0).1 > 0 then (hof (rdS S W 0) 0).1 else 0) = (hof (rdS S W 0) 0).1 := by split <;> omega
    have e0b : (if (hof (rdS S W 0) 0).1 > 0 then ((hof (rdS S W 0) 0).2 : Int) else 0) = ((hof (rdS S W 0) 0).2 : Int) := by
      split
      · rfl
      · rename_i h; rw [hz2 _ _ (by omega)]; rfl
    rw [e0a, e0b] at hI3
    unfold headS
    by_cases hgt : (hof (rdS S W 1) 1).1 > (hof (rdS S W 0) 0).1
    · rw [if_pos hgt, if_pos hgt] at hI3; rw [if_pos hgt]; exact hI3
    · rw [if_neg hgt, if_neg hgt] at hI3; rw [if_neg hgt]; exact hI3
  have htop : (headS (rdS S W)).1 ≤ top := by unfold headS; split <;> exact hof_le
  have hz3 : (headS (rdS S W)).1 = 0 → (headS (rdS S W)).2 = 0 := by
    unfold headS
    split
    · exact hz2 _ _
    · exact hz2 _ _
  rw [f45_l6, decide_eq_false (by decide), br_false, ld_at hhd.ex (0 + 1 + 0) _ rfl, asI_i]
  have fail : ∀ {σ4 : St}, Same σ σ4 [] → opn (rdS S W) = none → ∃ q σ', opn (rdS S W) = none ∧ (bnd (evCall Tryz.prog env (L' + 3) (k + 9) 87 [.int .i64 0, .int .i64 4] σ4) fun v63 v64 => some (Value.tuple #[Value.pointer none, v63], v64)) = some (.tuple #[.pointer none, .iface 162 (ptr q)], σ') ∧ σ'.get q = some (.own [.string ⟨#[105, 109, 97, 103, 101]⟩, .int .i64 0, .iface 70 (.int .i64 4)] 164) ∧ q < σ'.next ∧ Same σ σ' [] := by
    intro σ4 hs hno
    obtain ⟨q, σ5, g5, hq1, hq2, s5⟩ := wrapi_spec (L' + 3) (k + 7) σ4 0 4 (by decide)
    rw [g5, bnd_some]
    exact ⟨q, σ5, hno, rfl, hq1, hq2, hs.trans s5⟩
  by_cases ht0 : 0 < (headS (rdS S W)).1
  · obtain ⟨b, σ4, g4, s4, hb1, hb2⟩ := load_spec (L' + 3) k hL hW hS htop hmF hhd hD3
    have s04 : Same σ σ4 [] := s03.fresh s4 (fun x hx => .inr (by simp at hx; subst hx; exact Nat.le_refl _))
    rw [decide_eq_true (by omega), br_true, g4, bnd_some, asB_b]
    cases b with
    | false =>
      rw [not_false, br_true]
      exact .inr (fail s04 (by unfold opn; rw [if_pos ht0, hb1 rfl]))
    | true =>
      obtain ⟨cur, hI4, ha⟩ := hb2 rfl
      rw [not_true, br_false]
      exact .inl ⟨σ.next, _, _, cur, σ4, by unfold opn; rw [if_pos ht0, ha], rfl, hI4, Nat.le_refl _, s04⟩
  · have ht00 : (headS (rdS S W)).1 = 0 := by omega
    rw [decide_eq_false (by omega), br_false]
    by_cases hz : rdS S W 0 = List.replicate 64 0 ∧ rdS S W 1 = List.replicate 64 0
    · have hbk : ((true && decide (rdS S W 0 = List.replicate 64 0)) && decide (rdS S W 1 = List.replicate 64 0)) = true := by rw [decide_eq_true hz.1, decide_eq_true hz.2]; rfl
      rw [hbk, not_true, br_false]
      refine .inl ⟨σ.next, 0, 0, List.replicate 32 ⟨#[]⟩, σ3, by unfold opn; rw [if_neg ht0, if_pos hz], rfl, ?_, Nat.le_refl _, s03⟩
      rw [ht00, hz3 ht00] at hhd
      exact hhd
    · have hbk : ((true && decide (rdS S W 0 = List.replicate 64 0)) && decide (rdS S W 1 = List.replicate 64 0)) = false := by
        by_cases h0 : rdS S W 0 = List.replicate 64 0
        · rw [decide_eq_false (fun h1 => hz ⟨h0, h1⟩), Bool.and_false]
        · rw [decide_eq_false h0]; rfl
      rw [hbk, not_false, br_true]
      exact .inr (fail s03 (by unfold opn; rw [if_neg ht0, if_neg hz]))
end
end Go.AM.Bk

/-
  THE IMAGE's errors.
-/
namespace Go.AM.Bk
open Go.Proofs

/-- An error of the image's, with its number and its place. -/
def Err (σ : St) (v : Value) (c at_ : Int) : Prop := ∃ q, v = .iface 162 (.pointer (some ⟨q, 0, none⟩)) ∧ σ.get q = some (.own [.string ⟨#[105, 109, 97, 103, 101]⟩, .int .i64 at_, .iface 70 (.int .i64 c)] 164) ∧ q < σ.next

theorem Err.nil {σ : St} {v : Value} {c a : Int} (h : Err σ v c a) {α : Type} (K : Bool → Option α) : eqNil v K = K false := by
  obtain ⟨q, rfl, _⟩ := h
  rfl
theorem Err.same {σ σ' : St} {v : Value} {c a : Int} {S : List Nat} (h : Err σ v c a) (hs : Same σ σ' S) (hS : S = [] := by rfl) : Err σ' v c a := by
  subst hS
  obtain ⟨q, e, g, l⟩ := h
  exact ⟨q, e, by rw [hs.2 q l (by simp)]; exact g, by have := hs.1; omega⟩

theorem as_prim (L k : Nat) (args : List Value) (σ : St) : evCall Tryz.prog env L (k + 1) 70 args σ = Td.asG args σ := rfl

theorem code_spec (L k : Nat) {σ : St} {v : Value} {c a : Int} (h : Err σ v c a) : ∃ σ', evCall Tryz.prog env L (k + 2) 27 [v] σ = some (.int .i64 c, σ') ∧ Same σ σ' [] := by
  obtain ⟨q, rfl, hg, hq⟩ := h
  have hg1 : (σ.new (Blk.own [Value.int .i64 0] 70)).get q = some (.own [.string ⟨#[105, 109, 97, 103, 101]⟩, .int .i64 a, .iface 70 (.int .i64 c)] 164) := by rw [get_new (by omega)]; exact hg
  rw [f27_eq, as_prim]
  have h : Td.asG [.iface 162 (.pointer (some ⟨q, 0, none⟩)), .iface 146 (.pointer (some ⟨σ.next, 0, none⟩))] (σ.new (Blk.own [Value.int .i64 0] 70)) =
      some (.bool true, (σ.new (Blk.own [Value.int .i64 0] 70)).set σ.next (.own [Value.int .i64 c] 70)) := by
    simp only [Td.asG, get_new_same]
    rw [if_pos (by simp), if_neg (by simp), if_neg (by simp), if_neg (by simp), if_pos (by simp), ld_own _ hg1 (v := .iface 70 (.int .i64 c)) rfl]
    exact put_own _ (get_new_same _ _) (by simp) rfl
  rw [h, bnd_some, asB_b, not_true, br_false, ld_own _ (get_set_same _ _ _) (v := .int .i64 c) rfl, asI_i]
  refine ⟨_, rfl, ⟨by simp, fun k hk _ => ?_⟩⟩
  rw [get_set (by omega), get_new (by omega)]

theorem code_nil (L k : Nat) (σ : St) : ∃ σ', evCall Tryz.prog env L (k + 2) 27 [.nilIface] σ = some (.int .i64 0, σ') ∧ Same σ σ' [] := by
  rw [f27_eq, as_prim]
  exact ⟨_, rfl, Same.new _ _ _⟩

theorem first_nil (L k : Nat) (hL : 3 < L) (σ : St) (s : ByteArray) : ∃ σ', evCall Tryz.prog env L (k + 3) 54 [.nilIface, .string s] σ = some (.tuple #[.int .i64 0, .bool false], σ') ∧ Same σ σ' [] := by
  obtain ⟨m, rfl⟩ : ∃ m, L = m + 4 := ⟨L - 4, by omega⟩
  rw [f54_eq, f98_eq, f98_l3, as_prim]
  have h : ∀ s4 σ1, Td.asG [.nilIface, s4] σ1 = some (.bool false, σ1) := fun _ _ => rfl
  rw [h, bnd_some, asB_b, br_false, bnd_some, asSl_s, f54_l2, decide_eq_false (by omega), br_false]
  exact ⟨_, rfl, Same.new _ _ _⟩

def cp (q : Nat) : List Value := [.pointer (some ⟨q, 0, none⟩)]

theorem first_spec (L k : Nat) (hL : 3 < L) {σ : St} {v : Value} {c a : Int} (h : Err σ v c a) : ∃ σ', evCall Tryz.prog env L (k + 3) 54 [v, .string ⟨#[105, 109, 97, 103, 101]⟩] σ = some (.tuple #[.int .i64 a, .bool true], σ') ∧ Same σ σ' [] := by
  obtain ⟨m, rfl⟩ : ∃ m, L = m + 4 := ⟨L - 4, by omega⟩
  obtain ⟨q, rfl, hg, hq⟩ := h
  rw [f54_eq, f98_eq, f98_l3, as_prim]
  generalize hσ1 : σ.new (Blk.own [Value.pointer none] 162) = σ1
  have hs1 : Same σ σ1 [] := by rw [← hσ1]; exact Same.new _ _ _
  have hn1 : σ1.next = σ.next + 1 := by rw [← hσ1]; rfl
  have ht1 : σ1.get σ.next = some (Blk.own [Value.pointer none] 162) := by rw [← hσ1, get_new_same]
  have h : Td.asG [.iface 162 (.pointer (some ⟨q, 0, none⟩)), .iface 212 (.pointer (some ⟨σ.next, 0, none⟩))] σ1 = some (.bool true, σ1.set σ.next (.own [.pointer (some ⟨q, 0, none⟩)] 162)) := by
    simp only [Td.asG, ht1]
    rw [if_pos (by simp), if_pos (by simp)]
    exact put_own _ ht1 (by simp) rfl
  rw [h, bnd_some, asB_b, br_true, asP_p, adr_some]
  generalize hσ2 : σ1.set σ.next (.own [.pointer (some ⟨q, 0, none⟩)] 162) = σ2
  have hs2 : Same σ σ2 [] := by rw [← hσ2]; exact ⟨by simp; omega, fun k hk _ => by rw [get_set (by omega), hs1.2 k hk (by simp)]⟩
  have hn2 : σ2.next = σ.next + 1 := by rw [← hσ2]; simpa using hn1
  have ht2 : σ2.get σ.next = some (.own [.pointer (some ⟨q, 0, none⟩)] 162) := by rw [← hσ2, get_set_same]
  rw [ld_own _ ht2 (v := .pointer (some ⟨q, 0, none⟩)) rfl, asP_p, show (!(some (⟨q, 0, none⟩ : Addr)).isNone) = true from rfl, br_true, asP_p, adr_some, ld_own _ ht2 (v := .pointer (some ⟨q, 0, none⟩)) rfl, asP_p]
  generalize hσ3 : σ2.new (Blk.own [Value.pointer (some ⟨q, 0, none⟩)] 162) = σ3
  have hs3 : Same σ2 σ3 [] := by rw [← hσ3]; exact Same.new _ _ _
  have ht3 : σ3.get σ2.next = some (Blk.own [Value.pointer (some ⟨q, 0, none⟩)] 162) := by rw [← hσ3, get_new_same]
  rw [row_one ht3]
  obtain ⟨ad, z, qs, σ4, hgrow, hrow, hs4, hq4⟩ := grow_row (by_ := 8) (Row.nil cp 1 162 σ3) (fun _ => rfl) (fun _ => rfl) (by omega) [q] [Value.pointer (some ⟨q, 0, none⟩)] rfl 1 rfl (by unfold roomTop; simp) (by unfold sizeTop; simp)
  have hgrow' : ∀ K : Option Addr → Nat → Nat → St → Res, grow 162 1 8 none 0 0 1 [Value.pointer (some ⟨q, 0, none⟩)] σ3 K = K ad 1 z σ4 := hgrow
  have hs24 : Same σ2 σ4 [] := hs3.trans hs4
  have hs04 : Same σ σ4 [] := hs2.trans hs24
  have ht4 : σ4.get σ.next = some (.own [.pointer (some ⟨q, 0, none⟩)] 162) := by rw [hs24.2 _ (by omega) (by simp)]; exact ht2
  have hg4 : σ4.get q = some (.own [.string ⟨#[105, 109, 97, 103, 101]⟩, .int .i64 a, .iface 70 (.int .i64 c)] 164) := by rw [hs04.2 q hq (by simp)]; exact hg
  rw [hgrow', asP_p, adr_some, ld_own _ ht4 (v := .pointer (some ⟨q, 0, none⟩)) rfl, asP_p, adr_some, ld_own _ hg4 (v := .iface 70 (.int .i64 c)) rfl, f98_l3, as_prim]
  have h5 : Td.asG [.iface 70 (.int .i64 c), .iface 212 (.pointer (some ⟨σ.next, 0, none⟩))] σ4 = some (.bool false, σ4) := by
    simp only [Td.asG, ht4]
    rw [if_pos (by simp), if_neg (by simp), if_pos (by simp)]
  obtain ⟨q9, e9, hat⟩ := hrow.at (fun _ => rfl) (i := 0) (a := q) rfl
  rw [h5, bnd_some, asB_b, br_false, bnd_some, asSl_s, f54_l2, decide_eq_true (by omega), br_true, need_of (by simp [inRange]), e9, adr_some, hat 0 (.pointer (some ⟨q, 0, none⟩)) _ (by omega) rfl (by simp), asP_p, adr_some, ld_own _ hg4 (v := .string ⟨#[105, 109, 97, 103, 101]⟩) rfl, asS_s, beq_self_eq_true, br_true, adr_some, ld_own _ hg4 (v := .int .i64 a) rfl, asI_i]
  exact ⟨σ4, rfl, hs04⟩



end Go.AM.Bk

/-
  THE IMAGE's calls: blocks that are laid, step by step.
-/
namespace Go.AM.Bk
open Go.Proofs

/-- What is being laid. -/
def wkc (t mk : Int) (bl : List ByteArray) (done : Int) : List Value := .int .i64 t :: .int .i64 mk :: (strs bl ++ [.int .i64 done])
theorem wkc_len (t mk : Int) (bl : List ByteArray) (done : Int) : (wkc t mk bl done).length = bl.length + 3 := by unfold wkc; simp [strs_len]
theorem wkc_done (t mk : Int) (bl : List ByteArray) (done : Int) (h : bl.length = 32) : (wkc t mk bl done)[34]? = some (.int .i64 done) := by
  show (strs bl ++ [Value.int .i64 done])[32]? = _
  rw [List.getElem?_append_right (by rw [strs_len]; omega), strs_len, h]; rfl
theorem wkc_set (t mk : Int) (bl : List ByteArray) (done x : Int) (h : bl.length = 32) : (wkc t mk bl done).set 34 (.int .i64 x) = wkc t mk bl x := by
  show (Value.int .i64 t :: .int .i64 mk :: (strs bl ++ [Value.int .i64 done])).set 34 _ = Value.int .i64 t :: .int .i64 mk :: (strs bl ++ [.int .i64 x])
  rw [List.set_cons_succ, List.set_cons_succ, List.set_append_right _ _ (by rw [strs_len]; omega), strs_len, h]; rfl
theorem wkc_get (t mk : Int) (bl : List ByteArray) (done : Int) {i : Nat} {s : ByteArray} (h : bl[i]? = some s) : (wkc t mk bl done)[2 + i]? = some (.string s) := by
  show (Value.int .i64 t :: .int .i64 mk :: (strs bl ++ [Value.int .i64 done]))[2 + i]? = _
  rw [show 2 + i = i + 1 + 1 by omega, List.getElem?_cons_succ, List.getElem?_cons_succ, List.getElem?_append_left (by rw [strs_len]; exact (List.getElem?_eq_some_iff.1 h).1), strs_get h]
theorem wkc_blocks (t mk : Int) (bl : List ByteArray) (done : Int) (h : bl.length = 32) : ((wkc t mk bl done).drop 2).take 32 = strs bl := by
  show (strs bl ++ [Value.int .i64 done]).take 32 = _
  rw [← h, ← strs_len, List.take_left]
theorem over_wk (t mk : Int) (bl : List ByteArray) (h : bl.length = 32) : over (wkc t mk (List.replicate 32 ⟨#[]⟩) 0) 2 (strs bl) = wkc t mk bl 0 := by
  unfold over
  rw [strs_len, h]
  show [Value.int .i64 t, .int .i64 mk] ++ strs bl ++ (strs (List.replicate 32 ⟨#[]⟩) ++ [Value.int .i64 0]).drop 32 = _
  rw [List.drop_append, strs_len]
  simp [wkc, strs]
theorem imc_head (d : Nat) (t mk t' mk' : Int) (bl : List ByteArray) (w : Option Addr) : over (imc d t mk bl w) 1 [.int .i64 t', .int .i64 mk'] = imc d t' mk' bl w := rfl
theorem imc_over (d : Nat) (t mk : Int) (bl bl' : List ByteArray) (w : Option Addr) (h : bl.length = 32) (h' : bl'.length = 32) : over (imc d t mk bl w) 3 (strs bl') = imc d t mk bl' w := by
  unfold over
  rw [strs_len, h']
  show [ptr d, Value.int .i64 t, .int .i64 mk] ++ strs bl' ++ (strs bl ++ [Value.pointer w]).drop 32 = _
  rw [List.drop_append_of_le_length (by rw [strs_len]; omega), List.drop_of_length_le (by rw [strs_len]; omega)]
  simp [imc]
theorem imc_setw (d : Nat) (t mk : Int) (bl : List ByteArray) (w w' : Option Addr) (h : bl.length = 32) : (imc d t mk bl w).set 35 (.pointer w') = imc d t mk bl w' := by
  show (ptr d :: Value.int .i64 t :: .int .i64 mk :: (strs bl ++ [Value.pointer w])).set 35 _ = ptr d :: Value.int .i64 t :: .int .i64 mk :: (strs bl ++ [.pointer w'])
  rw [List.set_cons_succ, List.set_cons_succ, List.set_cons_succ, List.set_append_right _ _ (by rw [strs_len]; omega), strs_len, h]; rfl

/-! Is a block too long? -/
def long (bl : List ByteArray) : Bool := bl.any fun s => decide (16 < s.size)
theorem long_inner (L k m0 : Nat) (s7 : List Value) (s8 : Int) (r0 r1 r2 r3 r4 r5 r6 r7 : ByteArray) (σ : St) : ∀ (n i : Nat), i ≤ 8 → 8 - i < n →
    lpAt Tryz.prog env L k 108 [true, false, true, false, true, true, false, true, true] [m0] n [(7, .agg s7.toArray), (8, .int .i64 s8), (11, .agg [.string r0, .string r1, .string r2, .string r3, .string r4, .string r5, .string r6, .string r7].toArray), (12, .int .i64 i)] σ =
      (if long ([r0, r1, r2, r3, r4, r5, r6, r7].drop i) = true then some (.bool true, σ) else lpAt Tryz.prog env L k 108 [true, false, true] [] m0 [(7, .agg s7.toArray), (8, .int .i64 (IntKind.wrap .i64 (s8 + 1)))] σ)
  | 0, i, _, h => by omega
  | n + 1, i, hi, hn => by
    rw [f108_l5]
    by_cases h8 : i = 8
    · subst h8
      rw [decide_eq_false (by decide), br_false]
      exact (if_neg (show ¬ long ([] : List ByteArray) = true by decide)).symm
    · have hget : [r0, r1, r2, r3, r4, r5, r6, r7][i]? = some ([r0, r1, r2, r3, r4, r5, r6, r7][i]'(by simp; omega)) := List.getElem?_eq_getElem (by simp; omega)
      have hd : [r0, r1, r2, r3, r4, r5, r6, r7].drop i = [r0, r1, r2, r3, r4, r5, r6, r7][i]'(by simp; omega) :: [r0, r1, r2, r3, r4, r5, r6, r7].drop (i + 1) := List.drop_eq_getElem_cons (by simp; omega)
      rw [hd]
      generalize [r0, r1, r2, r3, r4, r5, r6, r7][i]'(by simp; omega) = x at hget
      have hs := strs_get hget
      have hnth : ∀ K : Value → Res, nth [Value.string r0, .string r1, .string r2, .string r3, .string r4, .string r5, .string r6, .string r7] (Int.toNat (i : Int) * 1) K = K (.string x) := fun K => by
        rw [Int.toNat_natCast, Nat.mul_one]
        have hs' : [Value.string r0, .string r1, .string r2, .string r3, .string r4, .string r5, .string r6, .string r7][i]? = some (.string x) := hs
        unfold nth; rw [hs']
      have hw : IntKind.wrap .i64 ((i : Int) + 1) = ((i + 1 : Nat) : Int) := by rw [wrap_in _ (by omega) (by omega)]; omega
      have ih := long_inner L k m0 s7 s8 r0 r1 r2 r3 r4 r5 r6 r7 σ n (i + 1) (by omega) (by omega)
      rw [decide_eq_true (by omega), br_true, need_of (by simp [inRange]; omega), hnth, asS_s]
      by_cases hx : 16 < x.size
      · rw [decide_eq_true (by omega), br_true, if_pos (by unfold long; rw [List.any_cons, decide_eq_true hx]; rfl)]
      · have he : long (x :: [r0, r1, r2, r3, r4, r5, r6, r7].drop (i + 1)) = long ([r0, r1, r2, r3, r4, r5, r6, r7].drop (i + 1)) := by unfold long; rw [List.any_cons, decide_eq_false hx]; rfl
        rw [decide_eq_false (by omega), br_false, hw, he]
        exact ih
set_option maxRecDepth 20000 in
theorem long_outer (L k : Nat) (hL : 100 < L) {bl : List ByteArray} (hl : bl.length = 32) : ∀ (n v : Nat) (σ : St), v ≤ 4 → 4 - v < n →
    ∃ σ', lpAt Tryz.prog env L k 108 [true, false, true] [] n [(7, .agg (strs bl).toArray), (8, .int .i64 v)] σ = some (.bool (long (bl.drop (8 * v))), σ') ∧ Same σ σ' []
  | 0, v, σ, _, h => by omega
  | n + 1, v, σ, hv, hn => by
    rw [f108_l2]
    by_cases h4 : v = 4
    · subst h4
      rw [decide_eq_false (by decide), br_false, List.drop_of_length_le (by omega)]
      exact ⟨σ, rfl, Same.refl _ _⟩
    · have ht : List.take 8 (List.drop (Int.toNat (v : Int) * 8) (strs bl)) = strs ((bl.drop (8 * v)).take 8) := by
        rw [Int.toNat_natCast, Nat.mul_comm]; unfold strs; rw [List.map_take, List.map_drop]
      have h8 : ((bl.drop (8 * v)).take 8).length = 8 := by rw [List.length_take, List.length_drop]; omega
      have hd : bl.drop (8 * v) = (bl.drop (8 * v)).take 8 ++ bl.drop (8 * (v + 1)) := by
        rw [show 8 * (v + 1) = 8 * v + 8 by omega, ← List.drop_drop, List.take_append_drop]
      rw [decide_eq_true (by omega), br_true, need_of (by simp [inRange]; omega), need_of (by rw [decide_eq_true_eq, strs_len, Int.toNat_natCast]; omega), ht]
      generalize (bl.drop (8 * v)).take 8 = r at h8 hd ⊢
      rw [hd]
      match r, h8 with
      | [r0, r1, r2, r3, r4, r5, r6, r7], _ =>
        have e : strs [r0, r1, r2, r3, r4, r5, r6, r7] = [Value.string r0, .string r1, .string r2, .string r3, .string r4, .string r5, .string r6, .string r7] := rfl
        rw [e, need_of (show Nat.beq (List.length [Value.string r0, .string r1, .string r2, .string r3, .string r4, .string r5, .string r6, .string r7]) 8 = true from rfl)]
        obtain ⟨σ1, hput, g1, s1, n1⟩ := tmp_put σ [Value.string ⟨#[]⟩, .string ⟨#[]⟩, .string ⟨#[]⟩, .string ⟨#[]⟩, .string ⟨#[]⟩, .string ⟨#[]⟩, .string ⟨#[]⟩, .string ⟨#[]⟩] [Value.string r0, .string r1, .string r2, .string r3, .string r4, .string r5, .string r6, .string r7] 43 rfl rfl
        have hin := long_inner L k n (strs bl) (v : Int) r0 r1 r2 r3 r4 r5 r6 r7 σ1 L 0 (by omega) (by omega)
        rw [hput, lds_all (n := 8) g1 rfl, uncons_c, asS_s, uncons_c, asS_s, uncons_c, asS_s, uncons_c, asS_s, uncons_c, asS_s, uncons_c, asS_s, uncons_c, asS_s, uncons_c, asS_s, endl_n]
        have hw : IntKind.wrap .i64 ((v : Int) + 1) = ((v + 1 : Nat) : Int) := by rw [wrap_in _ (by omega) (by omega)]; omega
        rw [hw] at hin
        obtain ⟨σ2, e2, s2⟩ := long_outer L k hL hl n (v + 1) σ1 (by omega) (by omega)
        have ha : long ([r0, r1, r2, r3, r4, r5, r6, r7] ++ bl.drop (8 * (v + 1))) = (long [r0, r1, r2, r3, r4, r5, r6, r7] || long (bl.drop (8 * (v + 1)))) := by unfold long; rw [List.any_append]
        rw [ha]
        rw [List.drop_zero] at hin
        cases hq : long [r0, r1, r2, r3, r4, r5, r6, r7] with
        | true => rw [if_pos hq] at hin; exact ⟨σ1, hin, s1⟩
        | false => rw [if_neg (by rw [hq]; simp)] at hin; exact ⟨σ2, hin.trans e2, s1.trans s2⟩
theorem long_spec (L k : Nat) (hL : 100 < L) {bl : List ByteArray} (hl : bl.length = 32) (σ : St) : ∃ σ', evCall Tryz.prog env L (k + 1) 108 [.agg (strs bl).toArray] σ = some (.bool (long bl), σ') ∧ Same σ σ' [] := by
  have s1 : Same σ (σ.new (Blk.own (strs bl) 45)) [] := Same.new _ _ _
  rw [f108_eq, lds_all (get_new_same _ _) (by rw [strs_len, hl])]
  obtain ⟨σ2, e2, s2⟩ := long_outer L k hL hl L 0 (σ.new (Blk.own (strs bl) 45)) (by omega) (by omega)
  exact ⟨σ2, e2, s1.trans s2⟩
end Go.AM.Bk

/-
  THE IMAGE's calls: Begin, Step; a disk and its image, beside others.
-/
namespace Go.AM.Bk
open Go.Proofs

/-- A disk, and the image on it. -/
structure IS where
  S : List D.Sec
  W : List D.Lw
  t : Nat
  km : Nat
  bl : List ByteArray
  work : Option (Nat × List ByteArray × Nat)
def mkSec (l : List UInt8) : D.Sec := if h : l.length = 64 then ⟨l, h⟩ else D.zsec
theorem mkSec_of {l : List UInt8} (h : l.length = 64) : mkSec l = ⟨l, h⟩ := dif_pos h
structure Wk (σ : St) (b : Nat) (t mk : Int) (bl : List ByteArray) (done : Int) : Prop where
  ex : σ.get b = some (.own (wkc t mk bl done) 187)
  len : bl.length = 32
structure ImS (σ0 σ : St) (m d : Nat) (s : IS) (R : List (List Nat)) : Prop where
  ex : ∃ F G w, D.Disk σ d F s.S s.W ∧ Img σ m d (s.t : Nat) (s.km : Nat) s.bl w ∧ Owns σ0 σ (F :: G :: R) ∧ m ∈ G ∧
    ((s.work = none ∧ w = none) ∨ ∃ b mk' bl' done, s.work = some (mk', bl', done) ∧ w = some ⟨b, 0, none⟩ ∧ b ∈ G ∧ b ≠ m ∧ Wk σ b ((s.t + 1 : Nat) : Int) (mk' : Nat) bl' (done : Nat))

/-- What is so of all of them. -/
structure IS.Ok (s : IS) : Prop where
  sl : s.S.length = 66
  wl : s.W.length ≤ 100
  wr : D.InR s.S.length s.W
  tl : s.t ≤ 1000
  ml : s.km ≤ top
  bw : ∀ mk' bl' done, s.work = some (mk', bl', done) → done ≤ 34 ∧ long bl' = false ∧ bl'.length = 32 ∧ s.km < mk' ∧ mk' ≤ top ∧ s.W.length ≤ done

section
variable {σ0 σ : St} {m d : Nat} {s : IS} {R : List (List Nat)}
theorem ImS.idle (h : ImS σ0 σ m d s R) {σ' : St} (hs : Same σ σ' []) : ImS σ0 σ' m d s R := by
  obtain ⟨F, G, w, h1, h2, h3, h4, h5⟩ := h.ex
  refine ⟨F, G, w, h1.idle hs, h2.same hs (by simp), h3.idle hs, h4, ?_⟩
  rcases h5 with h5 | ⟨b, mk', bl', done, e1, e2, e3, e4, e5⟩
  · exact .inl h5
  · exact .inr ⟨b, mk', bl', done, e1, e2, e3, e4, by rw [hs.2 b (h3.lt 1 rfl b e3) (by simp)]; exact e5.ex, e5.len⟩
theorem ImS.keep (h : ImS σ0 σ m d s R) {σ' : St} (hs : Same σ σ' []) : ∀ F ∈ R, ∀ q ∈ F, σ'.get q = σ.get q := fun F hF q hq => by
  obtain ⟨_, _, _, _, _, h3, _⟩ := h.ex
  exact hs.2 q (h3.own F (by simp [hF]) q hq).2 (by simp)

theorem busyI_spec (h : ImS σ0 σ m d s R) (L k : Nat) : evCall Tryz.prog env L (k + 1) 107 [ptr m] σ = some (.bool s.work.isSome, σ) := by
  obtain ⟨F, G, w, h1, h2, h3, h4, h5⟩ := h.ex
  rw [busy_spec h2]
  rcases h5 with ⟨e1, e2⟩ | ⟨b, mk', bl', done, e1, e2, _⟩ <;> rw [e1, e2] <;> rfl

theorem img_turn {F G : List Nat} (hO : Owns σ0 σ (F :: G :: R)) (hm : m ∈ G) {σ' : St} (hs : Same σ σ' [m]) : Owns σ0 σ' (F :: G :: R) :=
  hO.turned 1 rfl ⟨hs.mono (fun x hx => by simp at hx; subst hx; exact hm), fun q hq => ⟨.inl hq, by have := hO.lt 1 rfl q hq; have := hs.1; omega⟩⟩
theorem rest_kept {F G : List Nat} (hO : Owns σ0 σ (F :: G :: R)) {σ' : St} {T : List Nat} (hs : Same σ σ' T) (hT : ∀ x ∈ T, x ∈ F ∨ x ∈ G ∨ σ.next ≤ x) : ∀ H ∈ R, ∀ q ∈ H, σ'.get q = σ.get q := by
  intro H hH q hq
  have hlt := (hO.own H (by simp [hH]) q hq).2
  obtain ⟨i, hi⟩ := List.mem_iff_getElem?.1 hH
  refine hs.2 q hlt (fun hqT => ?_)
  rcases hT q hqT with h | h | h
  · exact hO.off (i + 2) 0 (by omega) (by simpa using hi) rfl q hq h
  · exact hO.off (i + 2) 1 (by omega) (by simpa using hi) rfl q hq h
  · omega

theorem begin_spec (h : ImS σ0 σ m d s R) (L k : Nat) (hL : 100000 < L) (hok : s.Ok) {b : List ByteArray} (hb : b.length = 32) (mark : Int) :
    ∃ v σ', evCall Tryz.prog env L (k + 4) 63 [ptr m, .agg (strs b).toArray, .int .i64 mark] σ = some (v, σ') ∧ (∀ H ∈ R, ∀ q ∈ H, σ'.get q = σ.get q) ∧
      ((s.work ≠ none ∧ Err σ' v 9 mark ∧ ImS σ0 σ' m d s R) ∨ (s.work = none ∧ (long b = true ∨ mark > top) ∧ Err σ' v 1 mark ∧ ImS σ0 σ' m d s R) ∨
       (s.work = none ∧ long b = false ∧ mark ≤ top ∧ mark ≤ s.km ∧ Err σ' v 10 mark ∧ ImS σ0 σ' m d s R) ∨
       (s.work = none ∧ long b = false ∧ mark ≤ top ∧ s.km < mark ∧ v = .nilIface ∧ ImS σ0 σ' m d { s with work := some (mark.toNat, b, 0) } R)) := by
  rw [f63_eq]
  have s1 : Same σ (σ.new (Blk.own (strs b) 45)) [] := Same.new _ _ _
  have g1 : (σ.new (Blk.own (strs b) 45)).get σ.next = some (Blk.own (strs b) 45) := get_new_same _ _
  have n1 : (σ.new (Blk.own (strs b) 45)).next = σ.next + 1 := rfl
  generalize σ.new (Blk.own (strs b) 45) = σ1 at s1 g1 n1
  have hI1 := h.idle s1
  rw [busyI_spec hI1 L (k + 2), bnd_some, asB_b]
  have err : ∀ {σ2 : St} (e : Int), e ≠ 0 → Same σ σ2 [] → ∃ v σ', (bnd (evCall Tryz.prog env L (k + 3) 87 [.int .i64 mark, .int .i64 e] σ2) fun v4 v5 => some (pack [v4], v5)) = some (v, σ') ∧ (∀ H ∈ R, ∀ q ∈ H, σ'.get q = σ.get q) ∧ Err σ' v e mark ∧ ImS σ0 σ' m d s R := by
    intro σ2 e he hs
    obtain ⟨q, σ3, g3, hq, hql, s3⟩ := wrapi_spec L (k + 1) σ2 mark e he
    rw [g3, bnd_some]
    exact ⟨_, σ3, rfl, h.keep (hs.trans s3), ⟨q, rfl, hq, hql⟩, h.idle (hs.trans s3)⟩
  cases hw : s.work with
  | some p =>
    obtain ⟨v, σ', e1, e2, e3, e4⟩ := err 9 (by decide) s1
    rw [show (some p : Option (Nat × List ByteArray × Nat)).isSome = true from rfl, br_true]
    exact ⟨v, σ', e1, e2, .inl ⟨by simp, e3, e4⟩⟩
  | none =>
    rw [show (none : Option (Nat × List ByteArray × Nat)).isSome = false from rfl, br_false, lds_all g1 (by rw [strs_len, hb])]
    obtain ⟨σ2, g2, s2⟩ := long_spec L (k + 2) (by omega) hb σ1
    have s02 := s1.trans s2
    have g12 : σ2.get σ.next = _ := (s2.2 σ.next (by omega) (by simp)).trans g1
    rw [g2, bnd_some, asB_b]
    cases hlg : long b with
    | true =>
      obtain ⟨v, σ', e1, e2, e3, e4⟩ := err 1 (by decide) s02
      rw [br_true]
      exact ⟨v, σ', e1, e2, .inr (.inl ⟨rfl, .inl rfl, e3, e4⟩)⟩
    | false =>
      rw [br_false]
      by_cases hmt : mark > 1152921504606846975
      · obtain ⟨v, σ', e1, e2, e3, e4⟩ := err 1 (by decide) s02
        rw [decide_eq_true hmt, br_true]
        exact ⟨v, σ', e1, e2, .inr (.inl ⟨rfl, .inr (by unfold top; omega), e3, e4⟩)⟩
      rw [decide_eq_false hmt, br_false]
      have hI2 := h.idle s02
      obtain ⟨F, G, w, h1, h2, h3, h4, h5⟩ := hI2.ex
      rw [ld_at h2.ex 2 _ rfl, asI_i]
      by_cases hms : mark ≤ (s.km : Int)
      · obtain ⟨v, σ', e1, e2, e3, e4⟩ := err 10 (by decide) s02
        rw [decide_eq_true hms, br_true]
        exact ⟨v, σ', e1, e2, .inr (.inr (.inl ⟨rfl, rfl, by unfold top; omega, hms, e3, e4⟩))⟩
      have htl := hok.tl
      have hwt : IntKind.wrap .i64 ((s.t : Int) + 1) = ((s.t + 1 : Nat) : Int) := by rw [wrap_in _ (by omega) (by omega)]; omega
      have hlit : ∀ t : Int, (Value.int .i64 t :: Value.int .i64 mark :: [Value.string ⟨#[]⟩, Value.string ⟨#[]⟩, Value.string ⟨#[]⟩, Value.string ⟨#[]⟩, Value.string ⟨#[]⟩, Value.string ⟨#[]⟩, Value.string ⟨#[]⟩, Value.string ⟨#[]⟩, Value.string ⟨#[]⟩, Value.string ⟨#[]⟩, Value.string ⟨#[]⟩, Value.string ⟨#[]⟩, Value.string ⟨#[]⟩, Value.string ⟨#[]⟩, Value.string ⟨#[]⟩, Value.string ⟨#[]⟩, Value.string ⟨#[]⟩, Value.string ⟨#[]⟩, Value.string ⟨#[]⟩, Value.string ⟨#[]⟩, Value.string ⟨#[]⟩, Value.string ⟨#[]⟩, Value.string ⟨#[]⟩, Value.string ⟨#[]⟩, Value.string ⟨#[]⟩, Value.string ⟨#[]⟩, Value.string ⟨#[]⟩, Value.string ⟨#[]⟩, Value.string ⟨#[]⟩, Value.string ⟨#[]⟩, Value.string ⟨#[]⟩, Value.string ⟨#[]⟩, Value.int .i64 0]) = wkc t mark (List.replicate 32 ⟨#[]⟩) 0 := fun _ => rfl
      rw [decide_eq_false hms, br_false, ld_at h2.ex 1 _ rfl, asI_i, need_true, lds_all g12 (by rw [strs_len, hb]), need_true, need_true, need_of (by rw [strs_len, hb]; rfl), need_of (by rw [strs_len, hb]; rfl), hwt, hlit, over_wk _ _ _ hb]
      have s3 : Same σ2 (σ2.new (Blk.own (wkc ((s.t + 1 : Nat) : Int) mark b 0) 187)) [] := Same.new _ _ _
      have g3 : (σ2.new (Blk.own (wkc ((s.t + 1 : Nat) : Int) mark b 0) 187)).get σ2.next = some (Blk.own (wkc ((s.t + 1 : Nat) : Int) mark b 0) 187) := get_new_same _ _
      have n3 : (σ2.new (Blk.own (wkc ((s.t + 1 : Nat) : Int) mark b 0) 187)).next = σ2.next + 1 := rfl
      generalize σ2.new (Blk.own (wkc ((s.t + 1 : Nat) : Int) mark b 0) 187) = σ3 at s3 g3 n3
      have h23 := h2.same s3 (by simp)
      rw [put_at h23.ex 35 (.pointer (some ⟨σ2.next, 0, none⟩)) (by rw [imc_len, h2.len]; decide) rfl, imc_setw _ _ _ _ _ _ h2.len]
      have hO3 := h3.idle s3
      have s4 := Same.set σ3 m (.own (imc d s.t s.km s.bl (some ⟨σ2.next, 0, none⟩)) 169)
      have hmF : m ∉ F := h3.off 1 0 (by omega) rfl rfl m h4
      have hlt2 := h2.lt
      -- the owned set of the image: a new block more
      have hG : Turn σ3 (σ3.set m (.own (imc d s.t s.km s.bl (some ⟨σ2.next, 0, none⟩)) 169)) G G := ⟨s4.mono (fun x hx => by simp at hx; subst hx; exact h4), fun q hq => ⟨.inl hq, by have := hO3.lt 1 rfl q hq; simpa using this⟩⟩
      have hT : Turn σ2 (σ3.set m (.own (imc d s.t s.km s.bl (some ⟨σ2.next, 0, none⟩)) 169)) G (σ2.next :: G) := ⟨(s3.mono (by simp)).trans hG.same, fun q hq => by
        rcases List.mem_cons.1 hq with rfl | hq
        · exact ⟨.inr (Nat.le_refl _), by simp; omega⟩
        · exact ⟨.inl hq, (hG.sub q hq).2⟩⟩
      have hO4 := h3.turned 1 rfl hT
      have hmark : ((mark.toNat : Nat) : Int) = mark := by omega
      refine ⟨.nilIface, _, rfl, ?_, .inr (.inr (.inr ⟨rfl, rfl, by unfold top; omega, by omega, rfl, ⟨F, σ2.next :: G, some ⟨σ2.next, 0, none⟩, (h1.idle s3).same s4 (fun q hq => by simp; rintro rfl; exact hmF hq), ⟨get_set_same _ _ _, by simpa using h23.lt, h2.len⟩, hO4, by simp [h4], .inr ⟨σ2.next, mark.toNat, b, 0, rfl, rfl, by simp, by omega, ?_, hb⟩⟩⟩))⟩
      · intro H hH q hq
        have := rest_kept h3 hT.same (fun x hx => .inr (.inl hx)) H hH q hq
        rw [this]; exact h.keep s02 H hH q hq
      · rw [s4.2 σ2.next (by omega) (by simp; omega), hmark]; exact g3
end
end Go.AM.Bk

/-
  THE IMAGE's calls: Step.
-/
namespace Go.AM.Bk
open Go.Proofs

def stepS (s : IS) (mk' : Nat) (bl' : List ByteArray) (k : Nat) : IS :=
  if k < 32 then { s with W := s.W ++ [⟨((2 + 32 * ((s.t + 1) % 2) + k : Nat) : Int), mkSec (bsec ((s.t + 1 : Nat) : Int) (bl'.getD k ⟨#[]⟩))⟩], work := some (mk', bl', k + 1) }
  else if k = 32 then { s with S := D.lay (fun _ => true) 0 s.S s.W, W := [], work := some (mk', bl', 33) }
  else if k = 33 then { s with W := s.W ++ [⟨(((s.t + 1) % 2 : Nat) : Int), mkSec (hsec ((s.t + 1 : Nat) : Int) (mk' : Nat))⟩], work := some (mk', bl', 34) }
  else ⟨D.lay (fun _ => true) 0 s.S s.W, [], s.t + 1, mk', bl', none⟩
theorem long_at {bl : List ByteArray} (h : long bl = false) {i : Nat} {s : ByteArray} (hs : bl[i]? = some s) : s.size ≤ 16 := by
  unfold long at h
  have := List.any_eq_false.1 h s (List.mem_of_getElem? hs)
  simpa using this

section
variable {σ0 σ : St} {m d : Nat} {s : IS} {R : List (List Nat)}
set_option maxRecDepth 20000 in
theorem step_spec (h : ImS σ0 σ m d s R) (L k0 : Nat) (hL : 100000 < L) (hok : s.Ok) :
    ∃ v σ', evCall Tryz.prog env L (k0 + 8) 64 [ptr m] σ = some (v, σ') ∧ (∀ H ∈ R, ∀ q ∈ H, σ'.get q = σ.get q) ∧
      ((s.work = none ∧ (∃ e, v = .tuple #[.bool false, e] ∧ Err σ' e 9 0) ∧ ImS σ0 σ' m d s R) ∨
       (∃ mk' bl' k, s.work = some (mk', bl', k) ∧ v = .tuple #[.bool (decide (k = 34)), .nilIface] ∧ ImS σ0 σ' m d (stepS s mk' bl' k) R)) := by
  rw [f64_eq, busyI_spec h L (k0 + 6), bnd_some, asB_b]
  cases hw : s.work with
  | none =>
    obtain ⟨q, σ3, g3, hq, hql, s3⟩ := wrapi_spec L (k0 + 5) σ 0 9 (by decide)
    rw [show (none : Option (Nat × List ByteArray × Nat)).isSome = false from rfl, not_false, br_true, g3, bnd_some]
    exact ⟨_, σ3, rfl, h.keep s3, .inl ⟨rfl, ⟨_, rfl, q, rfl, hq, hql⟩, h.idle s3⟩⟩
  | some p =>
    obtain ⟨mk', bl', k⟩ := p
    obtain ⟨F, G, w, h1, h2, h3, h4, h5⟩ := h.ex
    obtain ⟨b, mk2, bl2, done, e1, e2, e3, e4, e5⟩ : ∃ b mk' bl' done, s.work = some (mk', bl', done) ∧ w = some ⟨b, 0, none⟩ ∧ b ∈ G ∧ b ≠ m ∧ Wk σ b ((s.t + 1 : Nat) : Int) (mk' : Nat) bl' (done : Nat) := by
      rcases h5 with ⟨e, _⟩ | h5
      · rw [hw] at e; cases e
      · exact h5
    rw [hw] at e1
    cases e1
    subst e2
    obtain ⟨hk34, hlg, hbl, hmk, hmt, hwd⟩ := hok.bw mk' bl' k hw
    have hsl := hok.sl
    have hwl := hok.wl
    have htl := hok.tl
    have hbF : b ∉ F := h3.off 1 0 (by omega) rfl rfl b e3
    have hmF : m ∉ F := h3.off 1 0 (by omega) rfl rfl m h4
    have hblt := h3.lt 1 rfl b e3
    have hwk : IntKind.wrap .i64 ((k : Int) + 1) = ((k + 1 : Nat) : Int) := by rw [wrap_in _ (by omega) (by omega)]; omega
    rw [show (some (mk', bl', k) : Option (Nat × List ByteArray × Nat)).isSome = true from rfl, not_true, br_false, ld_at h2.ex 35 _ (imc_work _ _ _ _ _ h2.len), asP_p, adr_some, ld_at e5.ex (0 + 34) _ (wkc_done _ _ _ _ hbl), asI_i, adr_some, ld_at e5.ex (0 + 34) _ (wkc_done _ _ _ _ hbl), asI_i, adr_some, hwk, put_at e5.ex (0 + 34) (.int .i64 ((k + 1 : Nat) : Int)) (by rw [wkc_len, hbl]; decide) rfl, Nat.zero_add, wkc_set _ _ _ _ _ hbl]
    have s1 := Same.set σ b (.own (wkc ((s.t + 1 : Nat) : Int) (mk' : Nat) bl' ((k + 1 : Nat) : Int)) 187)
    have hW1 : Wk (σ.set b (.own (wkc ((s.t + 1 : Nat) : Int) (mk' : Nat) bl' ((k + 1 : Nat) : Int)) 187)) b ((s.t + 1 : Nat) : Int) (mk' : Nat) bl' ((k + 1 : Nat) : Int) := ⟨get_set_same _ _ _, hbl⟩
    have hT1 : Turn σ (σ.set b (.own (wkc ((s.t + 1 : Nat) : Int) (mk' : Nat) bl' ((k + 1 : Nat) : Int)) 187)) G G := ⟨s1.mono (fun x hx => by simp at hx; subst hx; exact e3), fun q hq => ⟨.inl hq, by have := h3.lt 1 rfl q hq; simpa using this⟩⟩
    generalize σ.set b (.own (wkc ((s.t + 1 : Nat) : Int) (mk' : Nat) bl' ((k + 1 : Nat) : Int)) 187) = σ1 at s1 hW1 hT1
    have h11 := h1.same s1 (fun q hq => by simp; rintro rfl; exact hbF hq)
    have h21 := h2.same s1 (by simp; exact Ne.symm e4)
    have hO1 : Owns σ0 σ1 (F :: G :: R) := h3.turned 1 rfl hT1
    have hk1 : ∀ H ∈ R, ∀ q ∈ H, σ1.get q = σ.get q := rest_kept h3 hT1.same (fun x hx => .inr (.inl hx))
    have hat : ∀ {σ' : St}, ∃ σ'', evCall Tryz.prog env L (k0 + 7) 109 [.agg #[.int .i64 ((s.t + 1 : Nat) : Int), .int .i64 (mk' : Int)]] σ' = some (.int .i64 ((2 + 32 * ((s.t + 1) % 2) : Nat) : Int), σ'') ∧ Same σ' σ'' [] := by
      intro σ'
      have s9 : Same σ' (σ'.new (Blk.own [Value.int .i64 ((s.t + 1 : Nat) : Int), Value.int .i64 (mk' : Int)] 166)) [] := Same.new _ _ _
      have g9 : (σ'.new (Blk.own [Value.int .i64 ((s.t + 1 : Nat) : Int), Value.int .i64 (mk' : Int)] 166)).get σ'.next = some (Blk.own [Value.int .i64 ((s.t + 1 : Nat) : Int), Value.int .i64 (mk' : Int)] 166) := get_new_same _ _
      have e45 : evCall Tryz.prog env L (k0 + 7) 109 [.agg [.int .i64 ((s.t + 1 : Nat) : Int), .int .i64 (mk' : Int)].toArray] σ' = _ := f109_eq L (k0 + 6) σ' _ _
      have hv : IntKind.wrap .i64 ((2 : Int) + IntKind.wrap .i64 ((32 : Int) * Int.tmod ((s.t + 1 : Nat) : Int) 2)) = ((2 + 32 * ((s.t + 1) % 2) : Nat) : Int) := by
        rw [tmod2, wrap_in ((32 : Int) * (((s.t + 1) % 2 : Nat) : Int)) (by omega) (by omega), wrap_in _ (by omega) (by omega)]; omega
      rw [ld_at g9 0 _ rfl, asI_i, hv] at e45
      exact ⟨_, e45, s9⟩
    have rw2 : ∀ {σ' : St}, σ'.get b = σ1.get b → ∀ K : List Value → Res, σ'.lds b (0 + 0) 2 K = K [.int .i64 ((s.t + 1 : Nat) : Int), .int .i64 (mk' : Int)] := fun e K => by rw [hW1.ex] at e; rw [lds_own K e (by rw [wkc_len, hbl]; decide)]; rfl
    have hblt1 := hO1.lt 1 rfl b e3
    -- a sector is laid
    have lay : ∀ {σ2 : St} {ad : Option Addr} {z : Nat} {qs : List Nat} {l : List UInt8} (x : Nat), Same σ1 σ2 [] → Row c8 1 5 σ2 ad z qs l → l.length = 64 → x < 66 → ∃ σ', (bnd (evCall Tryz.prog env L (k0 + 7) 10 [ptr d, .int .i64 (x : Int), .slice ad 64 z] σ2) fun v64 v65 => some (Value.tuple #[Value.bool false, Value.nilIface], v65)) = some (.tuple #[.bool false, .nilIface], σ') ∧ (∀ H ∈ R, ∀ q ∈ H, σ'.get q = σ.get q) ∧
        ∀ n', k + 1 = n' → ImS σ0 σ' m d { s with W := s.W ++ [⟨(x : Int), mkSec l⟩], work := some (mk', bl', n') } R := by
      intro σ2 ad z qs l x s2 hR hl hx
      obtain ⟨v, σ3, g3, hor⟩ := D.write_spec (h11.idle s2) L (k0 + 4) (row_bytes hR) (z := z) (by omega) (x : Int)
      rw [hl] at g3
      rcases hor with ⟨F', hl', _, _, rfl, hD3, hT3⟩ | ⟨hno, _⟩ | ⟨_, hno, _⟩
      · have hO2 := hO1.idle s2
        have hO3 : Owns σ0 σ3 (F' :: G :: R) := hO2.turned 0 rfl hT3
        rw [g3, bnd_some]
        refine ⟨σ3, rfl, fun H hH q hq => ?_, fun n' hn' => ⟨F', G, _, by rw [mkSec_of hl]; exact hD3, (h21.same s2 (by simp)).same hT3.same hmF, hO3, h4, .inr ⟨b, mk', bl', n', rfl, rfl, e3, e4, ?_, hbl⟩⟩⟩
        · rw [rest_kept hO2 hT3.same (fun x hx => .inl hx) H hH q hq, s2.2 q (hO1.own H (by simp [hH]) q hq).2 (by simp), hk1 H hH q hq]
        · subst hn'
          rw [hT3.same.2 b (hO2.lt 1 rfl b e3) (hO2.off 1 0 (by omega) rfl rfl b e3), s2.2 b hblt1 (by simp)]; exact hW1.ex
      · exact absurd ⟨by omega, by omega⟩ hno
      · exact absurd hl hno
    -- all is laid fast
    have flush : ∃ F' σ', evCall Tryz.prog env L (k0 + 7) 111 [ptr d] σ1 = some (.tuple #[], σ') ∧ D.Disk σ' d F' (D.lay (fun _ => true) 0 s.S s.W) [] ∧ Img σ' m d (s.t : Nat) (s.km : Nat) s.bl (some ⟨b, 0, none⟩) ∧ Owns σ0 σ' (F' :: G :: R) ∧ σ'.get b = σ1.get b ∧ ∀ H ∈ R, ∀ q ∈ H, σ'.get q = σ.get q := by
      obtain ⟨F', σ2, g2, hD2, hT2⟩ := D.flush_spec L (k0 + 4) h11 (by omega) (by omega) hok.wr
      refine ⟨F', σ2, g2, hD2, h21.same hT2.same hmF, hO1.turned 0 rfl hT2, hT2.same.2 b hblt1 hbF, fun H hH q hq => ?_⟩
      rw [rest_kept hO1 hT2.same (fun x hx => .inl hx) H hH q hq, hk1 H hH q hq]
    by_cases hk32 : k < 32
    · have hget : bl'[k]? = some bl'[k] := List.getElem?_eq_getElem (by omega)
      have hsz := long_at hlg hget
      obtain ⟨σ2, g2, s2⟩ := hat (σ' := σ1)
      have hmi : (mk' : Int) = ((mk' : Nat) : Int) := rfl
      have hb2 : σ2.get b = σ1.get b := s2.2 b hblt1 (by simp)
      have h22 := h21.same s2 (by simp)
      obtain ⟨ad3, z3, q3, σ3, g3, hR3, s3, f3⟩ := bsector_spec L (k0 + 1) hL σ2 ((s.t + 1 : Nat) : Int) (mk' : Int) bl'[k] hsz
      have h23 := h22.same s3 (by simp)
      have hdv : IntKind.wrap .i64 (Int.tdiv (k : Int) 8) = ((k / 8 : Nat) : Int) := by
        have : Int.tdiv (k : Int) 8 = ((k / 8 : Nat) : Int) := by rw [Int.tdiv_eq_ediv_of_nonneg (by omega)]; rfl
        rw [this, wrap_in _ (by omega) (by omega)]
      have hmd : Int.tmod (k : Int) 8 = ((k % 8 : Nat) : Int) := by rw [Int.tmod_eq_emod_of_nonneg (by omega)]; rfl
      have hoff : 0 + 2 + Int.toNat ((k / 8 : Nat) : Int) * 8 + Int.toNat ((k % 8 : Nat) : Int) * 1 = 2 + k := by rw [Int.toNat_natCast, Int.toNat_natCast]; omega
      have rdk : ∀ {σ' : St}, σ'.get b = σ1.get b → ∀ K : Value → Res, σ'.ld b (2 + k) K = K (.string bl'[k]) := fun e K => by rw [hW1.ex] at e; exact ld_own K e (wkc_get _ _ _ _ hget)
      have hadd : IntKind.wrap .i64 (((2 + 32 * ((s.t + 1) % 2) : Nat) : Int) + (k : Int)) = ((2 + 32 * ((s.t + 1) % 2) + k : Nat) : Int) := by rw [wrap_in _ (by omega) (by omega)]; omega
      obtain ⟨σ4, e4', hk4, hI4⟩ := lay (2 + 32 * ((s.t + 1) % 2) + k) (s2.trans s3) hR3 (bsec_len _ _ hsz) (by omega)
      have g3' : evCall Tryz.prog env L (k0 + 7) 110 [.agg #[.int .i64 ((s.t + 1 : Nat) : Int), .int .i64 (mk' : Int)], .string bl'[k]] σ2 = _ := g3
      have hgd : bl'.getD k ⟨#[]⟩ = bl'[k] := by rw [List.getD_eq_getElem?_getD, hget]; rfl
      rw [decide_eq_true (by omega), br_true, ld_at h21.ex 0 _ rfl, asP_p, adr_some, rw2 rfl, uncons_c, asI_i, uncons_c, asI_i, endl_n, g2, bnd_some, asI_i, ld_at h22.ex 0 _ rfl, asP_p, chk_same, adr_some, rw2 hb2, uncons_c, asI_i, uncons_c, asI_i, endl_n, rw2 rfl, uncons_c, asI_i, uncons_c, asI_i, endl_n, chk_same, adr_some, hdv, hmd, need_of (by simp [inRange]; omega), need_of (by simp [inRange]; omega), hoff, rdk hb2, asS_s, rdk rfl, asS_s, chk_same, g3', bnd_some, asSl_s, ld_at h23.ex 0 _ rfl, asP_p, chk_same, hadd, e4']
      exact ⟨_, σ4, rfl, hk4, .inr ⟨mk', bl', k, rfl, by rw [decide_eq_false (by omega)], by unfold stepS; rw [if_pos hk32, hgd]; exact hI4 _ rfl⟩⟩
    rw [decide_eq_false (by omega), br_false]
    by_cases hk2 : k = 32
    · obtain ⟨F', σ2, g2, hD2, hI2, hO2, hb2, hr2⟩ := flush
      rw [show ((k : Int) == 32) = true by rw [beq_iff_eq]; omega, br_true, ld_at h21.ex 0 _ rfl, asP_p, g2, bnd_some, asT_t, toList0, endl_n]
      refine ⟨_, σ2, rfl, hr2, .inr ⟨mk', bl', k, rfl, by rw [decide_eq_false (by omega)], ?_⟩⟩
      unfold stepS
      rw [if_neg hk32, if_pos hk2]
      refine ⟨F', G, _, hD2, hI2, hO2, h4, .inr ⟨b, mk', bl', 33, rfl, rfl, e3, e4, ?_, hbl⟩⟩
      rw [hb2, hW1.ex, hk2]
    rw [show ((k : Int) == 32) = false by rw [beq_eq_false_iff_ne]; omega, br_false]
    by_cases hk3 : k = 33
    · obtain ⟨ad3, z3, q3, σ3, g3, hR3, s3, f3⟩ := hsector_spec L (k0 + 1) hL σ1 ((s.t + 1 : Nat) : Int) (mk' : Int)
      have h23 := h21.same s3 (by simp)
      have hb3 : σ3.get b = σ1.get b := s3.2 b hblt1 (by simp)
      have g3' : evCall Tryz.prog env L (k0 + 7) 112 [.agg #[.int .i64 ((s.t + 1 : Nat) : Int), .int .i64 (mk' : Int)]] σ1 = _ := g3
      have r1 : ∀ {σ' : St}, σ'.get b = σ1.get b → ∀ K : Value → Res, σ'.ld b (0 + 0 + 0) K = K (.int .i64 ((s.t + 1 : Nat) : Int)) := fun e K => by rw [hW1.ex] at e; exact ld_own K e rfl
      obtain ⟨σ4, e4', hk4, hI4⟩ := lay ((s.t + 1) % 2) s3 hR3 (hsec_len _ _) (by omega)
      rw [show ((k : Int) == 33) = true by rw [beq_iff_eq]; omega, br_true, ld_at h21.ex 0 _ rfl, asP_p, adr_some, r1 rfl, asI_i, adr_some, rw2 rfl, uncons_c, asI_i, uncons_c, asI_i, endl_n, g3', bnd_some, asSl_s, ld_at h23.ex 0 _ rfl, asP_p, chk_same, r1 hb3, asI_i, chk_same, tmod2, e4']
      exact ⟨_, σ4, rfl, hk4, .inr ⟨mk', bl', k, rfl, by rw [decide_eq_false (by omega)], by unfold stepS; rw [if_neg hk32, if_neg hk2, if_pos hk3]; exact hI4 34 (by omega)⟩⟩
    have hk4 : k = 34 := by omega
    obtain ⟨F', σ2, g2, hD2, hI2, hO2, hb2, hr2⟩ := flush
    have hgb2 : σ2.get b = _ := hb2.trans hW1.ex
    rw [show ((k : Int) == 33) = false by rw [beq_eq_false_iff_ne]; omega, br_false, ld_at h21.ex 0 _ rfl, asP_p, g2, bnd_some, asT_t, toList0, endl_n, adr_some, rw2 hb2, uncons_c, asI_i, uncons_c, asI_i, endl_n, adr_some, lds_own _ hgb2 (by rw [wkc_len, hbl]; decide), wkc_blocks _ _ _ _ hbl, put_own _ hI2.ex (by rw [imc_len, hI2.len]; simp) rfl, imc_head, need_of (by rw [strs_len, hbl]; rfl)]
    have a1 := Same.set σ2 m (.own (imc d ((s.t + 1 : Nat) : Int) (mk' : Int) s.bl (some ⟨b, 0, none⟩)) 169)
    have b1 : (σ2.set m (.own (imc d ((s.t + 1 : Nat) : Int) (mk' : Int) s.bl (some ⟨b, 0, none⟩)) 169)).get m = some (.own (imc d ((s.t + 1 : Nat) : Int) (mk' : Int) s.bl (some ⟨b, 0, none⟩)) 169) := get_set_same _ _ _
    generalize σ2.set m (.own (imc d ((s.t + 1 : Nat) : Int) (mk' : Int) s.bl (some ⟨b, 0, none⟩)) 169) = σ3 at a1 b1
    rw [put_own _ b1 (by rw [imc_len, strs_len, hI2.len, hbl]; decide) (strs_one _), imc_over _ _ _ _ _ _ hI2.len hbl]
    have a2 := Same.set σ3 m (.own (imc d ((s.t + 1 : Nat) : Int) (mk' : Int) bl' (some ⟨b, 0, none⟩)) 169)
    have b2 : (σ3.set m (.own (imc d ((s.t + 1 : Nat) : Int) (mk' : Int) bl' (some ⟨b, 0, none⟩)) 169)).get m = some (.own (imc d ((s.t + 1 : Nat) : Int) (mk' : Int) bl' (some ⟨b, 0, none⟩)) 169) := get_set_same _ _ _
    generalize σ3.set m (.own (imc d ((s.t + 1 : Nat) : Int) (mk' : Int) bl' (some ⟨b, 0, none⟩)) 169) = σ4 at a2 b2
    rw [put_at b2 35 (.pointer none) (by rw [imc_len, hbl]; decide) rfl, imc_setw _ _ _ _ _ _ hbl]
    have a3 := Same.set σ4 m (.own (imc d ((s.t + 1 : Nat) : Int) (mk' : Int) bl' none) 169)
    have a13 := (a1.trans a2).trans a3
    have hmF' : m ∉ F' := hO2.off 1 0 (by omega) rfl rfl m h4
    refine ⟨_, _, rfl, fun H hH q hq => ?_, .inr ⟨mk', bl', k, rfl, by rw [decide_eq_true hk4], ?_⟩⟩
    rotate_left
    · unfold stepS
      rw [if_neg hk32, if_neg hk2, if_neg hk3]
      exact ⟨F', G, none, hD2.same a13 (fun q hq => by simp; rintro rfl; exact hmF' hq), ⟨get_set_same _ _ _, by have := hI2.lt; have := a13.1; omega, hbl⟩, img_turn hO2 h4 a13, h4, .inl ⟨rfl, rfl⟩⟩
    rw [rest_kept hO2 a13 (fun x hx => by simp at hx; subst hx; exact .inr (.inl h4)) H hH q hq, hr2 H hH q hq]
end
end Go.AM.Bk

/-
  WHAT HOLDS of a disk and its image, step by step; behind a crash.
-/
namespace Go.AM.Bk

theorem lay_snoc (kept : Nat → Bool) : ∀ (W : List D.Lw) (j : Nat) (S : List D.Sec) (w : D.Lw), D.lay kept j S (W ++ [w]) = if kept (j + W.length) = true then (D.lay kept j S W).set w.at_.toNat w.b else D.lay kept j S W
  | [], j, S, w => by simp [D.lay]
  | v :: W, j, S, w => by
    simp only [List.cons_append, D.lay, List.length_cons]
    rw [lay_snoc kept W (j + 1), show j + 1 + W.length = j + (W.length + 1) by omega]
theorem lay_other (kept : Nat → Bool) {i : Nat} : ∀ (W : List D.Lw) (j : Nat) (S : List D.Sec), (∀ w ∈ W, w.at_ ≠ (i : Int) ∧ 0 ≤ w.at_) → (D.lay kept j S W)[i]? = S[i]?
  | [], j, S, _ => rfl
  | v :: W, j, S, h => by
    simp only [D.lay]
    rw [lay_other kept W (j + 1) _ (fun w hw => h w (List.mem_cons_of_mem _ hw))]
    have := h v (by simp)
    split
    · rw [List.getElem?_set_ne (by omega)]
    · rfl
/-- What stays on a disk. -/
abbrev rd (S : List D.Sec) : Nat → List UInt8 := rdS S []
theorem rd_some {S : List D.Sec} {i : Nat} {s : D.Sec} (h : S[i]? = some s) : rd S i = s.1 := by unfold rd rdS; rw [h]; rfl
theorem rd_of {S S' : List D.Sec} {i : Nat} (h : S'[i]? = S[i]?) : rd S' i = rd S i := by unfold rd rdS; rw [h]
/-- The writes of an area. -/
def areaW (t : Nat) (bl : List ByteArray) (k : Nat) : List D.Lw := (List.range k).map fun i => ⟨((2 + 32 * (t % 2) + i : Nat) : Int), mkSec (bsec (t : Int) (bl.getD i ⟨#[]⟩))⟩
theorem areaW_succ (t : Nat) (bl : List ByteArray) (k : Nat) : areaW t bl (k + 1) = areaW t bl k ++ [⟨((2 + 32 * (t % 2) + k : Nat) : Int), mkSec (bsec (t : Int) (bl.getD k ⟨#[]⟩))⟩] := by
  unfold areaW; rw [List.range_succ, List.map_append]; rfl
theorem areaW_len (t : Nat) (bl : List ByteArray) (k : Nat) : (areaW t bl k).length = k := by unfold areaW; simp
theorem areaW_in {t : Nat} {bl : List ByteArray} {k : Nat} {w : D.Lw} (h : w ∈ areaW t bl k) : ∃ i, i < k ∧ w.at_ = ((2 + 32 * (t % 2) + i : Nat) : Int) := by
  unfold areaW at h
  obtain ⟨i, hi, rfl⟩ := List.mem_map.1 h
  exact ⟨i, List.mem_range.1 hi, rfl⟩
theorem area_laid {S : List D.Sec} {t : Nat} {bl : List ByteArray} (hS : S.length = 66) (hl : long bl = false) (hb : bl.length = 32) : ∀ k : Nat, k ≤ 32 → ∀ i, i < k → rd (D.lay (fun _ => true) 0 S (areaW t bl k)) (2 + 32 * (t % 2) + i) = bsec (t : Int) (bl.getD i ⟨#[]⟩)
  | 0, _, i, hi => by omega
  | k + 1, hk, i, hi => by
    have hget : ∀ i, i < 32 → ∃ s, bl[i]? = some s ∧ bl.getD i ⟨#[]⟩ = s := fun i hi => by
      have h : bl[i]? = some bl[i] := List.getElem?_eq_getElem (by omega)
      exact ⟨_, h, by rw [List.getD_eq_getElem?_getD, h]; rfl⟩
    have hlen := D.lay_len (fun _ => true) (areaW t bl k) 0 S
    rw [areaW_succ, lay_snoc, if_pos rfl]
    by_cases hik : i = k
    · subst hik
      obtain ⟨s, h1, h2⟩ := hget i (by omega)
      have hsz := long_at hl h1
      rw [rd_some (s := mkSec (bsec (t : Int) (bl.getD i ⟨#[]⟩))) (by rw [List.getElem?_set, Int.toNat_natCast, if_pos rfl, if_pos (by rw [hlen, hS]; omega)]), mkSec_of (by rw [h2]; exact bsec_len _ _ hsz)]
    · rw [rd_of (S := D.lay (fun _ => true) 0 S (areaW t bl k)) (by rw [List.getElem?_set_ne (by rw [Int.toNat_natCast]; omega)])]
      exact area_laid hS hl hb k (by omega) i (by omega)

/-- What holds. -/
structure IS.Inv (s : IS) : Prop where
  sl : s.S.length = 66
  tl : s.t ≤ 900
  good : Good (rd s.S) s.t s.km s.bl
  work : match s.work with
    | none => s.W = []
    | some (mk', bl', k) => long bl' = false ∧ bl'.length = 32 ∧ s.km < mk' ∧ mk' ≤ top ∧
      ((k ≤ 32 ∧ s.W = areaW (s.t + 1) bl' k) ∨ (k = 33 ∧ s.W = [] ∧ ∀ i, i < 32 → rd s.S (2 + 32 * ((s.t + 1) % 2) + i) = bsec ((s.t + 1 : Nat) : Int) (bl'.getD i ⟨#[]⟩)) ∨
       (k = 34 ∧ s.W = [⟨(((s.t + 1) % 2 : Nat) : Int), mkSec (hsec ((s.t + 1 : Nat) : Int) (mk' : Nat))⟩] ∧ ∀ i, i < 32 → rd s.S (2 + 32 * ((s.t + 1) % 2) + i) = bsec ((s.t + 1 : Nat) : Int) (bl'.getD i ⟨#[]⟩)))
theorem IS.Inv.ok {s : IS} (h : s.Inv) : s.Ok := by
  have hw := h.work
  have hsl := h.sl
  refine ⟨h.sl, ?_, ?_, by have := h.tl; omega, h.good.hm, fun mk' bl' done e => ?_⟩
  · cases e : s.work with
    | none => rw [e] at hw; dsimp only at hw; rw [hw]; simp
    | some p =>
      obtain ⟨mk', bl', k⟩ := p
      rw [e] at hw
      obtain ⟨_, _, _, _, h5 | h5 | h5⟩ := hw
      · rw [h5.2, areaW_len]; omega
      · rw [h5.2.1]; simp
      · rw [h5.2.1]; simp
  · cases e : s.work with
    | none => rw [e] at hw; dsimp only at hw; rw [hw]; intro w hw; cases hw
    | some p =>
      obtain ⟨mk', bl', k⟩ := p
      rw [e] at hw
      obtain ⟨_, _, _, _, h5 | h5 | h5⟩ := hw
      · rw [h5.2]
        intro w hw
        obtain ⟨i, hi, e⟩ := areaW_in hw
        rw [e]; omega
      · rw [h5.2.1]; intro w hw; cases hw
      · rw [h5.2.1]
        intro w hw
        simp at hw
        subst hw
        dsimp only
        omega
  · rw [e] at hw
    obtain ⟨w1, w2, w3, w4, h5 | h5 | h5⟩ := hw
    · exact ⟨by omega, w1, w2, w3, w4, by rw [h5.2, areaW_len]; exact Nat.le_refl _⟩
    · exact ⟨by omega, w1, w2, w3, w4, by rw [h5.2.1]; simp⟩
    · exact ⟨by omega, w1, w2, w3, w4, by rw [h5.2.1]; simp; omega⟩

theorem IS.Inv.begin {s : IS} (h : s.Inv) (hw : s.work = none) {b : List ByteArray} (hb : b.length = 32) (hl : long b = false) {mark : Int} (h1 : mark ≤ top) (h2 : s.km < mark) : IS.Inv { s with work := some (mark.toNat, b, 0) } := by
  have hww := h.work
  rw [hw] at hww
  exact ⟨h.sl, h.tl, h.good, hl, hb, by show s.km < mark.toNat; omega, by omega, .inl ⟨by omega, hww⟩⟩

theorem other_area {t i : Nat} (hi : i < 32) {j : Nat} : 2 + 32 * ((t + 1) % 2) + j ≠ 2 + 32 * (t % 2) + i ∨ 32 ≤ j := by omega

/-- Of writes to the other area nothing is seen. -/
theorem Good.layArea {S : List D.Sec} {t mk : Nat} {bl : List ByteArray} (h : Good (rd S) t mk bl) (kept : Nat → Bool) {bl' : List ByteArray} {k : Nat} (hk : k ≤ 32) : Good (rd (D.lay kept 0 S (areaW (t + 1) bl' k))) t mk bl := by
  have key : ∀ i, (i = 0 ∨ i = 1 ∨ ∃ j, j < 32 ∧ i = 2 + 32 * (t % 2) + j) → rd (D.lay kept 0 S (areaW (t + 1) bl' k)) i = rd S i := by
    intro i hi
    apply rd_of
    apply lay_other
    intro w hw
    obtain ⟨j, hj, e⟩ := areaW_in hw
    rw [e]
    rcases hi with rfl | rfl | ⟨j', hj', rfl⟩ <;> omega
  exact h.frame (key 0 (.inl rfl)) (key 1 (.inr (.inl rfl))) (fun i hi => key _ (.inr (.inr ⟨i, hi, rfl⟩)))
/-- The next head is laid. -/
theorem Good.layHead {S : List D.Sec} {t mk : Nat} {bl : List ByteArray} (h : Good (rd S) t mk bl) (hS : S.length = 66) (ht : t ≤ 900) {mk' : Nat} {bl' : List ByteArray} (hl : long bl' = false) (hb : bl'.length = 32) (hm : mk' ≤ top) (h1 : mk < mk')
    (ha : ∀ i, i < 32 → rd S (2 + 32 * ((t + 1) % 2) + i) = bsec ((t + 1 : Nat) : Int) (bl'.getD i ⟨#[]⟩)) : Good (rd (S.set ((t + 1) % 2) (mkSec (hsec ((t + 1 : Nat) : Int) (mk' : Nat))))) (t + 1) mk' bl' := by
  refine h.next (by omega) hb hm (by omega) ?_ ?_ (fun i s hi => ?_)
  · rw [rd_some (s := mkSec (hsec ((t + 1 : Nat) : Int) (mk' : Nat))) (by rw [List.getElem?_set, if_pos rfl, if_pos (by omega)]), mkSec_of (hsec_len _ _)]
  · exact rd_of (List.getElem?_set_ne (by omega))
  · have hil := (List.getElem?_eq_some_iff.1 hi).1
    refine ⟨?_, long_at hl hi⟩
    rw [rd_of (S := S) (List.getElem?_set_ne (by omega)), ha i (by omega), List.getD_eq_getElem?_getD, hi]
    rfl

theorem IS.Inv.step {s : IS} (h : s.Inv) (ht : s.t ≤ 899) {mk' : Nat} {bl' : List ByteArray} {k : Nat} (hw : s.work = some (mk', bl', k)) : (stepS s mk' bl' k).Inv := by
  have hww := h.work
  rw [hw] at hww
  obtain ⟨w1, w2, w3, w4, h5⟩ := hww
  have hsl := h.sl
  unfold stepS
  rcases h5 with ⟨hk, hW⟩ | ⟨hk, hW, ha⟩ | ⟨hk, hW, ha⟩
  · by_cases hk32 : k < 32
    · rw [if_pos hk32]
      exact ⟨h.sl, h.tl, h.good, w1, w2, w3, w4, .inl ⟨by omega, by rw [hW, areaW_succ]⟩⟩
    · have hk2 : k = 32 := by omega
      subst hk2
      rw [if_neg hk32, if_pos rfl, hW]
      have hg := h.good.layArea (fun _ => true) (bl' := bl') (k := 32) (Nat.le_refl _)
      have ha := area_laid (t := s.t + 1) hsl w1 w2 32 (Nat.le_refl _)
      have hln := D.lay_len (fun _ => true) (areaW (s.t + 1) bl' 32) 0 s.S
      generalize D.lay (fun _ => true) 0 s.S (areaW (s.t + 1) bl' 32) = S' at hg ha hln ⊢
      exact ⟨hln.trans hsl, h.tl, hg, w1, w2, w3, w4, .inr (.inl ⟨rfl, rfl, ha⟩)⟩
  · subst hk
    rw [if_neg (by omega), if_neg (by omega), if_pos rfl, hW]
    exact ⟨h.sl, h.tl, h.good, w1, w2, w3, w4, .inr (.inr ⟨rfl, rfl, ha⟩)⟩
  · subst hk
    rw [if_neg (by omega), if_neg (by omega), if_neg (by omega), hW]
    have e : D.lay (fun _ => true) 0 s.S [⟨(((s.t + 1) % 2 : Nat) : Int), mkSec (hsec ((s.t + 1 : Nat) : Int) (mk' : Nat))⟩] = s.S.set ((s.t + 1) % 2) (mkSec (hsec ((s.t + 1 : Nat) : Int) (mk' : Nat))) := rfl
    rw [e]
    exact ⟨by rw [List.length_set]; exact hsl, by dsimp only; omega, h.good.layHead hsl h.tl w1 w2 w4 w3 ha, rfl⟩

/-- Behind a crash: the old one, or the next one. -/
theorem IS.Inv.crash {s : IS} (h : s.Inv) (kept : Nat → Bool) : Good (rd (D.lay kept 0 s.S s.W)) s.t s.km s.bl ∨ ∃ mk' bl', s.work = some (mk', bl', 34) ∧ kept 0 = true ∧ Good (rd (D.lay kept 0 s.S s.W)) (s.t + 1) mk' bl' := by
  have hww := h.work
  cases hw : s.work with
  | none => rw [hw] at hww; dsimp only at hww; rw [hww]; exact .inl h.good
  | some p =>
    obtain ⟨mk', bl', k⟩ := p
    rw [hw] at hww
    obtain ⟨w1, w2, w3, w4, h5⟩ := hww
    rcases h5 with ⟨hk, hW⟩ | ⟨hk, hW, ha⟩ | ⟨hk, hW, ha⟩
    · rw [hW]; exact .inl (h.good.layArea kept hk)
    · rw [hW]; exact .inl h.good
    · rw [hW]
      by_cases hk0 : kept 0 = true
      · refine .inr ⟨mk', bl', by rw [hk], hk0, ?_⟩
        have e : D.lay kept 0 s.S [⟨(((s.t + 1) % 2 : Nat) : Int), mkSec (hsec ((s.t + 1 : Nat) : Int) (mk' : Nat))⟩] = s.S.set ((s.t + 1) % 2) (mkSec (hsec ((s.t + 1 : Nat) : Int) (mk' : Nat))) := by
          simp only [D.lay]; rw [if_pos hk0]; rfl
        rw [e]
        exact h.good.layHead h.sl h.tl w1 w2 w4 w3 ha
      · refine .inl ?_
        have e : D.lay kept 0 s.S [⟨(((s.t + 1) % 2 : Nat) : Int), mkSec (hsec ((s.t + 1 : Nat) : Int) (mk' : Nat))⟩] = s.S := by
          simp only [D.lay]; rw [if_neg hk0]
        rw [e]
        exact h.good
end Go.AM.Bk

/-
  WHAT COMES IN, deep: arguments whose elements hold slices of their own.
-/
namespace Go.AM
open Go.RowKit Go.ChangeShapes
variable [Laid]

/-- A cell that may be read: flat, or a slice. -/
def ok1 (ads : List Addr) (v : Value) : Bool :=
  match v with
  | .slice none n c => Nat.beq n 0 && Nat.beq c 0
  | .slice (some a) n c => decide (a ∈ ads) && decide (n ≤ c) && decide (c ≤ maxLen) && (a.spot.isNone || Nat.beq c 0)
  | v => flat1 v
theorem ok1_flat {ads : List Addr} {v : Value} (h : flat1 v = true) : ok1 ads v = true ∧ im ads v = v := by
  cases v <;> simp [flat1] at h <;> exact ⟨rfl, rfl⟩
theorem idx_mp {ads : List Addr} {a : Addr} (h : a ∈ ads) : mpOf ads (ads.idxOf a) = some ⟨a.block, a.off, 0⟩ := by simp [mpOf, idx_get h]
theorem ok1_rel {ads : List Addr} {v : Value} (h : ok1 ads v = true) : VRel (mpOf ads) (im ads v) v := by
  unfold ok1 at h
  split at h
  · rename_i n c
    simp at h
    obtain ⟨rfl, rfl⟩ := h
    exact .sl0
  · rename_i a n c
    simp only [Bool.and_eq_true, decide_eq_true_eq, Bool.or_eq_true, Option.isNone_iff_eq_none] at h
    obtain ⟨⟨⟨h1, h2⟩, h3⟩, h4⟩ := h
    exact VRel.slw (p := ⟨a.block, a.off, 0⟩) (o' := a.off) (sp := a.spot) (idx_mp h1) h2 (.inr rfl) (.inl rfl) h3 (h4.imp id Nat.eq_of_beq_eq_true)
  · rename_i h1 h2
    have := ok1_flat (ads := ads) h
    rw [this.2]
    exact flat1_rel _ v h

def stOfD (ads : List Addr) (W : World) : St where
  get r := match ads[r]? with
    | some a => match W.heap[a.block]? with
      | some (.cells cur _ _) => some (.ro (((cur.toList.drop a.off).takeWhile (ok1 ads)).map (im ads)))
      | _ => none
    | none => none
  next := ads.length

theorem rel_stOfD (ads : List Addr) (W : World) (hI : Laid.I W) : Rel (Base.of W) (mpOf ads) (stOfD ads W) W := by
  refine ⟨Below.refl _ _, fun q hq => ?_, fun q p B hp hB => ?_, fun q vs e h => ?_, fun q vs h => ?_, fun q kv h => ?_, fun q q' B B' p p' h hw => ?_, hI, fun b o he => (by cases he), fun _ _ _ _ _ => rfl⟩
  · have h1 : ads[q]? = none := List.getElem?_eq_none hq
    simp [mpOf, stOfD, h1]
  · simp only [mpOf, Option.map_eq_some_iff] at hp
    obtain ⟨a, ha, rfl⟩ := hp
    simp only [stOfD, ha] at hB
    split at hB
    · rename_i cur e fz hc
      exact (Array.getElem?_eq_some_iff.1 hc).1
    · cases hB
  · simp only [stOfD] at h
    split at h
    · split at h <;> cases h
    · cases h
  · simp only [stOfD] at h
    split at h
    · rename_i a ha
      split at h
      · rename_i cur e fz hc
        cases h
        refine ⟨⟨a.block, a.off, 0⟩, by simp [mpOf, ha], fun i x hx => ?_⟩
        rw [List.getElem?_map, Option.map_eq_some_iff] at hx
        obtain ⟨y, hy, rfl⟩ := hx
        have hpre : (cur.toList.drop a.off)[i]? = some y := by
          have h1 := List.takeWhile_prefix (ok1 ads) (l := cur.toList.drop a.off)
          have hlt : i < ((cur.toList.drop a.off).takeWhile (ok1 ads)).length := (List.getElem?_eq_some_iff.1 hy).1
          obtain ⟨t, ht⟩ := h1
          rw [← ht, List.getElem?_append_left hlt]
          exact hy
        have hgood : ok1 ads y = true := by
          have h1 := List.all_takeWhile (p := ok1 ads) (l := cur.toList.drop a.off)
          exact List.all_eq_true.1 h1 y (List.mem_of_getElem? hy)
        refine ⟨y, ?_, ok1_rel hgood⟩
        simp only [World.cell?, hc]
        rw [List.getElem?_drop, Array.getElem?_toList] at hpre
        exact hpre
      · cases h
    · cases h
  · simp only [stOfD] at h
    split at h
    · split at h <;> cases h
    · cases h
  · simp only [stOfD] at h
    split at h
    · split at h
      · cases h; cases hw
      · cases h
    · cases h

theorem run_lenD {p : Value → Bool} : ∀ {l : List Value} {n : Nat}, n ≤ l.length → (∀ i v, i < n → l[i]? = some v → p v = true) → n ≤ (l.takeWhile p).length
  | [], n, h, _ => by simpa using h
  | x :: l, 0, _, _ => by simp
  | x :: l, n + 1, h, hg => by
    have h1 := hg 0 x (by omega) rfl
    simp only [List.takeWhile_cons, h1, if_true, List.length_cons]
    have := run_lenD (l := l) (n := n) (by simpa using h) (fun i v hi hv => hg (i + 1) v (by omega) (by simpa using hv))
    omega

section
variable {H : Type} {enc : TypeId × Value → H} {P : Program}

/-- Elements that can be read: the memory they lie in, as the machine sees it. -/
theorem elems_img {W : World} {ads : List Addr} {a : Addr} {n : Nat} {e : TypeId} (ha : a ∈ ads) (hsp : a.spot = none) (hz : 0 < P.cellsOf e) (hn : 0 < n)
    (h : ∀ i, i < n → ∃ cs, W.cells? 0 (a.add (i * P.cellsOf e)) (P.cellsOf e) = some cs ∧ (∀ v ∈ cs, ok1 ads v = true) ∧ Img P (stOfD ads W) e (cs.map (im ads))) :
    ∃ vs, (stOfD ads W).get (ads.idxOf a) = some (.ro vs) ∧ n * P.cellsOf e ≤ vs.length ∧ ∀ i, i < n → Img P (stOfD ads W) e ((vs.drop (i * P.cellsOf e)).take (P.cellsOf e)) := by
  obtain ⟨b, o, sp⟩ := a
  simp only at hsp
  subst hsp
  have hidx := idx_get ha
  have hcell : ∀ i, i < n → ∀ j, j < P.cellsOf e → ∃ x, W.cell? ⟨b, o + (i * P.cellsOf e + j), none⟩ = some x ∧ ok1 ads x = true := by
    intro i hi j hj
    obtain ⟨cs, h5, h6, _⟩ := h i hi
    obtain ⟨h7, h8⟩ := cells_inv h5
    have h10 := h8 j hj
    rw [addr_add, addr_add] at h10
    have h11 : j < cs.length := by omega
    rw [List.getElem?_eq_getElem h11] at h10
    exact ⟨cs[j], by rw [← Nat.add_assoc]; exact h10, h6 _ (List.getElem_mem h11)⟩
  have hblk : ∃ cur el fz, W.heap[b]? = some (.cells cur el fz) := by
    obtain ⟨x, hx, _⟩ := hcell 0 hn 0 hz
    unfold World.cell? at hx
    split at hx
    · exact ⟨_, _, _, by assumption⟩
    · cases hx
  obtain ⟨cur, el, fz, hc⟩ := hblk
  have hflat : ∀ q, q < n * P.cellsOf e → ∃ x, (cur.toList.drop o)[q]? = some x ∧ ok1 ads x = true := by
    intro q hq
    have hdiv : q / P.cellsOf e < n := Nat.div_lt_of_lt_mul (by rw [Nat.mul_comm]; exact hq)
    have hmod := Nat.mod_lt q hz
    have hdm := Nat.div_add_mod q (P.cellsOf e)
    obtain ⟨x, hx, hg⟩ := hcell _ hdiv _ hmod
    rw [Nat.mul_comm, hdm] at hx
    refine ⟨x, ?_, hg⟩
    simp only [World.cell?, hc] at hx
    rw [List.getElem?_drop, Array.getElem?_toList]
    simpa using hx
  have hlen : n * P.cellsOf e ≤ (cur.toList.drop o).length := by
    rcases Nat.lt_or_ge (cur.toList.drop o).length (n * P.cellsOf e) with h | h
    · obtain ⟨x, hx, _⟩ := hflat _ h
      rw [List.getElem?_eq_none (Nat.le_refl _)] at hx
      cases hx
    · exact h
  have hget : (stOfD ads W).get (ads.idxOf ⟨b, o, none⟩) = some (.ro (((cur.toList.drop o).takeWhile (ok1 ads)).map (im ads))) := by simp [stOfD, hidx, hc]
  have hlen2 := run_lenD (p := ok1 ads) hlen (fun i v hi hv => by obtain ⟨x, hx, hg⟩ := hflat i hi; rw [hv] at hx; cases hx; exact hg)
  have hpre : ∀ i, i < n * P.cellsOf e → ((cur.toList.drop o).takeWhile (ok1 ads))[i]? = (cur.toList.drop o)[i]? := by
    intro i hi
    obtain ⟨t', ht⟩ := List.takeWhile_prefix (ok1 ads) (l := cur.toList.drop o)
    conv => rhs; rw [← ht]
    rw [List.getElem?_append_left (by omega)]
  refine ⟨_, hget, by rw [List.length_map]; exact hlen2, fun i hi => ?_⟩
  obtain ⟨cs, h5, _, h10⟩ := h i hi
  obtain ⟨h7, h8⟩ := cells_inv h5
  have heq : (((cur.toList.drop o).takeWhile (ok1 ads)).drop (i * P.cellsOf e)).take (P.cellsOf e) = cs := by
    apply List.ext_getElem?
    intro j
    rw [List.getElem?_take]
    by_cases hj : j < P.cellsOf e
    · have hij : i * P.cellsOf e + j < n * P.cellsOf e := by
        have := Nat.mul_le_mul_right (P.cellsOf e) (show i + 1 ≤ n from hi)
        rw [Nat.add_mul] at this
        omega
      rw [if_pos hj, List.getElem?_drop, hpre _ hij, ← h8 j hj, addr_add, addr_add]
      simp only [World.cell?, hc]
      rw [List.getElem?_drop, Array.getElem?_toList]
      simp [Nat.add_assoc]
    · rw [if_neg hj, List.getElem?_eq_none (by omega)]
  rw [← List.map_drop, ← List.map_take, heq]
  exact h10

/-- Types of which bools, whole numbers, strings, and slices of these are reached. -/
def deepT (P : Program) : Nat → TypeId → Bool
  | 0, _ => false
  | n + 1, t =>
    flatT P 8 t || match P.underlying t with
    | some (.slice e) => flatT P 8 e && Nat.blt 0 (P.cellsOf e)
    | some (.struct fs) => (fs.toList.all fun f => deepT P n f.type) && (List.range (P.cellsOf t)).all fun c => fs.toList.any fun f => Nat.ble f.offset c && Nat.blt c (f.offset + P.cellsOf f.type)
    | _ => false

theorem map_im_flat {ads : List Addr} {cs : List Value} (h : ∀ v ∈ cs, flat1 v = true) : cs.map (im ads) = cs := by
  conv => rhs; rw [← List.map_id cs]
  exact List.map_congr_left fun v hv => (ok1_flat (h v hv)).2

theorem image_slice {W : World} {ads : List Addr} {fuel : Nat} {t e : TypeId} {v : Value} {x : DataW H × List MemPlace} (hu : P.underlying t = some (.slice e)) (hf : flatT P 8 e = true) (hz : 0 < P.cellsOf e)
    (h : DataW.trod enc P W 0 (fun _ => true) true (fuel + 1) t [v] = some x) (ha : ∀ a n c, v = .slice (some a) n c → a ∈ ads) : ok1 ads v = true ∧ Img P (stOfD ads W) t [im ads v] := by
  unfold DataW.trod at h
  simp only [hu] at h
  split at h <;> try (simp_all; done)
  · rename_i heq1 heq2
    obtain rfl : v = .slice none 0 0 := by simpa using heq2
    exact ⟨rfl, .nil hu⟩
  · rename_i a len cap heq1 heq2
    obtain rfl : v = .slice (some a) len cap := by simpa using heq2
    cases heq1
    have hm := ha _ _ _ rfl
    split at h
    · rename_i hb
      obtain ⟨elems, he, h2⟩ := Option.bind_eq_some_iff.1 h
      have hel := mapM_some_length he
      simp only [List.length_range] at hel
      rw [if_pos trivial] at h2
      obtain ⟨rest, hrest, _⟩ := Option.map_eq_some_iff.1 h2
      have hrl := mapM_some_length hrest
      simp only [List.length_range] at hrl
      have hrow : ∀ i, i < len → ∃ cs y, W.cells? 0 (a.add (i * P.cellsOf e)) (P.cellsOf e) = some cs ∧ DataW.trod enc P W 0 (fun _ => true) true fuel e cs = some y := by
        intro i hi
        have h3 := mapM_some_get he i i (by simp [hi])
        have h4 : i < elems.length := by omega
        rw [List.getElem?_eq_getElem h4] at h3
        obtain ⟨cs, h5, h6⟩ := Option.bind_eq_some_iff.1 h3
        exact ⟨cs, _, h5, h6⟩
      have hspot : a.spot = none ∨ cap = 0 := by
        by_cases hc0 : cap = 0
        · exact .inr hc0
        · refine .inl ?_
          have hread : ∃ (cs : List Value), W.cells? 0 (a.add 0) (P.cellsOf e) = some cs := by
            by_cases hl : 0 < len
            · obtain ⟨cs, _, h5, _⟩ := hrow 0 hl
              rw [Nat.zero_mul] at h5
              exact ⟨cs, h5⟩
            · have h3 := mapM_some_get hrest 0 0 (List.getElem?_range (by omega))
              rw [List.getElem?_eq_getElem (show 0 < rest.length by omega)] at h3
              obtain ⟨cs, h5, _⟩ := Option.bind_eq_some_iff.1 h3
              rw [show len + 0 = 0 by omega, Nat.zero_mul] at h5
              exact ⟨cs, h5⟩
          obtain ⟨cs, h5⟩ := hread
          obtain ⟨h7, h8⟩ := cells_inv h5
          have h9 := h8 0 hz
          rw [List.getElem?_eq_getElem (show 0 < cs.length by omega)] at h9
          obtain ⟨b, o, sp⟩ := a
          cases sp with
          | none => rfl
          | some s =>
            exfalso
            unfold World.cell? at h9
            split at h9
            · simp [Addr.add] at h9
            · cases h9
      have hok : ok1 ads (.slice (some a) len cap) = true := by
        unfold ok1
        simp only [Bool.and_eq_true, decide_eq_true_eq, Bool.or_eq_true, Option.isNone_iff_eq_none]
        exact ⟨⟨⟨hm, hb.2.1⟩, hb.2.2⟩, hspot.imp id (fun h => by rw [h]; rfl)⟩
      refine ⟨hok, ?_⟩
      show Img P (stOfD ads W) t [.slice (some ⟨ads.idxOf a, 0, none⟩) len 0]
      by_cases hl : len = 0
      · subst hl
        exact .slice hu (by omega) [] (.inl rfl) (by simp) (fun i hi => by omega)
      · have hsp : a.spot = none := by rcases hspot with h | h; exact h; omega
        obtain ⟨vs, g1, g2, g3⟩ := elems_img (n := len) (W := W) (ads := ads) hm hsp hz (by omega) (fun i hi => by
          obtain ⟨cs, y, h5, h6⟩ := hrow i hi
          obtain ⟨h9, _, h10⟩ := image_flat (stOfD ads W) fuel e cs y 8 h6 hf
          exact ⟨cs, h5, fun v hv => (ok1_flat (h9 v hv)).1, by rw [map_im_flat h9]; exact h10⟩)
        exact .slice hu (Nat.le_trans hb.2.1 hb.2.2) vs (.inr g1) g2 g3
    · cases h

theorem image_deep {W : World} {ads : List Addr} : ∀ (k fuel : Nat) (t : TypeId) (cs : List Value) (x : DataW H × List MemPlace), DataW.trod enc P W 0 (fun _ => true) true fuel t cs = some x → deepT P k t = true → (∀ a n c, .slice (some a) n c ∈ cs → a ∈ ads) →
    (∀ v ∈ cs, ok1 ads v = true) ∧ Img P (stOfD ads W) t (cs.map (im ads))
  | 0, fuel, t, cs, x, h, hk, _ => by cases hk
  | k + 1, 0, t, cs, x, h, _, _ => by simp [DataW.trod] at h
  | k + 1, fuel + 1, t, cs, x, h, hk, ha => by
    unfold deepT at hk
    rw [Bool.or_eq_true] at hk
    rcases hk with hk | hk
    · obtain ⟨h1, _, h2⟩ := image_flat (stOfD ads W) (fuel + 1) t cs x 8 h hk
      exact ⟨fun v hv => (ok1_flat (h1 v hv)).1, by rw [map_im_flat h1]; exact h2⟩
    · split at hk
      · rename_i e hu
        rw [Bool.and_eq_true] at hk
        have hcs : ∃ v, cs = [v] := by
          unfold DataW.trod at h
          simp only [hu] at h
          split at h <;> try (simp_all; done)
        obtain ⟨v, rfl⟩ := hcs
        obtain ⟨h1, h2⟩ := image_slice (ads := ads) hu hk.1 (by simpa using hk.2) h (fun a n c e => ha a n c (by simp [e]))
        exact ⟨fun u hu => by simp at hu; subst hu; exact h1, h2⟩
      · rename_i fs hu
        rw [Bool.and_eq_true] at hk
        unfold DataW.trod at h
        simp only [hu] at h
        split at h
        · rename_i hlen
          obtain ⟨r, hr, _⟩ := Option.map_eq_some_iff.1 h
          have hrl := mapM_some_length hr
          have hall : ∀ f ∈ fs.toList, (∀ v ∈ (cs.drop f.offset).take (P.cellsOf f.type), ok1 ads v = true) ∧ Img P (stOfD ads W) f.type (((cs.drop f.offset).take (P.cellsOf f.type)).map (im ads)) := by
            intro f hf
            obtain ⟨i, hi, rfl⟩ := List.getElem_of_mem hf
            have h1 := mapM_some_get hr i _ (List.getElem?_eq_getElem hi)
            have h2 : i < r.length := by omega
            rw [List.getElem?_eq_getElem h2] at h1
            exact image_deep k fuel _ _ _ h1 (List.all_eq_true.1 hk.1 _ (List.getElem_mem hi)) (fun a n c hm => ha a n c (List.mem_of_mem_drop (List.mem_of_mem_take hm)))
          refine ⟨fun v hv => ?_, .struct hu (by rw [List.length_map]; exact hlen) (fun f hf => by rw [← List.map_drop, ← List.map_take]; exact (hall f hf).2)⟩
          obtain ⟨c, hc, rfl⟩ := List.getElem_of_mem hv
          have h1 := List.all_eq_true.1 hk.2 c (by simp; omega)
          obtain ⟨f, hf, h2⟩ := List.any_eq_true.1 h1
          simp only [Bool.and_eq_true, Nat.ble_eq, Nat.blt_eq] at h2
          refine (hall f hf).1 _ (List.mem_of_getElem? (i := c - f.offset) ?_)
          rw [List.getElem?_take, if_pos (by omega), List.getElem?_drop, show f.offset + (c - f.offset) = c by omega]
          exact List.getElem?_eq_getElem hc
        · cases h
      · cases hk

/-- The addresses among the arguments, and among what these hold. -/
def adrsD (W : World) (vs : List Value) : List Addr := adrs vs ++ (adrs vs).flatMap fun (a : Addr) => match W.heap[a.block]? with | some (.cells cur _ _) => adrs (cur.toList.drop a.off) | _ => []
theorem adrs_mem {vs : List Value} {a : Addr} {n c : Nat} (h : Value.slice (some a) n c ∈ vs) : a ∈ adrs vs := List.mem_filterMap.2 ⟨_, h, rfl⟩

/-- An argument that holds no slice. -/
theorem open_flatD {W : World} {t : TypeId} {v : Value} {d : DataW H} {p : List MemPlace} {k : Nat} {ads : List Addr} (hf : flatT P k t = true)
    (h : DataW.Trod enc P W 0 (fun _ => true) true t v d p) (ha : (∃ cs, v = .agg cs) ∨ ∃ x, v.cells.toList = [x] ∧ v = x) : VRel (mpOf ads) v v ∧ Img P (stOfD ads W) t v.cells.toList := by
  obtain ⟨fuel, h1⟩ := h
  obtain ⟨h2, _, h3⟩ := image_flat (stOfD ads W) fuel t _ _ k h1 hf
  refine ⟨?_, h3⟩
  rcases ha with ⟨cs, rfl⟩ | ⟨x, hx, rfl⟩
  · refine .agg rfl fun i x y hx hy => ?_
    rw [hx] at hy; cases hy
    exact flat1_rel _ x (h2 x (List.mem_of_getElem? hx))
  · exact flat1_rel _ v (h2 v (by rw [hx]; simp))

/-- An argument that is a slice of elements that hold slices. -/
theorem open_deep {W : World} {base : Nat} {t e : TypeId} {v : Value} {d : DataW H} {p : List MemPlace} {k : Nat} {vs0 : List Value} (hu : P.underlying t = some (.slice e)) (hf : deepT P k e = true) (hz : 0 < P.cellsOf e)
    (hv : Value.okWide P W .any base t v) (h : DataW.Trod enc P W 0 (fun _ => true) true t v d p) (has : v ∈ vs0) : VRel (mpOf (adrsD W vs0)) (im (adrsD W vs0) v) v ∧ Img P (stOfD (adrsD W vs0) W) t [im (adrsD W vs0) v] := by
  obtain ⟨fuel, h1⟩ := h
  cases fuel with
  | zero => simp [DataW.trod] at h1
  | succ fuel =>
    have hok : v = .slice none 0 0 ∨ ∃ b o n c, v = .slice (some ⟨b, o, none⟩) n c := by
      unfold Value.okWide Cell.okWide Cell.ok at hv
      simp only [hu] at hv
      cases v <;> simp at hv
      rename_i a n c
      cases a with
      | none => left; cases n <;> cases c <;> simp at hv ⊢
      | some a =>
        obtain ⟨b, o, sp⟩ := a
        simp only [World.has] at hv
        have : sp = none := hv.2.2.2.1
        subst this
        exact .inr ⟨b, o, n, c, rfl⟩
    rcases hok with rfl | ⟨b, o, n, c, rfl⟩
    · exact ⟨.sl0, .nil hu⟩
    · have hmem0 : (⟨b, o, none⟩ : Addr) ∈ adrs vs0 := adrs_mem has
      have hmem : (⟨b, o, none⟩ : Addr) ∈ adrsD W vs0 := List.mem_append_left _ hmem0
      unfold DataW.trod at h1
      simp only [hu, Value.cells] at h1
      split at h1
      · rename_i hb
        obtain ⟨elems, he, h2⟩ := Option.bind_eq_some_iff.1 h1
        have hel := mapM_some_length he
        simp only [List.length_range] at hel
        have hrow : ∀ i, i < n → ∃ cs y, W.cells? 0 ((⟨b, o, none⟩ : Addr).add (i * P.cellsOf e)) (P.cellsOf e) = some cs ∧ DataW.trod enc P W 0 (fun _ => true) true fuel e cs = some y := by
          intro i hi
          have h3 := mapM_some_get he i i (by simp [hi])
          have h4 : i < elems.length := by omega
          rw [List.getElem?_eq_getElem h4] at h3
          obtain ⟨cs, h5, h6⟩ := Option.bind_eq_some_iff.1 h3
          exact ⟨cs, _, h5, h6⟩
        have hrel : VRel (mpOf (adrsD W vs0)) (im (adrsD W vs0) (.slice (some ⟨b, o, none⟩) n c)) (.slice (some ⟨b, o, none⟩) n c) :=
          VRel.sl (p := ⟨b, o, 0⟩) (idx_mp hmem) hb.2.1 (.inr rfl) (.inl rfl) hb.2.2
        refine ⟨hrel, ?_⟩
        show Img P (stOfD (adrsD W vs0) W) t [.slice (some ⟨(adrsD W vs0).idxOf ⟨b, o, none⟩, 0, none⟩) n 0]
        by_cases hn : n = 0
        · subst hn
          exact .slice hu (by omega) [] (.inl rfl) (by simp) (fun i hi => by omega)
        · obtain ⟨vs, g1, g2, g3⟩ := elems_img (n := n) (W := W) (ads := adrsD W vs0) hmem rfl hz (by omega) (fun i hi => by
            obtain ⟨cs, y, h5, h6⟩ := hrow i hi
            obtain ⟨h7, h8⟩ := cells_inv h5
            have hnest : ∀ a m c', .slice (some a) m c' ∈ cs → a ∈ adrsD W vs0 := fun a m c' hm => by
              obtain ⟨j, hj, hjv⟩ := List.getElem_of_mem hm
              have h10 := h8 j (by omega)
              rw [addr_add, addr_add, List.getElem?_eq_getElem hj, hjv] at h10
              unfold World.cell? at h10
              split at h10
              · rename_i cur el fz hc
                simp only [Option.isSome_none, Bool.false_eq_true, if_false] at h10
                refine List.mem_append_right _ (List.mem_flatMap.2 ⟨⟨b, o, none⟩, hmem0, ?_⟩)
                simp only [hc]
                refine adrs_mem (n := m) (c := c') (List.mem_of_getElem? (i := i * P.cellsOf e + j) ?_)
                rw [List.getElem?_drop, Array.getElem?_toList, ← Nat.add_assoc]
                exact h10
              · cases h10
            obtain ⟨h9, h10⟩ := image_deep k fuel e cs y h6 hf hnest
            exact ⟨cs, h5, h9, h10⟩)
          exact .slice hu (Nat.le_trans hb.2.1 hb.2.2) vs (.inr g1) g2 g3
      · cases h1

theorem stOfD_lt {ads : List Addr} {W : World} {q : Nat} {vs : List Value} (h : (stOfD ads W).cells q = some vs) : q < (stOfD ads W).next := by
  rcases Nat.lt_or_ge q ads.length with h1 | h1
  · exact h1
  · have h2 : ads[q]? = none := List.getElem?_eq_none h1
    simp [St.cells, stOfD, h2] at h
theorem Img.holdsD {α : Type} {ads : List Addr} {W : World} {t e : TypeId} {v : Value} {sz : Nat} (hu : P.underlying t = some (.slice e)) (h : Img P (stOfD ads W) t [v]) (cells : α → List Value) (dec : ∀ row, Img P (stOfD ads W) e row → ∃ a, row = cells a) (hz : ∀ a, (cells a).length = sz) (hc : P.cellsOf e = sz) :
    ∃ (l : List α) (ad : Option Addr), v = .slice ad l.length 0 ∧ l.length ≤ maxLen ∧ Holds (stOfD ads W) sz cells ad l := by
  obtain ⟨l, ad, h1, h2, h3⟩ := h.list hu cells dec (fun a => by rw [hz, hc])
  refine ⟨l, ad, h1, h2, fun hne => ?_⟩
  obtain ⟨q, vs, g1, g2, g3, g4⟩ := h3 hne
  rw [hc] at g3 g4
  refine ⟨q, vs, g1, g2, stOfD_lt g2, g3, fun i a hi j w hj hw => ?_⟩
  have h5 := g4 i a hi
  have h6 : (((vs.drop (i * sz)).take sz))[j]? = some w := by rw [h5]; exact hw
  rw [List.getElem?_take, if_pos hj, List.getElem?_drop] at h6
  exact h6

/-- The call, out of what the abstract machine answers. -/
theorem endsD {env : FuncId → Def} (henv : EnvOK P env) {L n : Nat} {f : FuncId} {ads : List Addr} {W : World} {args args' : List Value} {σ' : St} (h : evCall P env L n f args (stOfD ads W) = some (.bool true, σ')) (hl : LRel (mpOf ads) args args') (hI : Laid.I W := by trivial) :
    Calls P f args'.toArray W fun e W' => e = .returned (.bool true) ∧ Below W.heap.size W W' := by
  refine Calls.mono ((call_sound henv n f args (stOfD ads W) (.bool true) σ' h).2 (Base.of W) (mpOf ads) W args' hl (rel_stOfD ads W hI)) (fun e W' he => ?_)
  cases e with
  | returned v' =>
    obtain ⟨μ', _, h2, h3⟩ := he
    rw [h2.bool_inv]
    exact ⟨rfl, h3.below⟩
  | panicked ch => exact he.elim
  | outgrown => exact he.elim
end

end Go.AM

/-
  THE IMAGE's laws: what they call besides; opened, cut off.
-/
namespace Go.AM.Bk
open Go.Proofs

theorem _root_.Go.AM.Owns.map {σ0 σ : St} {Fs Gs : List (List Nat)} (h : Owns σ0 σ Fs) (f : Nat → Nat) (hf : ∀ i j, f i = f j → i = j) (hg : ∀ i G, Gs[i]? = some G → Fs[f i]? = some G) : Owns σ0 σ Gs :=
  ⟨h.kept, fun G hG q hq => by
    obtain ⟨i, hi⟩ := List.mem_iff_getElem?.1 hG
    exact h.own G (List.mem_of_getElem? (hg i G hi)) q hq, fun i j A B hij ha hb => h.dis (f i) (f j) A B (fun e => hij (hf i j e)) (hg i A ha) (hg j B hb)⟩
theorem _root_.Go.AM.Owns.flip {σ0 σ : St} {A B : List Nat} {R : List (List Nat)} (h : Owns σ0 σ (A :: B :: R)) : Owns σ0 σ (B :: A :: R) :=
  h.map (fun i => if i = 0 then 1 else if i = 1 then 0 else i) (fun i j e => by
    by_cases a0 : i = 0 <;> by_cases a1 : i = 1 <;> by_cases b0 : j = 0 <;> by_cases b1 : j = 1 <;> simp [a0, a1, b0, b1] at e <;> omega) (fun i G hG => by
    match i, hG with
    | 0, hG => exact hG
    | 1, hG => exact hG
    | i + 2, hG => simpa using hG)
theorem _root_.Go.AM.Owns.second {σ0 σ : St} {A B : List Nat} {R : List (List Nat)} (h : Owns σ0 σ (A :: B :: R)) : Owns σ0 σ (A :: R) := h.flip.forget

section
variable {σ0 σ : St} {m d : Nat} {R : List (List Nat)}
/-- An image is opened. -/
theorem openS {F : List Nat} {S : List D.Sec} {W : List D.Lw} (hD : D.Disk σ d F S W) (hO : Owns σ0 σ (F :: R)) (hS : 66 ≤ S.length) (hW : W.length ≤ 10000) (L k : Nat) (hL : 100000 < L) :
    (∃ t mk bl m σ', opn (rdS S W) = some (t, mk, bl) ∧ evCall Tryz.prog env L (k + 10) 45 [ptr d] σ = some (.tuple #[ptr m, .nilIface], σ') ∧ ImS σ0 σ' m d ⟨S, W, t, mk, bl, none⟩ R ∧ (∀ H ∈ R, ∀ q ∈ H, σ'.get q = σ.get q)) ∨
    (∃ e σ', opn (rdS S W) = none ∧ evCall Tryz.prog env L (k + 10) 45 [ptr d] σ = some (.tuple #[.pointer none, e], σ') ∧ Err σ' e 4 0 ∧ D.Disk σ' d F S W ∧ Owns σ0 σ' (F :: R) ∧ (∀ H ∈ R, ∀ q ∈ H, σ'.get q = σ.get q)) := by
  have keep : ∀ {σ' : St}, Same σ σ' [] → ∀ H ∈ R, ∀ q ∈ H, σ'.get q = σ.get q := fun hs H hH q hq => hs.2 q (hO.own H (by simp [hH]) q hq).2 (by simp)
  rcases open_img L k hL hW hS hD with ⟨m, t, mk, bl, σ', ho, g, hI, hm, hs⟩ | ⟨q, σ', ho, g, hq, hql, hs⟩
  · refine .inl ⟨t, mk, bl, m, σ', ho, g, ⟨F, [m], none, hD.idle hs, hI, ((hO.more hs (F := [m]) (by have := hI.lt; simp; omega)).flip), by simp, .inl ⟨rfl, rfl⟩⟩, keep hs⟩
  · exact .inr ⟨_, σ', ho, g, ⟨q, rfl, hq, hql⟩, hD.idle hs, hO.idle hs, keep hs⟩
/-- What is sound is opened. -/
theorem openGood {F : List Nat} {S : List D.Sec} (hD : D.Disk σ d F S []) (hO : Owns σ0 σ (F :: R)) (hS : S.length = 66) (L k : Nat) (hL : 100000 < L) {t mk : Nat} {bl : List ByteArray} (hg : Good (rd S) t mk bl) (ht : t ≤ 900) :
    ∃ m σ', evCall Tryz.prog env L (k + 10) 45 [ptr d] σ = some (.tuple #[ptr m, .nilIface], σ') ∧ ImS σ0 σ' m d ⟨S, [], t, mk, bl, none⟩ R ∧ (∀ H ∈ R, ∀ q ∈ H, σ'.get q = σ.get q) ∧ IS.Inv ⟨S, [], t, mk, bl, none⟩ := by
  rcases openS hD hO (by omega) (by simp) L k hL with ⟨t', mk', bl', m, σ', ho, g, hI, hk⟩ | ⟨_, _, ho, _⟩
  · rw [show rdS S [] = rd S from rfl, hg.opn] at ho
    cases ho
    exact ⟨m, σ', g, hI, hk, ⟨hS, ht, hg, rfl⟩⟩
  · rw [show rdS S [] = rd S from rfl, hg.opn] at ho; cases ho
theorem ImS.disk {s : IS} (h : ImS σ0 σ m d s R) : ∃ F, D.Disk σ d F s.S s.W ∧ Owns σ0 σ (F :: R) := by
  obtain ⟨F, G, w, h1, h2, h3, _⟩ := h.ex
  exact ⟨F, h1, h3.second⟩
/-- The power goes. -/
theorem crashD {F : List Nat} {S : List D.Sec} {W : List D.Lw} (hD : D.Disk σ d F S W) (hO : Owns σ0 σ (F :: R)) (hwl : W.length ≤ 100) (hwr : D.InR S.length W) (L k : Nat) (hL : 100000 < L) (keep : Int) :
    ∃ F' σ', evCall Tryz.prog env L (k + 3) 66 [ptr d, .int .u64 keep] σ = some (.tuple #[], σ') ∧ D.Disk σ' d F' (D.lay (D.bit keep) 0 S W) [] ∧ Owns σ0 σ' (F' :: R) ∧ (∀ H ∈ R, ∀ q ∈ H, σ'.get q = σ.get q) ∧ σ.next ≤ σ'.next := by
  obtain ⟨F', σ', g, hD', hT⟩ := D.crash_spec L k hD (by omega) (by omega) hwr keep
  refine ⟨F', σ', g, hD', hO.turned 0 rfl hT, fun H hH q hq => ?_, hT.same.1⟩
  obtain ⟨i, hi⟩ := List.mem_iff_getElem?.1 hH
  exact hT.same.2 q (hO.own H (by simp [hH]) q hq).2 (hO.off (i + 1) 0 (by omega) (by simpa using hi) rfl q hq)
theorem crashS {s : IS} (h : ImS σ0 σ m d s R) (hok : s.Ok) (L k : Nat) (hL : 100000 < L) (keep : Int) :
    ∃ F' σ', evCall Tryz.prog env L (k + 3) 66 [ptr d, .int .u64 keep] σ = some (.tuple #[], σ') ∧ D.Disk σ' d F' (D.lay (D.bit keep) 0 s.S s.W) [] ∧ Owns σ0 σ' (F' :: R) ∧ (∀ H ∈ R, ∀ q ∈ H, σ'.get q = σ.get q) := by
  obtain ⟨F, hD, hO⟩ := h.disk
  obtain ⟨F', σ', g, h1, h2, h3, _⟩ := crashD hD hO hok.wl hok.wr L k hL keep
  exact ⟨F', σ', g, h1, h2, h3⟩
theorem markS {s : IS} (h : ImS σ0 σ m d s R) (L k : Nat) : evCall Tryz.prog env L (k + 1) 56 [ptr m] σ = some (.int .i64 (s.km : Nat), σ) := by
  obtain ⟨F, G, w, h1, h2, _⟩ := h.ex
  exact mark_spec h2 L k
theorem blocksS {s : IS} (h : ImS σ0 σ m d s R) (L k : Nat) : ∃ σ', evCall Tryz.prog env L (k + 1) 55 [ptr m] σ = some (.agg (strs s.bl).toArray, σ') ∧ Same σ σ' [] := by
  obtain ⟨F, G, w, h1, h2, _⟩ := h.ex
  exact blocks_spec h2 L k
theorem ImS.blen {s : IS} (h : ImS σ0 σ m d s R) : s.bl.length = 32 := by
  obtain ⟨F, G, w, h1, h2, _⟩ := h.ex
  exact h2.len
theorem ImS.kept {s : IS} (h : ImS σ0 σ m d s R) : Kept' σ0.next σ0 σ := by
  obtain ⟨F, G, w, h1, h2, h3, _⟩ := h.ex
  exact h3.kept
end

def fresh66 : List D.Sec := List.replicate 66 D.zsec
def noBlocks : List ByteArray := List.replicate 32 ⟨#[]⟩
theorem good66 : Good (rd fresh66) 0 0 noBlocks :=
  ⟨rfl, by omega, by unfold top; omega, fun _ => ⟨rfl, rfl, rfl, rfl⟩, fun h => by omega, fun h => by omega, fun h => by omega⟩
theorem new66 (L k : Nat) {σ0 σ : St} {R : List (List Nat)} (hO : Owns σ0 σ R) : ∃ d F σ', evCall Tryz.prog env L (k + 1) 8 [.int .i64 66] σ = some (ptr d, σ') ∧ D.Disk σ' d F fresh66 [] ∧ Owns σ0 σ' (F :: R) ∧ Same σ σ' [] := by
  obtain ⟨d, F, σ', g, hD, hs, hq⟩ := D.new_spec L k σ 66
  exact ⟨d, F, σ', g, hD, hO.more hs (fun q h => ⟨hq q h, hD.lt q h⟩), hs⟩

theorem ba_beq (x y : ByteArray) : (x == y) = decide (x = y) := by
  rw [beq_toListBytes, ByteArray.toList_eq, ByteArray.toList_eq]
  by_cases h : x = y
  · subst h; simp
  · rw [decide_eq_false h, beq_eq_false_iff_ne]
    exact fun e => h (by rw [← str_eta x, ← str_eta y, e])
theorem eqCells_strs {α : Type} (K : Bool → Option α) : ∀ (a b : List ByteArray), a.length = b.length → eqCells (List.replicate a.length Kd.s) (strs a) (strs b) K = K (decide (a = b))
  | [], [], _ => rfl
  | x :: a, y :: b, h => by
    have e : eqCells (List.replicate (x :: a).length Kd.s) (strs (x :: a)) (strs (y :: b)) K = eqCells (List.replicate a.length Kd.s) (strs a) (strs b) fun r => K (x == y && r) := rfl
    rw [e, eqCells_strs _ a b (by simpa using h)]
    congr 1
    rw [ba_beq]
    by_cases hx : x = y
    · subst hx
      by_cases ha : a = b
      · subst ha; simp
      · rw [decide_eq_false ha, decide_eq_false (fun e => ha (List.cons.inj e).2)]; simp
    · rw [decide_eq_false (fun e => hx (List.cons.inj e).1), decide_eq_false hx]; rfl
theorem eqCells32 {α : Type} (K : Bool → Option α) {a b : List ByteArray} (ha : a.length = 32) (hb : b.length = 32) : eqCells (List.replicate 32 Kd.s) (strs a) (strs b) K = K (decide (a = b)) := by
  rw [← ha]; exact eqCells_strs K a b (by omega)

/-! made: a list's blocks. -/
def madeUp (l : List ByteArray) (n : Nat) : List ByteArray := (List.range 32).map fun i => if i < n then l.getD i ⟨#[]⟩ else ⟨#[]⟩
def made (l : List ByteArray) : List ByteArray := madeUp l l.length
theorem madeUp_len (l : List ByteArray) (n : Nat) : (madeUp l n).length = 32 := by unfold madeUp; simp
theorem madeUp_set (l : List ByteArray) (n : Nat) (h : n < 32) : (madeUp l n).set n (l.getD n ⟨#[]⟩) = madeUp l (n + 1) := by
  apply List.ext_getElem?
  intro i
  rw [List.getElem?_set, madeUp_len]
  unfold madeUp
  rw [List.getElem?_map, List.getElem?_map]
  by_cases hi : i < 32
  · rw [List.getElem?_range hi, Option.map_some, Option.map_some]
    by_cases hin : n = i
    · subst hin; rw [if_pos rfl, if_pos hi, if_pos (by omega)]
    · rw [if_neg hin]
      by_cases h2 : i < n
      · rw [if_pos h2, if_pos (by omega)]
      · rw [if_neg h2, if_neg (by omega)]
  · rw [if_neg (by omega), List.getElem?_eq_none (by simp; omega)]
    rfl
theorem madeUp_more (l : List ByteArray) {n : Nat} (h : 32 ≤ n) : madeUp l (n + 1) = madeUp l n := by
  unfold madeUp
  apply List.map_congr_left
  intro i hi
  have := List.mem_range.1 hi
  rw [if_pos (by omega), if_pos (by omega)]
def cS (s : ByteArray) : List Value := [.string s]
end Go.AM.Bk

/-
  THE IMAGE's laws: awake, few; ImageNil.
-/
namespace Go.AM.Bk
open Go.Proofs

theorem lit32 : ([Value.string ⟨#[]⟩, Value.string ⟨#[]⟩, Value.string ⟨#[]⟩, Value.string ⟨#[]⟩, Value.string ⟨#[]⟩, Value.string ⟨#[]⟩, Value.string ⟨#[]⟩, Value.string ⟨#[]⟩, Value.string ⟨#[]⟩, Value.string ⟨#[]⟩, Value.string ⟨#[]⟩, Value.string ⟨#[]⟩, Value.string ⟨#[]⟩, Value.string ⟨#[]⟩, Value.string ⟨#[]⟩, Value.string ⟨#[]⟩, Value.string ⟨#[]⟩, Value.string ⟨#[]⟩, Value.string ⟨#[]⟩, Value.string ⟨#[]⟩, Value.string ⟨#[]⟩, Value.string ⟨#[]⟩, Value.string ⟨#[]⟩, Value.string ⟨#[]⟩, Value.string ⟨#[]⟩, Value.string ⟨#[]⟩, Value.string ⟨#[]⟩, Value.string ⟨#[]⟩, Value.string ⟨#[]⟩, Value.string ⟨#[]⟩, Value.string ⟨#[]⟩, Value.string ⟨#[]⟩] : List Value) = strs noBlocks := rfl
theorem kds32 : ([Kd.s, Kd.s, Kd.s, Kd.s, Kd.s, Kd.s, Kd.s, Kd.s, Kd.s, Kd.s, Kd.s, Kd.s, Kd.s, Kd.s, Kd.s, Kd.s, Kd.s, Kd.s, Kd.s, Kd.s, Kd.s, Kd.s, Kd.s, Kd.s, Kd.s, Kd.s, Kd.s, Kd.s, Kd.s, Kd.s, Kd.s, Kd.s] : List Kd) = List.replicate 32 Kd.s := rfl
theorem long_none : long noBlocks = false := by decide

/-- A new disk, an image on it. -/
theorem start (L k : Nat) (hL : 100000 < L) {σ0 σ : St} {R : List (List Nat)} (hO : Owns σ0 σ R) : ∃ d m σ1 σ2, evCall Tryz.prog env L (k + 10) 8 [.int .i64 66] σ = some (ptr d, σ1) ∧ evCall Tryz.prog env L (k + 10) 45 [ptr d] σ1 = some (.tuple #[ptr m, .nilIface], σ2) ∧
    ImS σ0 σ2 m d ⟨fresh66, [], 0, 0, noBlocks, none⟩ R ∧ (∀ H ∈ R, ∀ q ∈ H, σ2.get q = σ.get q) ∧ IS.Inv ⟨fresh66, [], 0, 0, noBlocks, none⟩ := by
  obtain ⟨d, F, σ1, g1, hD, hO1, hs⟩ := new66 L (k + 9) hO
  obtain ⟨m, σ2, g2, hI, hk, hinv⟩ := openGood hD hO1 (by unfold fresh66; simp) L k hL good66 (by omega)
  exact ⟨d, m, σ1, σ2, g1, g2, hI, fun H hH q hq => by rw [hk H hH q hq, hs.2 q (hO.own H hH q hq).2 (by simp)], hinv⟩
theorem same_of {σ σ' : St} (h : Kept' σ.next σ σ') : Same σ σ' [] := ⟨h.1, fun k hk _ => h.2 k hk⟩
/-! few. -/
def Reads (σ : St) (ad : Option Addr) (ls : List (Option Addr × Nat × List ByteArray)) : Prop :=
  ∀ (i : Nat) (p : Option Addr × Nat × List ByteArray), ls[i]? = some p → ∃ q, ad = some ⟨q, 0, none⟩ ∧ (∀ K : Value → Res, σ.ld q (i * 4) K = K (.slice p.1 p.2.2.length p.2.1)) ∧ ∀ (j : Nat) (s : ByteArray), p.2.2[j]? = some s → ∃ q', p.1 = some ⟨q', 0, none⟩ ∧ ∀ K : Value → Res, σ.ld q' j K = K (.string s)
/-! A nil image. -/
theorem nil16 (L k : Nat) (σ : St) : evCall Tryz.prog env L (k + 1) 56 [.pointer none] σ = some (.int .i64 0, σ) := by kernel_rfl
theorem nil25 (L k : Nat) (σ : St) : evCall Tryz.prog env L (k + 1) 107 [.pointer none] σ = some (.bool false, σ) := by kernel_rfl
theorem nil23 (L k : Nat) (σ : St) : evCall Tryz.prog env L (k + 1) 64 [.pointer none] σ = bnd (evCall Tryz.prog env L k 87 [.int .i64 0, .int .i64 11] σ) fun v σ' => some (.tuple #[.bool false, v], σ') := by kernel_rfl
end Go.AM.Bk

/-
  ImageNil.
-/
namespace Go.AM.Bk
open Go.Proofs

theorem nil22 (L k : Nat) (σ : St) (a : List Value) (n : Int) : evCall Tryz.prog env L (k + 1) 63 [.pointer none, .agg a.toArray, .int .i64 n] σ = bnd (evCall Tryz.prog env L k 87 [.int .i64 0, .int .i64 11] (σ.new (.own a 45))) fun v σ' => some (v, σ') := by kernel_rfl
theorem nil19 (L k : Nat) (σ : St) : evCall Tryz.prog env L (k + 1) 55 [.pointer none] σ = (St.put (σ.new (.own (strs noBlocks) 45)) σ.next 0 (strs noBlocks) fun v1 => St.lds v1 σ.next 0 32 fun v2 => some (Value.agg v2.toArray, v1)) := by kernel_rfl
theorem nil19_spec (L k : Nat) (σ : St) : ∃ σ', evCall Tryz.prog env L (k + 1) 55 [.pointer none] σ = some (.agg (strs noBlocks).toArray, σ') ∧ Same σ σ' [] := by
  rw [nil19, tmp_put2 σ (strs noBlocks) (strs noBlocks) 45 rfl (strs_one _), lds_all (n := 32) (get_new_same _ _) rfl]
  exact ⟨_, rfl, Same.new _ _ _⟩
theorem down (L k : Nat) (σ : St) : ∃ v σ', evCall Tryz.prog env L (k + 2) 87 [.int .i64 0, .int .i64 11] σ = some (v, σ') ∧ Err σ' v 11 0 ∧ Same σ σ' [] := by
  obtain ⟨q, σ', g, h1, h2, s⟩ := wrapi_spec L k σ 0 11 (by decide)
  exact ⟨_, σ', g, ⟨q, rfl, h1, h2⟩, s⟩

end Go.AM.Bk

/-
  Of what the image's laws' arguments say.
-/
namespace Go.AM.Bk
open Go.Proofs
theorem strOf {σ : St} {row : List Value} (h : Go.AM.Img Tryz.prog σ 9 row) : ∃ s : ByteArray, row = cS s := by
  obtain ⟨s, h1, _⟩ := Go.AM.Img.str_inv Tryz.underlying9 h
  exact ⟨s, h1⟩
end Go.AM.Bk

/-
  ImageSteps.
-/
namespace Go.AM.Bk
open Go.Proofs

/-- Blocks are being laid: so many steps are done. -/
structure Phase (s : IS) (t0 km0 : Nat) (bl0 : List ByteArray) (M : Nat) (B : List ByteArray) (i : Nat) : Prop where
  inv : s.Inv
  le : i ≤ 35
  mid : i < 35 → s.work = some (M, B, i) ∧ s.km = km0 ∧ s.bl = bl0 ∧ s.t = t0
  fin : i = 35 → s.work = none ∧ s.km = M ∧ s.bl = B ∧ s.t = t0 + 1
theorem Phase.start {s : IS} (h : s.Inv) (hw : s.work = none) {b : List ByteArray} (hb : b.length = 32) (hl : long b = false) {mark : Int} (h1 : mark ≤ top) (h2 : s.km < mark) : Phase { s with work := some (mark.toNat, b, 0) } s.t s.km s.bl mark.toNat b 0 :=
  ⟨h.begin hw hb hl h1 h2, by omega, fun _ => ⟨rfl, rfl, rfl, rfl⟩, fun h => by omega⟩
theorem Phase.step {s : IS} {t0 km0 : Nat} {bl0 : List ByteArray} {M : Nat} {B : List ByteArray} {i : Nat} (h : Phase s t0 km0 bl0 M B i) (hi : i < 35) (ht : t0 ≤ 899) : Phase (stepS s M B i) t0 km0 bl0 M B (i + 1) := by
  obtain ⟨h1, h2, h3, h4⟩ := h.mid hi
  refine ⟨h.inv.step (by omega) h1, by omega, fun h35 => ?_, fun h35 => ?_⟩
  · unfold stepS
    by_cases a : i < 32
    · rw [if_pos a]; exact ⟨rfl, h2, h3, h4⟩
    by_cases b : i = 32
    · rw [if_neg a, if_pos b, b]; exact ⟨rfl, h2, h3, h4⟩
    have c : i = 33 := by omega
    rw [if_neg a, if_neg b, if_pos c, c]; exact ⟨rfl, h2, h3, h4⟩
  · have : i = 34 := by omega
    subst this
    unfold stepS
    rw [if_neg (by omega), if_neg (by omega), if_neg (by omega)]
    exact ⟨rfl, rfl, rfl, by show s.t + 1 = t0 + 1; rw [h4]⟩

theorem step_none {σ0 σ : St} {m d : Nat} {s : IS} {R : List (List Nat)} (h : ImS σ0 σ m d s R) (hw : s.work = none) (L k : Nat) : ∃ q σ', evCall Tryz.prog env L (k + 3) 64 [ptr m] σ = some (.tuple #[.bool false, .iface 162 (ptr q)], σ') ∧ Err σ' (.iface 162 (ptr q)) 9 0 ∧ σ.next ≤ q ∧ q < σ'.next ∧ Same σ σ' [] := by
  rw [f64_eq, busyI_spec h L (k + 1), bnd_some, asB_b, hw, f87_eq, f42_eq, eqNil_iface, br_false]
  have hb : ∀ K : Res, eqErr (.iface 70 (.int .i64 9)) 70 .i64 0 (fun v2 => br v2 (some (Value.nilIface, σ)) K) = K := by
    intro K; simp [eqErr]
  rw [show (none : Option (Nat × List ByteArray × Nat)).isSome = false from rfl, not_false, br_true, hb, need_true, need_of (show oneCell (Value.iface 70 (Value.int .i64 9)) = true from rfl), need_true, bnd_some, bnd_some]
  exact ⟨σ.next, _, rfl, ⟨σ.next, rfl, get_new_same _ _, by simp⟩, Nat.le_refl _, by simp, Same.new _ _ _⟩

section
variable {σ0 : St} {m d r : Nat} {B : List ByteArray} {M : Nat}
end

end Go.AM.Bk

/-
  THE STAGE's calls, one by one.
-/
namespace Go.AM.Bk.S
open Go.Proofs

structure Rec where
  seq : Int
  kind : Int
  block : Int
  data : ByteArray
  number : Int
def c5 (r : Rec) : List Value := [.int .i64 r.seq, .int .i64 r.kind, .int .i64 r.block, .string r.data, .int .i64 r.number]
theorem c5_len (r : Rec) : (c5 r).length = 5 := rfl
theorem c5_one (r : Rec) : (c5 r).all oneCell = true := rfl
def Rec.agg (r : Rec) : Value := .agg [.int .i64 r.seq, .int .i64 r.kind, .int .i64 r.block, .string r.data, .int .i64 r.number].toArray

theorem num_spec (L k : Nat) (σ : St) (a b : Int) : evCall Tryz.prog env L (k + 1) 130 [.int .i64 a, .int .i64 b] σ = some (.bool (decide (a ≥ b) && decide (a ≤ 1152921504606846975)), σ) := by
  rw [f130_eq]
  by_cases h : a ≥ b
  · rw [decide_eq_true h]; rfl
  · rw [decide_eq_false h]; rfl

/-- Can a record be? Whatever is answered, nothing turns. -/
theorem right_spec (L k : Nat) (σ : St) (r : Rec) : Ends (fun v σ' => (∃ b, v = .bool b) ∧ Same σ σ' []) (evCall Tryz.prog env L (k + 2) 101 [r.agg] σ) := by
  unfold Rec.agg
  rw [f101_eq]
  generalize hσ1 : σ.new (Blk.own [Value.int IntKind.i64 r.seq, Value.int IntKind.i64 r.kind, Value.int IntKind.i64 r.block, Value.string r.data, Value.int IntKind.i64 r.number] 58) = σ1
  have hn : σ1.get σ.next = some (Blk.own [Value.int IntKind.i64 r.seq, Value.int IntKind.i64 r.kind, Value.int IntKind.i64 r.block, Value.string r.data, Value.int IntKind.i64 r.number] 58) := by rw [← hσ1, get_new_same]
  have hs1 : Same σ σ1 [] := by rw [← hσ1]; exact Same.new _ _ _
  have hx1 : σ1.next = σ.next + 1 := by rw [← hσ1]; rfl
  have hput := fun K => put_int hn 4 .i64 0 (by simp) K
  generalize hσ2 : σ1.set σ.next (.own (List.set [Value.int IntKind.i64 r.seq, Value.int IntKind.i64 r.kind, Value.int IntKind.i64 r.block, Value.string r.data, Value.int IntKind.i64 r.number] 4 (.int .i64 0)) 58) = σ2 at hput
  have hn2 : σ2.get σ.next = some (Blk.own [Value.int IntKind.i64 r.seq, Value.int IntKind.i64 r.kind, Value.int IntKind.i64 r.block, Value.string r.data, Value.int IntKind.i64 0] 58) := by rw [← hσ2, get_set_same]; rfl
  have hs2 : Same σ σ2 [] := ⟨by rw [← hσ2]; simp [hx1], fun k hk _ => by rw [← hσ2, get_set (by omega), hs1.2 k hk (by simp)]⟩
  have a0 := fun K => ld_at hn 0 _ rfl K
  have a1 := fun K => ld_at hn 1 _ rfl K
  have a2 := fun K => ld_at hn 2 _ rfl K
  have a3 := fun K => ld_at hn 3 _ rfl K
  have a4 := fun K => ld_at hn 4 _ rfl K
  have b1 := fun K => ld_at hn2 1 _ rfl K
  have b2 := fun K => ld_at hn2 2 _ rfl K
  have b3 := fun K => ld_at hn2 3 _ rfl K
  have b4 := fun K => ld_at hn2 4 _ rfl K
  have l1 : ∀ b, Ends (fun v σ' => (∃ b, v = Value.bool b) ∧ Same σ σ' []) (some (.bool b, σ1)) := fun b => .leaf ⟨⟨b, rfl⟩, hs1⟩
  have l2 : ∀ b, Ends (fun v σ' => (∃ b, v = Value.bool b) ∧ Same σ σ' []) (some (.bool b, σ2)) := fun b => .leaf ⟨⟨b, rfl⟩, hs2⟩
  simp only [a0, a1, a2, a3, a4, b1, b2, b3, b4, asI_i, asS_s, num_spec, bnd_some, asB_b, hput]
  repeat' first | exact l1 _ | exact l2 _ | refine Ends.br (fun _ => ?_) (fun _ => ?_)

/-- A marker can be. -/
theorem right_mark (L k : Nat) (σ : St) (s n : Int) (hs : 1 ≤ s) (hs' : s ≤ 1152921504606846975) (hn : 1 ≤ n) (hn' : n ≤ 1152921504606846975) :
    Ends (fun v σ' => v = .bool true ∧ Same σ σ' []) (evCall Tryz.prog env L (k + 2) 101 [Rec.agg ⟨s, 2, 0, ⟨#[]⟩, n⟩] σ) := by
  unfold Rec.agg
  rw [f101_eq]
  generalize hσ1 : σ.new (Blk.own [Value.int IntKind.i64 s, Value.int IntKind.i64 2, Value.int IntKind.i64 0, Value.string ⟨#[]⟩, Value.int IntKind.i64 n] 58) = σ1
  have hn : σ1.get σ.next = some (Blk.own [Value.int IntKind.i64 s, Value.int IntKind.i64 2, Value.int IntKind.i64 0, Value.string ⟨#[]⟩, Value.int IntKind.i64 n] 58) := by rw [← hσ1, get_new_same]
  have hs1 : Same σ σ1 [] := by rw [← hσ1]; exact Same.new _ _ _
  have hx1 : σ1.next = σ.next + 1 := by rw [← hσ1]; rfl
  have hput := fun K => put_int hn 4 .i64 0 (by simp) K
  generalize hσ2 : σ1.set σ.next (.own (List.set [Value.int IntKind.i64 s, Value.int IntKind.i64 2, Value.int IntKind.i64 0, Value.string ⟨#[]⟩, Value.int IntKind.i64 n] 4 (.int .i64 0)) 58) = σ2 at hput
  have hn2 : σ2.get σ.next = some (Blk.own [Value.int IntKind.i64 s, Value.int IntKind.i64 2, Value.int IntKind.i64 0, Value.string ⟨#[]⟩, Value.int IntKind.i64 0] 58) := by rw [← hσ2, get_set_same]; rfl
  have hs2 : Same σ σ2 [] := ⟨by rw [← hσ2]; simp [hx1], fun k hk _ => by rw [← hσ2, get_set (by omega), hs1.2 k hk (by simp)]⟩
  have a0 := fun K => ld_at hn 0 _ rfl K
  have a1 := fun K => ld_at hn 1 _ rfl K
  have a3 := fun K => ld_at hn 3 _ rfl K
  have a4 := fun K => ld_at hn 4 _ rfl K
  have b1 := fun K => ld_at hn2 1 _ rfl K
  have b2 := fun K => ld_at hn2 2 _ rfl K
  have b3 := fun K => ld_at hn2 3 _ rfl K
  have b4 := fun K => ld_at hn2 4 _ rfl K
  have t1 : (decide (s ≥ 1) && decide (s ≤ 1152921504606846975)) = true := by simp; omega
  have t2 : (decide (n ≥ 1) && decide (n ≤ 1152921504606846975)) = true := by simp; omega
  have t3 : ((2 : Int) == 2) = true := rfl
  have t4 : (ByteArray.toList ⟨#[]⟩ == ByteArray.toList ⟨#[]⟩) = true := by simp
  have t5 : decide ((0 : Int) ≥ 0) = true := rfl
  have t6 : decide ((0 : Int) < 8) = true := rfl
  have t7 : decide (((ByteArray.size ⟨#[]⟩ : Nat) : Int) ≤ 16) = true := rfl
  have t8 : ((0 : Int) == 0) = true := rfl
  have t9 : ((2 : Int) == 1) = false := rfl
  simp only [a0, a1, a3, a4, b1, b2, b3, b4, asI_i, asS_s, num_spec, bnd_some, asB_b, hput, t1, t2, t3, t4, t5, t6, t7, t8, t9, br_true, br_false]
  exact .leaf ⟨rfl, hs2⟩

/-- A stage: what it holds, of which blocks. -/
structure Stg (σ : St) (a : Nat) (F : List Nat) (first : Int) (rs : List Rec) (fast : Nat) (mark : Int) : Prop where
  ex : ∃ qs ad z, F = a :: qs ∧ a ∉ qs ∧ σ.get a = some (.own [.int .i64 first, .slice ad rs.length z, .int .i64 fast, .int .i64 mark] 175) ∧ Row c5 5 58 σ ad z qs rs
  lt : ∀ q ∈ F, q < σ.next
theorem Stg.same {σ σ' : St} {a : Nat} {F S : List Nat} {first mark : Int} {rs : List Rec} {fast : Nat} (h : Stg σ a F first rs fast mark) (hs : Same σ σ' S) (hF : ∀ q ∈ F, q ∉ S) : Stg σ' a F first rs fast mark := by
  obtain ⟨qs, ad, z, rfl, h1, h2, h3⟩ := h.ex
  exact ⟨⟨qs, ad, z, rfl, h1, by rw [hs.2 a (h.lt a (by simp)) (hF a (by simp))]; exact h2, h3.same hs (fun q hq => hF q (by simp [hq]))⟩, fun q hq => by have := h.lt q hq; have := hs.1; omega⟩
theorem Stg.idle {σ σ' : St} {a : Nat} {F : List Nat} {first mark : Int} {rs : List Rec} {fast : Nat} (h : Stg σ a F first rs fast mark) (hs : Same σ σ' []) : Stg σ' a F first rs fast mark := h.same hs (by simp)

theorem new_spec (L k : Nat) (σ : St) : ∃ σ', evCall Tryz.prog env L (k + 1) 47 [.int .i64 1] σ = some (.pointer (some ⟨σ.next, 0, none⟩), σ') ∧ Stg σ' σ.next [σ.next] 1 [] 0 0 ∧ Same σ σ' [] := by
  rw [f47_eq, show mx (1 : Int) (mn 1 1152921504606846975) = 1 from rfl]
  exact ⟨_, rfl, ⟨⟨[], none, 0, rfl, by simp, by rw [get_new_same]; rfl, ⟨by simp, .inl ⟨rfl, rfl, rfl, rfl⟩⟩⟩, by simp⟩, Same.new _ _ _⟩

section
variable {σ : St} {a : Nat} {F : List Nat} {first mark : Int} {rs : List Rec} {fast : Nat} (h : Stg σ a F first rs fast mark) (L k : Nat)
include h
theorem last_spec (h0 : 1 ≤ first) (h1 : first ≤ 1152921504607846976) (hl : rs.length ≤ 100000) (hf : fast ≤ rs.length) :
    evCall Tryz.prog env L (k + 1) 100 [.pointer (some ⟨a, 0, none⟩)] σ = some (.tuple #[.int .i64 (first + rs.length - 1), .int .i64 (first + fast - 1)], σ) := by
  obtain ⟨qs, ad, z, rfl, hne, hg, hrow⟩ := h.ex
  rw [f100_eq]
  simp only [ld_at hg 0 _ rfl, ld_at hg 1 _ rfl, ld_at hg 2 _ rfl, asI_i, asSl_s]
  rw [wrap_in (first + (rs.length : Int)) (by omega) (by omega), wrap_in (first + (fast : Int)) (by omega) (by omega), wrap_in _ (by omega) (by omega), wrap_in _ (by omega) (by omega)]

theorem dropped_spec (h0 : 1 ≤ first) (h1 : first ≤ 1152921504607846976) :
    evCall Tryz.prog env L (k + 1) 69 [.pointer (some ⟨a, 0, none⟩)] σ = some (.tuple #[.int .i64 (first - 1), .int .i64 mark], σ) := by
  obtain ⟨qs, ad, z, rfl, hne, hg, hrow⟩ := h.ex
  rw [f69_eq]
  simp only [ld_at hg 0 _ rfl, ld_at hg 3 _ rfl, asI_i]
  rw [wrap_in _ (by omega) (by omega)]

theorem flush_spec : ∃ σ', evCall Tryz.prog env L (k + 1) 60 [.pointer (some ⟨a, 0, none⟩)] σ = some (.tuple #[], σ') ∧ Stg σ' a F first rs rs.length mark ∧ Turn σ σ' F F := by
  obtain ⟨qs, ad, z, rfl, hne, hg, hrow⟩ := h.ex
  have hlt := h.lt
  rw [f60_eq]
  simp only [ld_at hg 1 _ rfl, asSl_s, put_int hg 2 _ _ (by simp)]
  have hs := Same.set σ a (.own (List.set [Value.int .i64 first, .slice ad rs.length z, .int .i64 fast, .int .i64 mark] 2 (.int .i64 rs.length)) 175)
  exact ⟨_, rfl, ⟨⟨qs, ad, z, rfl, hne, by rw [get_set_same]; rfl, hrow.same hs (fun q hq => by simp; rintro rfl; exact hne hq)⟩, by simpa using hlt⟩, hs.mono (by simp), fun q hq => ⟨.inl hq, by simpa using hlt q hq⟩⟩

theorem cut_spec : ∃ σ', evCall Tryz.prog env L (k + 1) 68 [.pointer (some ⟨a, 0, none⟩)] σ = some (.int .i64 rs.length, σ') ∧ Stg σ' a [a] first [] 0 mark ∧ Turn σ σ' F [a] := by
  obtain ⟨qs, ad, z, rfl, hne, hg, hrow⟩ := h.ex
  have hlt := h.lt
  rw [f68_eq]
  simp only [ld_at hg 1 _ rfl, asSl_s, put_sl hg 1 _ _ _ (by simp)]
  generalize hσ1 : σ.set a (.own (List.set [Value.int .i64 first, .slice ad rs.length z, .int .i64 fast, .int .i64 mark] 1 (.slice none 0 0)) 175) = σ1
  have hg1 : σ1.get a = some (.own [Value.int .i64 first, .slice none 0 0, .int .i64 fast, .int .i64 mark] 175) := by rw [← hσ1, get_set_same]; rfl
  have hs1 : Same σ σ1 [a] := by rw [← hσ1]; exact Same.set _ _ _
  have hal := hlt a (by simp)
  have h1n := hs1.1
  rw [put_int hg1 2 _ _ (by simp)]
  have hs2 := Same.set σ1 a (.own (List.set [Value.int .i64 first, .slice none 0 0, .int .i64 fast, .int .i64 mark] 2 (.int .i64 0)) 175)
  exact ⟨_, rfl, ⟨⟨[], none, 0, rfl, by simp, by rw [get_set_same]; rfl, Row.nil _ _ _ _⟩, by simp; omega⟩, (hs1.trans hs2).mono (by simp), fun q hq => ⟨.inl (by simp at hq; simp [hq]), by simp at hq; subst hq; simp; omega⟩⟩

/-- A record is taken, or it isn't; what is there already stays. -/
theorem take_gen (h0 : 1 ≤ first) (h1 : first ≤ 1152921504607846976) (hl : rs.length ≤ 100000) (hf : fast ≤ rs.length) (r : Rec) (P : Bool → Prop) (hP : ∀ σ, Ends (fun v σ' => (∃ b, v = .bool b ∧ P b) ∧ Same σ σ' []) (evCall Tryz.prog env L (k + 2) 101 [r.agg] σ)) :
    Ends (fun v σ' => ∃ rs' F', v = .int .i64 (first + rs'.length - 1) ∧ Stg σ' a F' first rs' fast mark ∧ Turn σ σ' F F' ∧ ((rs' = rs ∧ (r.seq ≠ first + rs.length ∨ P false)) ∨ (r.seq = first + rs.length ∧ P true ∧ rs' = rs ++ [r]))) (evCall Tryz.prog env L (k + 3) 59 [.pointer (some ⟨a, 0, none⟩), r.agg] σ) := by
  obtain ⟨qs, ad, z, rfl, hne, hg, hrow⟩ := h.ex
  have hlt := h.lt
  have hal := hlt a (by simp)
  unfold Rec.agg
  rw [f59_eq]
  generalize hσ1 : σ.new (Blk.own [Value.int IntKind.i64 r.seq, Value.int IntKind.i64 r.kind, Value.int IntKind.i64 r.block, Value.string r.data, Value.int IntKind.i64 r.number] 58) = σ1
  have hn1 : σ1.get σ.next = some (Blk.own [Value.int IntKind.i64 r.seq, Value.int IntKind.i64 r.kind, Value.int IntKind.i64 r.block, Value.string r.data, Value.int IntKind.i64 r.number] 58) := by rw [← hσ1, get_new_same]
  have hs1 : Same σ σ1 [] := by rw [← hσ1]; exact Same.new _ _ _
  have hx1 : σ1.next = σ.next + 1 := by rw [← hσ1]; rfl
  have h1s := h.idle hs1
  rw [last_spec h1s L (k + 1) h0 h1 hl hf, bnd_some, asT_t, show ∀ x y : Value, (#[x, y] : Array Value).toList = [x, y] from fun _ _ => rfl, uncons_c, asI_i, uncons_c, asI_i, endl_n, ld_at hn1 0 _ rfl, asI_i, wrap_in _ (by omega) (by omega)]
  by_cases hq : r.seq = first + rs.length - 1 + 1
  · rw [show (r.seq != first + (rs.length : Int) - 1 + 1) = false by simpa using hq, br_false, lds_all (n := 5) hn1 rfl]
    rw [uncons_c, asI_i, uncons_c, asI_i, uncons_c, asI_i, uncons_c, asS_s, uncons_c, asI_i, endl_n]
    obtain ⟨v, σ2, g1, ⟨b, rfl, hPb⟩, hs2⟩ := hP σ1
    rw [show Value.agg #[Value.int .i64 r.seq, .int .i64 r.kind, .int .i64 r.block, .string r.data, .int .i64 r.number] = r.agg from rfl, g1, bnd_some, asB_b]
    have hs12 := hs1.trans hs2
    have h2n := hs2.1
    have hn2 : σ2.get σ.next = some (Blk.own [Value.int IntKind.i64 r.seq, Value.int IntKind.i64 r.kind, Value.int IntKind.i64 r.block, Value.string r.data, Value.int IntKind.i64 r.number] 58) := by rw [hs2.2 _ (by omega) (by simp)]; exact hn1
    have hg2 : σ2.get a = _ := (hs12.2 a hal (by simp)).trans hg
    cases b with
    | false =>
      rw [show (!false) = true from rfl, br_true]
      exact .leaf ⟨rs, _, rfl, h.idle hs12, .idle hs12 hlt, .inl ⟨rfl, .inr hPb⟩⟩
    | true =>
      rw [show (!true) = false from rfl, br_false, ld_at hg2 1 _ rfl, asSl_s, lds_all (n := 5) hn2 rfl, uncons_c, asI_i, uncons_c, asI_i, uncons_c, asI_i, uncons_c, asS_s, uncons_c, asI_i, endl_n]
      generalize hσ3 : σ2.new (Blk.own [Value.int IntKind.i64 r.seq, Value.int IntKind.i64 r.kind, Value.int IntKind.i64 r.block, Value.string r.data, Value.int IntKind.i64 r.number] 58) = σ3
      have hn3 : σ3.get σ2.next = some (Blk.own [Value.int IntKind.i64 r.seq, Value.int IntKind.i64 r.kind, Value.int IntKind.i64 r.block, Value.string r.data, Value.int IntKind.i64 r.number] 58) := by rw [← hσ3, get_new_same]
      have hs3 : Same σ2 σ3 [] := by rw [← hσ3]; exact Same.new _ _ _
      have hs13 := hs12.trans hs3
      have h3n := hs13.1
      have h3n' := hs3.1
      have hg3 : σ3.get a = _ := (hs13.2 a hal (by simp)).trans hg
      have hrow3 := hrow.same hs13 (fun _ _ => by simp)
      rw [ld_at hg3 1 _ rfl, asSl_s, chk_same, row_all (n := 5) hn3 rfl (by omega)]
      obtain ⟨ad', z', qs', σ4, hgrow, hrow4, hs4, hq4⟩ := grow_row (by_ := 48) hrow3 c5_len c5_one (by omega) [r] (c5 r) (by simp) 1 rfl (by unfold roomTop; omega) (by unfold sizeTop; omega)
      have hgr := hgrow
      rw [show c5 r = [Value.int IntKind.i64 r.seq, Value.int IntKind.i64 r.kind, Value.int IntKind.i64 r.block, Value.string r.data, Value.int IntKind.i64 r.number] from rfl] at hgr
      rw [hgr]
      have hg4 : σ4.get a = _ := (hs4.2 a (by omega) hne).trans hg3
      have hnq : σ.next ∉ qs := fun hq => by have := hlt _ (List.mem_cons_of_mem _ hq); omega
      have hn4 : σ4.get σ.next = some (Blk.own [Value.int IntKind.i64 r.seq, Value.int IntKind.i64 r.kind, Value.int IntKind.i64 r.block, Value.string r.data, Value.int IntKind.i64 r.number] 58) := by rw [hs4.2 _ (by omega) hnq, hs3.2 _ (by omega) (by simp)]; exact hn2
      have h4n := hs4.1
      rw [put_sl hg4 1 _ _ _ (by simp)]
      have hs5 := Same.set σ4 a (.own (List.set [Value.int .i64 first, .slice ad rs.length z, .int .i64 fast, .int .i64 mark] 1 (.slice ad' (rs.length + 1) z')) 175)
      have hg5 : (σ4.set a (.own (List.set [Value.int .i64 first, .slice ad rs.length z, .int .i64 fast, .int .i64 mark] 1 (.slice ad' (rs.length + 1) z')) 175)).get a = some (.own [Value.int .i64 first, .slice ad' (rs ++ [r]).length z', .int .i64 fast, .int .i64 mark] 175) := by rw [get_set_same, List.length_append]; rfl
      generalize σ4.set a (.own (List.set [Value.int .i64 first, .slice ad rs.length z, .int .i64 fast, .int .i64 mark] 1 (.slice ad' (rs.length + 1) z')) 175) = σ5 at hs5 hg5
      have h5n := hs5.1
      have hn5 : σ5.get σ.next = _ := (hs5.2 _ (by omega) (by simp; omega)).trans hn4
      have hne' : a ∉ qs' := fun hx => by
        rcases hq4 a hx with hx | hx
        · exact hne hx
        · omega
      rw [ld_at hn5 0 _ rfl, asI_i]
      refine .leaf ⟨rs ++ [r], a :: qs', by simp; omega, ⟨⟨qs', ad', z', rfl, hne', hg5, hrow4.same hs5 (fun q hq => by simp; rintro rfl; exact hne' hq)⟩, fun q hq => ?_⟩, ⟨⟨by omega, fun j hj hS => ?_⟩, fun q hq => ?_⟩, .inr ⟨by omega, hPb, rfl⟩⟩
      · rcases List.mem_cons.1 hq with rfl | hq
        · omega
        · have := hrow4.lt q hq; omega
      · simp only [List.mem_cons, not_or] at hS
        rw [hs5.2 j (by omega) (by simp; exact hS.1), hs4.2 j (by omega) hS.2, hs13.2 j hj (by simp)]
      · rcases List.mem_cons.1 hq with rfl | hq
        · exact ⟨.inl (by simp), by omega⟩
        · refine ⟨?_, by have := hrow4.lt q hq; omega⟩
          rcases hq4 q hq with hq | hq
          · exact .inl (by simp [hq])
          · exact .inr (by omega)
  · rw [show (r.seq != first + (rs.length : Int) - 1 + 1) = true by simpa using hq, br_true]
    exact .leaf ⟨rs, _, rfl, h.idle hs1, .idle hs1 hlt, .inl ⟨rfl, .inl (by omega)⟩⟩
theorem take_spec (h0 : 1 ≤ first) (h1 : first ≤ 1152921504607846976) (hl : rs.length ≤ 100000) (hf : fast ≤ rs.length) (r : Rec) :
    Ends (fun v σ' => ∃ rs' F', v = .int .i64 (first + rs'.length - 1) ∧ Stg σ' a F' first rs' fast mark ∧ Turn σ σ' F F' ∧ ((rs' = rs) ∨ (r.seq = first + rs.length ∧ rs' = rs ++ [r]))) (evCall Tryz.prog env L (k + 3) 59 [.pointer (some ⟨a, 0, none⟩), r.agg] σ) := by
  obtain ⟨v, σ', g1, rs', F', e1, e2, e3, e4⟩ := take_gen h L k h0 h1 hl hf r (fun _ => True) (fun σ => by
    obtain ⟨v, σ', g1, ⟨b, e⟩, e2⟩ := right_spec L k σ r
    exact ⟨v, σ', g1, ⟨b, e, trivial⟩, e2⟩)
  exact ⟨v, σ', g1, rs', F', e1, e2, e3, e4.imp And.left (fun h => ⟨h.1, h.2.2⟩)⟩
/-- A marker of the next number is. -/
theorem take_mark (h0 : 1 ≤ first) (h1 : first ≤ 100000) (hl : rs.length ≤ 100000) (hf : fast ≤ rs.length) (n : Int) (hn : 1 ≤ n) (hn' : n ≤ 1152921504606846975) :
    Ends (fun v σ' => ∃ F', v = .int .i64 (first + rs.length) ∧ Stg σ' a F' first (rs ++ [⟨first + rs.length, 2, 0, ⟨#[]⟩, n⟩]) fast mark ∧ Turn σ σ' F F') (evCall Tryz.prog env L (k + 3) 59 [.pointer (some ⟨a, 0, none⟩), Rec.agg ⟨first + rs.length, 2, 0, ⟨#[]⟩, n⟩] σ) := by
  obtain ⟨v, σ', g1, rs', F', e1, e2, e3, e4⟩ := take_gen h L k h0 (by omega) hl hf ⟨first + rs.length, 2, 0, ⟨#[]⟩, n⟩ (fun b => b = true) (fun σ => by
    obtain ⟨v, σ', g1, e, e2⟩ := right_mark L k σ (first + rs.length) n (by omega) (by omega) hn hn'
    exact ⟨v, σ', g1, ⟨true, e, rfl⟩, e2⟩)
  rcases e4 with ⟨_, h | h⟩ | ⟨_, _, rfl⟩
  · exact absurd rfl h
  · exact absurd h (by decide)
  · exact ⟨v, σ', g1, F', by rw [e1]; simp; omega, e2, e3⟩
end
end Go.AM.Bk.S

/-
  THE STAGE, more: its markers; what a script puts there.
-/
namespace Go.AM.Bk.S
open Go.Proofs

def marksOf (l : List Rec) : List Int := l.filterMap fun r => if r.kind = 2 then some r.number else none
theorem marksOf_snoc (l : List Rec) (r : Rec) : marksOf (l ++ [r]) = if r.kind = 2 then marksOf l ++ [r.number] else marksOf l := by
  unfold marksOf
  rw [List.filterMap_append]
  by_cases h : r.kind = 2 <;> simp [h]
theorem marksOf_len (l : List Rec) : (marksOf l).length ≤ l.length := List.length_filterMap_le _ _

theorem marks_loop (L k : Nat) {σs : St} {rl : List Rec} {ad : Option Addr} {z : Nat} {qs : List Nat} (hrl : rl.length ≤ 100000) (hqs : ∀ q ∈ qs, q < σs.next) : ∀ (n i : Nat) (σ : St) (adO : Option Addr) (zO : Nat) (qO : List Nat),
    i ≤ rl.length → rl.length - i < n → Row c5 5 58 σ ad z qs rl → Row c1 1 3 σ adO zO qO (marksOf (rl.take i)) → Same σs σ [] → (∀ q ∈ qO, σs.next ≤ q) →
    Ends (fun v σ' => ∃ adO zO qO, v = .slice adO (marksOf rl).length zO ∧ Row c1 1 3 σ' adO zO qO (marksOf rl) ∧ Same σs σ' [] ∧ ∀ q ∈ qO, σs.next ≤ q)
      (lpAt Tryz.prog env L k 57 [true, true, false, true] [] n [(3, .slice adO (marksOf (rl.take i)).length zO), (7, .slice ad rl.length z), (8, .int .i64 rl.length), (9, .int .i64 i)] σ)
  | 0, i, σ, adO, zO, qO, _, h, _, _, _, _ => by omega
  | n + 1, i, σ, adO, zO, qO, hi, h, hR, hO, hs, hq => by
    rw [f57_l3]
    by_cases hie : i = rl.length
    · rw [decide_eq_false (by omega), br_false]
      subst hie
      rw [List.take_length] at hO ⊢
      exact .leaf ⟨adO, zO, qO, rfl, hO, hs, hq⟩
    · have hget : rl[i]? = some rl[i] := List.getElem?_eq_getElem (by omega)
      obtain ⟨q, e, hat⟩ := hR.lds c5_len hget
      have htk : rl.take (i + 1) = rl.take i ++ [rl[i]] := by rw [List.take_add_one, hget]; rfl
      generalize rl[i] = r at hat htk
      obtain ⟨σ1, p1, p2, p3, p4⟩ := tmp_put σ [Value.int IntKind.i64 0, Value.int IntKind.i64 0, Value.int IntKind.i64 0, Value.string ⟨#[]⟩, Value.int IntKind.i64 0] [.int .i64 r.seq, .int .i64 r.kind, .int .i64 r.block, .string r.data, .int .i64 r.number] 58 rfl rfl
      rw [decide_eq_true (by omega), br_true, need_of (by simp [inRange]; omega), e, adr_some, hat _ (by simp), show c5 r = [.int .i64 r.seq, .int .i64 r.kind, .int .i64 r.block, .string r.data, .int .i64 r.number] from rfl, uncons_c, asI_i, uncons_c, asI_i, uncons_c, asI_i, uncons_c, asS_s, uncons_c, asI_i, endl_n, p1, ld_at p2 1 _ rfl, asI_i, ← e]
      have hw : IntKind.wrap .i64 ((i : Int) + 1) = ((i + 1 : Nat) : Int) := by rw [wrap_in _ (by omega) (by omega)]; omega
      have hs1 := hs.trans p3
      have hR1 : Row c5 5 58 σ1 ad z qs rl := hR.same p3 (by simp)
      have hO1 : Row c1 1 3 σ1 adO zO qO (marksOf (rl.take i)) := hO.same p3 (by simp)
      by_cases hk : r.kind = 2
      · rw [show (r.kind == 2) = true by simpa using hk, br_true, ld_at p2 4 _ rfl, asI_i]
        have hsn := marksOf_snoc (rl.take i) r
        rw [if_pos hk, ← htk] at hsn
        generalize hσ2 : σ1.new (Blk.own [Value.int IntKind.i64 r.number] 3) = σ2
        have hnew : σ2.get σ1.next = some (Blk.own [Value.int IntKind.i64 r.number] 3) := by rw [← hσ2, get_new_same]
        have hs2 : Same σ1 σ2 [] := by rw [← hσ2]; exact Same.new _ _ _
        have hO2 := hO1.same hs2 (by simp)
        have hR2 := hR1.same hs2 (by simp)
        have hml := marksOf_len (rl.take i)
        rw [List.length_take] at hml
        obtain ⟨ad', z', q', σ3, hgrow, hO3, hs3, hq3⟩ := grow_row (by_ := 8) hO2 c1_len c1_one (by omega) [r.number] [Value.int .i64 r.number] rfl 1 rfl (by unfold roomTop; omega) (by unfold sizeTop; omega)
        have hsn' : Same σs σ2 [] := hs1.trans hs2
        rw [row_one hnew, hgrow, hw]
        have hlen : (marksOf (rl.take i)).length + 1 = (marksOf (rl.take (i + 1))).length := by rw [hsn]; simp
        rw [hlen]
        rw [← hsn] at hO3
        have hR3 : Row c5 5 58 σ3 ad z qs rl := hR2.same hs3 (fun q h1 h2 => by have := hqs q h1; have := hq q h2; omega)
        exact marks_loop L k hrl hqs n (i + 1) σ3 ad' z' q' (by omega) (by omega) hR3 hO3 (hsn'.fresh hs3 (fun x hx => .inr (hq x hx))) (fun x hx => by
          rcases hq3 x hx with h | h
          · exact hq x h
          · have := hsn'.1; omega)
      · rw [show (r.kind == 2) = false by simpa using hk, br_false, hw]
        have hsn := marksOf_snoc (rl.take i) r
        rw [if_neg hk, ← htk] at hsn
        rw [← hsn] at hO1 ⊢
        exact marks_loop L k hrl hqs n (i + 1) σ1 adO zO qO (by omega) (by omega) hR1 hO1 hs1 hq

section
variable {σ : St} {a : Nat} {F : List Nat} {first mark : Int} {rs : List Rec} {fast : Nat} (h : Stg σ a F first rs fast mark) (L k : Nat)
include h
theorem safe_spec (hl : rs.length ≤ 100000) (hf : fast ≤ rs.length) : ∃ ad z qs, evCall Tryz.prog env L (k + 1) 99 [.pointer (some ⟨a, 0, none⟩)] σ = some (.slice ad (rs.take fast).length z, σ) ∧ Row c5 5 58 σ ad z qs (rs.take fast) ∧ ∀ q ∈ qs, q ∈ F := by
  obtain ⟨qs, ad, z, rfl, hne, hg, hrow⟩ := h.ex
  rw [f99_eq, ld_at hg 1 _ rfl, asSl_s, ld_at hg 2 _ rfl, asI_i, need_of (by rcases hrow.z with e | e <;> rw [e] <;> rfl), need_of (by simp [inRange]; omega), hrow.sub0]
  refine ⟨ad, z, qs, ?_, hrow.take fast, fun q hq => by simp [hq]⟩
  rw [List.length_take, Nat.min_eq_left hf]; rfl

theorem marks_spec (hL : rs.length < L) (hl : rs.length ≤ 100000) (hf : fast ≤ rs.length) :
    Ends (fun v σ' => ∃ adO zO qO, v = .slice adO (marksOf (rs.take fast)).length zO ∧ Row c1 1 3 σ' adO zO qO (marksOf (rs.take fast)) ∧ Same σ σ' [] ∧ ∀ q ∈ qO, σ.next ≤ q) (evCall Tryz.prog env L (k + 2) 57 [.pointer (some ⟨a, 0, none⟩)] σ) := by
  obtain ⟨ad, z, qs, g1, hrow, hq⟩ := safe_spec h L k hl hf
  rw [f57_eq, g1, bnd_some, asSl_s]
  have htl : (rs.take fast).length ≤ rs.length := by rw [List.length_take]; omega
  exact marks_loop L (k + 1) (by omega) (fun q hq' => h.lt q (hq q hq')) L 0 σ none 0 [] (by omega) (by omega) hrow (Row.nil _ _ _ _) (Same.refl _ _) (by simp)
end

end Go.AM.Bk.S

/-
  DOOR OF stage: errors, and what fault.Code and fault.First answer of them.
-/
namespace Go.AM.Bk.S
open Go.Proofs

/-- An error of the link's, with its number and its place. -/
def Err (σ : St) (v : Value) (c at_ : Int) : Prop := ∃ q, v = .iface 162 (.pointer (some ⟨q, 0, none⟩)) ∧ σ.get q = some (.own [.string ⟨#[115, 116, 97, 103, 101]⟩, .int .i64 at_, .iface 70 (.int .i64 c)] 164) ∧ q < σ.next

theorem Err.nil {σ : St} {v : Value} {c a : Int} (h : Err σ v c a) {α : Type} (K : Bool → Option α) : eqNil v K = K false := by
  obtain ⟨q, rfl, _⟩ := h
  rfl
theorem Err.same {σ σ' : St} {v : Value} {c a : Int} {S : List Nat} (h : Err σ v c a) (hs : Same σ σ' S) (hS : S = [] := by rfl) : Err σ' v c a := by
  subst hS
  obtain ⟨q, e, g, l⟩ := h
  exact ⟨q, e, by rw [hs.2 q l (by simp)]; exact g, by have := hs.1; omega⟩

def cp (q : Nat) : List Value := [.pointer (some ⟨q, 0, none⟩)]

end Go.AM.Bk.S

/-
  THE STAGE, more: records up to a marker; what is dropped.
-/
namespace Go.AM.Bk.S
open Go.Proofs

def Hit (mark : Int) (r : Rec) : Prop := r.kind = 2 ∧ r.number = mark
instance (mark : Int) (r : Rec) : Decidable (Hit mark r) := inferInstanceAs (Decidable (_ ∧ _))

theorem hit_spec (L k : Nat) (σ : St) (r : Rec) (mark : Int) {m : Nat} (hm : σ.get m = some (.own [.int .i64 mark] 3)) (hml : m < σ.next) : ∃ σ', evCall Tryz.prog env L (k + 1) 105 [r.agg, .pointer (some ⟨m, 0, none⟩)] σ = some (.bool (decide (Hit mark r)), σ') ∧ Same σ σ' [] := by
  unfold Rec.agg
  rw [f105_eq]
  generalize hσ1 : σ.new (Blk.own [Value.int IntKind.i64 r.seq, Value.int IntKind.i64 r.kind, Value.int IntKind.i64 r.block, Value.string r.data, Value.int IntKind.i64 r.number] 58) = σ1
  have hn : σ1.get σ.next = some (Blk.own [Value.int IntKind.i64 r.seq, Value.int IntKind.i64 r.kind, Value.int IntKind.i64 r.block, Value.string r.data, Value.int IntKind.i64 r.number] 58) := by rw [← hσ1, get_new_same]
  have hs1 : Same σ σ1 [] := by rw [← hσ1]; exact Same.new _ _ _
  have hm1 : σ1.get m = some (.own [.int .i64 mark] 3) := by rw [hs1.2 m hml (by simp)]; exact hm
  rw [ld_at hn 1 _ rfl, asI_i]
  by_cases hk : r.kind = 2
  · rw [show (r.kind == 2) = true by simpa using hk, br_true, ld_at hn 4 _ rfl, asI_i, asP_p, adr_some, ld_at hm1 0 _ rfl, asI_i]
    refine ⟨σ1, ?_, hs1⟩
    have : (r.number == mark) = decide (Hit mark r) := by
      by_cases h : r.number = mark
      · rw [decide_eq_true (show Hit mark r from ⟨hk, h⟩)]; simpa using h
      · rw [decide_eq_false (fun hh : Hit mark r => h hh.2)]; simpa using h
    rw [this]
  · rw [show (r.kind == 2) = false by simpa using hk, br_false, decide_eq_false (fun h : Hit mark r => hk h.1)]
    exact ⟨σ1, rfl, hs1⟩

theorem index_loop (L k : Nat) {σs : St} {mark : Int} {m : Nat} (hm : σs.get m = some (.own [.int .i64 mark] 3)) (hml : m < σs.next) {l : List Rec} {ad : Option Addr} {z : Nat} {qs : List Nat} (hl : l.length ≤ 100000) (hR : Row c5 5 58 σs ad z qs l) : ∀ (n i : Nat) (σ : St), i ≤ l.length → l.length - i < n → Same σs σ [] → (∀ j r, j < i → l[j]? = some r → ¬ Hit mark r) →
    Ends (fun v σ' => Same σs σ' [] ∧ ((∃ j r, v = .int .i64 (j : Nat) ∧ l[j]? = some r ∧ Hit mark r ∧ ∀ j' r', j' < j → l[j']? = some r' → ¬ Hit mark r') ∨ (v = .int .i64 (-1) ∧ ∀ r ∈ l, ¬ Hit mark r)))
      (lpAt Tryz.prog env L (k + 1) 104 [true, false, true] [] n [(0, .slice ad l.length z), (1, .func (Fn.func 105) #[] #[.pointer (some ⟨m, 0, none⟩)]), (7, .int .i64 l.length), (8, .int .i64 i)] σ)
  | 0, i, σ, _, h, _, _ => by omega
  | n + 1, i, σ, hi, h, hs, hno => by
    rw [f104_l2]
    by_cases hie : i = l.length
    · rw [decide_eq_false (by omega), br_false]
      refine .leaf ⟨hs, .inr ⟨rfl, fun r hr => ?_⟩⟩
      obtain ⟨j, hj, rfl⟩ := List.getElem_of_mem hr
      exact hno j _ (by omega) (List.getElem?_eq_getElem hj)
    · have hget : l[i]? = some l[i] := List.getElem?_eq_getElem (by omega)
      obtain ⟨q, e, hat⟩ := (hR.same hs (by simp)).lds c5_len hget
      generalize l[i] = r at hat hget
      obtain ⟨σ1, g1, hs1⟩ := hit_spec L k σ r mark (by rw [hs.2 m hml (by simp)]; exact hm) (by have := hs.1; omega)
      rw [decide_eq_true (by omega), br_true, need_of (by simp [inRange]; omega), e, adr_some, hat _ (by simp), show c5 r = [.int .i64 r.seq, .int .i64 r.kind, .int .i64 r.block, .string r.data, .int .i64 r.number] from rfl, uncons_c, asI_i, uncons_c, asI_i, uncons_c, asI_i, uncons_c, asS_s, uncons_c, asI_i, endl_n]
      have hF : ∀ K : FuncId → List Value → List Value → Res, asF (.func (Fn.func 105) #[] #[.pointer (some ⟨m, 0, none⟩)]) K = K 105 [] [.pointer (some ⟨m, 0, none⟩)] := fun K => rfl
      rw [hF, show (([] : List Value) ++ [Value.agg #[Value.int .i64 r.seq, .int .i64 r.kind, .int .i64 r.block, .string r.data, .int .i64 r.number]] ++ [Value.pointer (some ⟨m, 0, none⟩)]) = [r.agg, .pointer (some ⟨m, 0, none⟩)] from rfl, g1, bnd_some, asB_b]
      by_cases hh : Hit mark r
      · rw [decide_eq_true hh, br_true]
        exact .leaf ⟨hs.trans hs1, .inl ⟨i, r, rfl, hget, hh, hno⟩⟩
      · rw [decide_eq_false hh, br_false, wrap_in _ (by omega) (by omega), ← e]
        refine index_loop L k hm hml hl hR n (i + 1) σ1 (by omega) (by omega) (hs.trans hs1) (fun j r' hj hr' => ?_)
        by_cases hji : j = i
        · subst hji; rw [hget] at hr'; cases hr'; exact hh
        · exact hno j r' (by omega) hr'

theorem clone_spec (L k : Nat) {σ : St} {l : List Rec} {ad : Option Addr} {z : Nat} {qs : List Nat} (hl : l.length ≤ 100000) (hR : Row c5 5 58 σ ad z qs l) (i m : Nat) (him : i + m ≤ l.length) (a' : Option Addr) (ha : a' = subA ad (i * 5)) :
    ∃ ad' z' q' σ', evCall Tryz.prog env L (k + 1) 106 [.slice a' m z] σ = some (.slice ad' m z', σ') ∧ Row c5 5 58 σ' ad' z' q' ((l.drop i).take m) ∧ Same σ σ' [] ∧ ∀ q ∈ q', σ.next ≤ q := by
  subst ha
  rw [f106_eq]
  rcases hR.is with ⟨e1, e2, e3, e4⟩ | ⟨q, rest, e1, e2, e3, e4⟩
  · subst e1; subst e2
    have hm : m = 0 := by simp at him; exact him.2
    subst hm
    exact ⟨none, 0, [], σ, rfl, by simpa using Row.nil c5 5 58 σ, Same.refl _ _, by simp⟩
  · rw [show (subA ad (i * 5)).isNone = false by rw [e2]; rfl, br_false]
    generalize hσ2 : σ.new (Blk.own [] 58) = σ2
    have hs2 : Same σ σ2 [] := by rw [← hσ2]; exact Same.new _ _ _
    have hx2 : σ2.next = σ.next + 1 := by rw [← hσ2]; rfl
    have hR2 := hR.same hs2 (by simp)
    have hE2 : Row c5 5 58 σ2 (some ⟨σ.next, 0, none⟩) 5 [σ.next] [] := ⟨by rw [← hσ2]; simp, .inr ⟨σ.next, [], rfl, rfl, rfl, by rw [← hσ2, get_new_same]; rfl⟩⟩
    have hlen : ((l.drop i).take m).length = m := by rw [List.length_take, List.length_drop]; omega
    obtain ⟨ad3, z3, q3, σ3, hgrow3, hR3, hs3, hq3⟩ := grow_row (by_ := 48) hE2 c5_len c5_one (by omega) ((l.drop i).take m) (((l.drop i).take m).flatMap c5) rfl m hlen.symm (by unfold roomTop; simp; omega) (by unfold sizeTop; simp; omega)
    rw [hR2.part c5_len i m him (i * 5) (m * 5) rfl rfl]
    have hg := hgrow3
    rw [List.length_nil] at hg
    rw [hg, Nat.zero_add]
    rw [List.nil_append] at hR3
    exact ⟨ad3, z3, q3, σ3, rfl, hR3, hs2.fresh hs3 (fun x hx => .inr (by simp at hx; omega)), fun x hx => by rcases hq3 x hx with h | h; (simp at h; omega); omega⟩

section
variable {σ : St} {a : Nat} {F : List Nat} {first mark : Int} {rs : List Rec} {fast : Nat} (h : Stg σ a F first rs fast mark) (L k : Nat)
include h
theorem upto_spec (hL : 2000 < L) (hl : rs.length ≤ 1000) (hf : fast ≤ rs.length) (m : Int) :
    (∃ (j : Nat) (r : Rec) (ad : Option Addr) (z : Nat) (q : List Nat) (σ' : St), evCall Tryz.prog env L (k + 3) 62 [.pointer (some ⟨a, 0, none⟩), .int .i64 m] σ = some (.tuple #[.slice ad (j + 1) z, .bool true], σ') ∧ Row c5 5 58 σ' ad z q (rs.take (j + 1)) ∧ Same σ σ' [] ∧ (∀ x ∈ q, σ.next ≤ x) ∧ j < fast ∧ rs[j]? = some r ∧ Hit m r ∧ ∀ j' r', j' < j → rs[j']? = some r' → ¬ Hit m r') ∨
    (∃ σ', evCall Tryz.prog env L (k + 3) 62 [.pointer (some ⟨a, 0, none⟩), .int .i64 m] σ = some (.tuple #[.slice none 0 0, .bool false], σ') ∧ Same σ σ' [] ∧ ∀ r ∈ rs.take fast, ¬ Hit m r) := by
  rw [f62_eq]
  generalize hσ1 : σ.new (Blk.own [Value.int IntKind.i64 m] 3) = σ1
  have hn : σ1.get σ.next = some (Blk.own [Value.int IntKind.i64 m] 3) := by rw [← hσ1, get_new_same]
  have hs1 : Same σ σ1 [] := by rw [← hσ1]; exact Same.new _ _ _
  have hx1 : σ1.next = σ.next + 1 := by rw [← hσ1]; rfl
  have h1 := h.idle hs1
  obtain ⟨ad0, z0, qs0, g1, hrow, hq0⟩ := safe_spec h1 L (k + 1) (by omega) hf
  have htl : (rs.take fast).length ≤ rs.length := by rw [List.length_take]; omega
  have htf : (rs.take fast).length = fast := by rw [List.length_take]; omega
  rw [g1, bnd_some, asSl_s, f104_eq]
  obtain ⟨v, σ2, g2, hs2, hor⟩ := index_loop L k hn (by omega) (by omega) hrow L 0 σ1 (by omega) (by omega) (Same.refl _ _) (fun j r hj => by omega)
  rw [show ((0 : Nat) : Int) = 0 from rfl] at g2
  rw [g2, bnd_some]
  have hs12 := hs1.trans hs2
  rcases hor with ⟨j, r, rfl, hj, hh, hno⟩ | ⟨rfl, hno⟩
  · have hjf : j < fast := by have := (List.getElem?_eq_some_iff.1 hj).1; omega
    have htk : ∀ j', j' < fast → (rs.take fast)[j']? = rs[j']? := fun j' hj' => by rw [List.getElem?_take, if_pos hj']
    have h2 := h.idle hs12
    obtain ⟨qs, ad, z, rfl, hne, hg, hrow2⟩ := h2.ex
    rw [asI_i, decide_eq_false (by omega), br_false, ld_at hg 1 _ rfl, asSl_s, need_of (by rcases hrow2.z with e | e <;> rw [e] <;> rfl), wrap_in _ (by omega) (by omega), need_of (by simp [inRange]; omega)]
    obtain ⟨ad3, z3, q3, σ3, g3, hR3, hs3, hq3⟩ := clone_spec L (k + 1) (by omega) hrow2 0 (j + 1) (by omega) (subA ad 0) rfl
    rw [show Int.toNat ((j : Int) + 1) - 0 = j + 1 by omega, g3, bnd_some, asSl_s]
    rw [List.drop_zero] at hR3
    exact .inl ⟨j, r, ad3, z3, q3, σ3, rfl, hR3, hs12.trans hs3, fun x hx => by have := hq3 x hx; have := hs12.1; omega, hjf, by rw [← htk j hjf]; exact hj, hh, fun j' r' hj' hr' => hno j' r' hj' (by rw [htk j' (by omega)]; exact hr')⟩
  · rw [asI_i, show decide ((-1 : Int) < 0) = true from rfl, br_true]
    exact .inr ⟨σ2, rfl, hs12, hno⟩

theorem drop_spec (hL : 2000 < L) (hl : rs.length ≤ 1000) (hf : fast ≤ rs.length) (h0 : 1 ≤ first) (h1 : first ≤ 1152921504607846976) (m : Int) :
    (∃ (j : Nat) (r : Rec) (F' : List Nat) (σ' : St), evCall Tryz.prog env L (k + 4) 113 [.pointer (some ⟨a, 0, none⟩), .int .i64 m] σ = some (.nilIface, σ') ∧ Stg σ' a F' (first + (j + 1 : Nat)) (rs.drop (j + 1)) (fast - (j + 1)) m ∧ Turn σ σ' F F' ∧ j < fast ∧ rs[j]? = some r ∧ Hit m r ∧ ∀ j' r', j' < j → rs[j']? = some r' → ¬ Hit m r') ∨
    (∃ v σ', evCall Tryz.prog env L (k + 4) 113 [.pointer (some ⟨a, 0, none⟩), .int .i64 m] σ = some (v, σ') ∧ Err σ' v 8 m ∧ Same σ σ' [] ∧ ∀ r ∈ rs.take fast, ¬ Hit m r) := by
  rw [f113_eq]
  rcases upto_spec h L k hL hl hf m with ⟨j, r, ad, z, q, σ1, g1, hR1, hs1, hq1, hjf, hj, hh, hno⟩ | ⟨σ1, g1, hs1, hno⟩
  · have hS1 := h.idle hs1
    have hlt0 := h.lt
    obtain ⟨qs, ad0, z0, rfl, hne, hg, hrow⟩ := hS1.ex
    have hlt := hS1.lt
    have hal := hlt a (by simp)
    rw [g1, bnd_some, asT_t, toList2, uncons_c, asSl_s, uncons_c, asB_b, endl_n, not_true, br_false, ld_at hg 0 _ rfl, asI_i, wrap_in _ (by omega) (by omega), put_int hg 0 _ _ (by simp)]
    have g2 : (σ1.set a (.own (List.set [.int .i64 first, .slice ad0 rs.length z0, .int .i64 fast, .int .i64 mark] 0 (.int .i64 (first + ((j + 1 : Nat) : Int)))) 175)).get a = some (.own [.int .i64 (first + ((j + 1 : Nat) : Int)), .slice ad0 rs.length z0, .int .i64 fast, .int .i64 mark] 175) := by rw [get_set_same]; rfl
    have s2 := Same.set σ1 a (.own (List.set [.int .i64 first, .slice ad0 rs.length z0, .int .i64 fast, .int .i64 mark] 0 (.int .i64 (first + ((j + 1 : Nat) : Int)))) 175)
    generalize σ1.set a (.own (List.set [.int .i64 first, .slice ad0 rs.length z0, .int .i64 fast, .int .i64 mark] 0 (.int .i64 (first + ((j + 1 : Nat) : Int)))) 175) = σ2 at g2 s2
    rw [put_int g2 3 _ _ (by simp)]
    have g3 : (σ2.set a (.own (List.set [.int .i64 (first + ((j + 1 : Nat) : Int)), .slice ad0 rs.length z0, .int .i64 fast, .int .i64 mark] 3 (.int .i64 m)) 175)).get a = some (.own [.int .i64 (first + ((j + 1 : Nat) : Int)), .slice ad0 rs.length z0, .int .i64 fast, .int .i64 m] 175) := by rw [get_set_same]; rfl
    have s3 := Same.set σ2 a (.own (List.set [.int .i64 (first + ((j + 1 : Nat) : Int)), .slice ad0 rs.length z0, .int .i64 fast, .int .i64 mark] 3 (.int .i64 m)) 175)
    generalize σ2.set a (.own (List.set [.int .i64 (first + ((j + 1 : Nat) : Int)), .slice ad0 rs.length z0, .int .i64 fast, .int .i64 mark] 3 (.int .i64 m)) 175) = σ3 at g3 s3
    rw [ld_at g3 2 _ rfl, asI_i, wrap_in _ (by omega) (by omega), put_int g3 2 _ _ (by simp), show (fast : Int) - ((j + 1 : Nat) : Int) = ((fast - (j + 1) : Nat) : Int) by omega]
    have g4 : (σ3.set a (.own (List.set [.int .i64 (first + ((j + 1 : Nat) : Int)), .slice ad0 rs.length z0, .int .i64 fast, .int .i64 m] 2 (.int .i64 ((fast - (j + 1) : Nat) : Int))) 175)).get a = some (.own [.int .i64 (first + ((j + 1 : Nat) : Int)), .slice ad0 rs.length z0, .int .i64 ((fast - (j + 1) : Nat) : Int), .int .i64 m] 175) := by rw [get_set_same]; rfl
    have s4 := Same.set σ3 a (.own (List.set [.int .i64 (first + ((j + 1 : Nat) : Int)), .slice ad0 rs.length z0, .int .i64 fast, .int .i64 m] 2 (.int .i64 ((fast - (j + 1) : Nat) : Int))) 175)
    generalize σ3.set a (.own (List.set [.int .i64 (first + ((j + 1 : Nat) : Int)), .slice ad0 rs.length z0, .int .i64 fast, .int .i64 m] 2 (.int .i64 ((fast - (j + 1) : Nat) : Int))) 175) = σ4 at g4 s4
    have s14 := (s2.trans s3).trans s4
    have hrow4 := hrow.same s14 (fun q hq => by simp; rintro rfl; exact hne hq)
    have n14 := s14.1
    rw [ld_at g4 1 _ rfl, asSl_s, need_of (by rcases hrow.z with e | e <;> rw [e] <;> rfl), need_of (by simp [inRange]; omega)]
    obtain ⟨ad5, z5, q5, σ5, g5, hR5, hs5, hq5⟩ := clone_spec L (k + 2) (by omega) hrow4 (j + 1) (rs.length - (j + 1)) (by omega) (subA ad0 ((j + 1) * 5)) rfl
    rw [show Int.toNat ((j + 1 : Nat) : Int) = j + 1 from rfl, g5, bnd_some, asSl_s]
    have g5' : σ5.get a = _ := (hs5.2 a (by omega) (by simp)).trans g4
    have n5 := hs5.1
    rw [put_sl g5' 1 _ _ _ (by simp)]
    have hne5 : a ∉ q5 := fun hx => by have := hq5 a hx; omega
    have s6 := Same.set σ5 a (.own (List.set [.int .i64 (first + ((j + 1 : Nat) : Int)), .slice ad0 rs.length z0, .int .i64 ((fast - (j + 1) : Nat) : Int), .int .i64 m] 1 (.slice ad5 (rs.length - (j + 1)) z5)) 175)
    have hdl : (rs.drop (j + 1)).length = rs.length - (j + 1) := List.length_drop
    rw [List.take_of_length_le (by rw [hdl]; exact Nat.le_refl _)] at hR5
    refine .inl ⟨j, r, a :: q5, _, rfl, ⟨⟨q5, ad5, z5, rfl, hne5, by rw [get_set_same, hdl]; rfl, hR5.same s6 (fun q hq => by simp; rintro rfl; exact hne5 hq)⟩, fun q hq => ?_⟩, ⟨⟨by have := hs1.1; simp; omega, fun b hb hS => ?_⟩, fun q hq => ?_⟩, hjf, hj, hh, hno⟩
    · rcases List.mem_cons.1 hq with rfl | hq
      · simp; omega
      · have := hR5.lt q hq; simpa using this
    · simp only [List.mem_cons, not_or] at hS
      have := hs1.1
      rw [s6.2 b (by omega) (by simp; exact hS.1), hs5.2 b (by omega) (by simp), s14.2 b (by omega) (by simp; exact hS.1), hs1.2 b hb (by simp)]
    · rcases List.mem_cons.1 hq with rfl | hq
      · exact ⟨.inl (by simp), by simp; omega⟩
      · exact ⟨.inr (by have := hq5 q hq; have := hs1.1; omega), by have := hR5.lt q hq; simpa using this⟩
  · rw [g1, bnd_some, asT_t, toList2, uncons_c, asSl_s, uncons_c, asB_b, endl_n, not_false, br_true, f42_eq, eqNil_iface, br_false]
    have he : eqErr (.iface 70 (.int .i64 8)) 70 .i64 0 (fun v2 => br v2 (some (Value.nilIface, σ1)) (need true (need (oneCell (.iface 70 (.int .i64 8))) (need true (some (Value.iface 162 (Value.pointer (some ⟨σ1.next, 0, none⟩)), σ1.new (Blk.own [Value.string ⟨#[115, 116, 97, 103, 101]⟩, Value.int .i64 m, .iface 70 (.int .i64 8)] 164))))))) =
        some (Value.iface 162 (Value.pointer (some ⟨σ1.next, 0, none⟩)), σ1.new (Blk.own [Value.string ⟨#[115, 116, 97, 103, 101]⟩, Value.int .i64 m, .iface 70 (.int .i64 8)] 164)) := by
      simp [eqErr, oneCell]
    rw [he, bnd_some]
    exact .inr ⟨_, _, rfl, ⟨_, rfl, get_new_same _ _, by simp⟩, hs1.trans (Same.new _ _ _), hno⟩
end

end Go.AM.Bk.S
