/-
  Texts laid together: BkN, BkQ, BkR, BkT, Am22, BkU, BkV, BkW, BkArgs, BkX, BkSA, BkSB, BkSE, BkSD, BkZa, BkSC, BkZb, BkEO, BkMa, BkMb.
-/
import Derived.Test.YtnihjgamfnabnaaGreatDoorBkAg
import Derived.Test.YtnihjgamfnabnaaGreatDoorAm13g
import Derived.Test.YtnihjgamfnabnaaGreatDoorEnvBk
import Derived.Test.YtnihjgamfnabnaaGreatDoorEqBk
set_option linter.unusedVariables false
set_option linter.unusedSimpArgs false
set_option linter.unusedSectionVars false
namespace Go.AM.Bk
open Go.Proofs
def wkc (t mk : Int) (bl : List ByteArray) (done : Int) : List Value := .int .i64 t :: .int .i64 mk :: (strs bl ++ [.int .i64 done])
theorem wkc_len (t mk : Int) (bl : List ByteArray) (done : Int) : (wkc t mk bl done).length = bl.length + 3 := by unfold wkc; simp [strs_len]
theorem wkc_done (t mk : Int) (bl : List ByteArray) (done : Int) (h : bl.length = 32) : (wkc t mk bl done)[34]? = some (.int .i64 done) := by
  show (strs bl ++ [Value.int .i64 done])[32]? = _
  rw [List.getElem?_append_right (by rw [strs_len]; omega), strs_len, h]; rfl
theorem wkc_set (t mk : Int) (bl : List ByteArray) (done x : Int) (h : bl.length = 32) : (wkc t mk bl done).set 34 (.int .i64 x) = wkc t mk bl x := by
  show (Value.int .i64 t :: .int .i64 mk :: (strs bl ++ [Value.int .i64 done])).set 34 _ = Value.int .i64 t :: .int .i64 mk :: (strs bl ++ [.int .i64 x])
  rw [List.set_cons_succ, List.set_cons_succ, List.set_append_right _ _ (by rw [strs_len]; omega), strs_len, h]; rfl
theorem wkc_get (t mk : Int) (bl : List ByteArray) (done : Int) {i : Nat} {s : ByteArray} (h : bl[i]? = some s) : (wkc t mk bl done)[2 + i]? = some (.string s) := by
  show (Value.int .i64 t :: .int .i64 mk :: (strs bl ++ [Value.int .i64 done]))[2 + i]? = _
  rw [show 2 + i = i + 1 + 1 by omega, List.getElem?_cons_succ, List.getElem?_cons_succ, List.getElem?_append_left (by rw [strs_len]; exact (List.getElem?_eq_some_iff.1 h).1), strs_get h]
theorem wkc_blocks (t mk : Int) (bl : List ByteArray) (done : Int) (h : bl.length = 32) : ((wkc t mk bl done).drop 2).take 32 = strs bl := by
  show (strs bl ++ [Value.int .i64 done]).take 32 = _
  rw [← h, ← strs_len, List.take_left]
theorem over_wk (t mk : Int) (bl : List ByteArray) (h : bl.length = 32) : over (wkc t mk (List.replicate 32 ⟨#[]⟩) 0) 2 (strs bl) = wkc t mk bl 0 := by
  unfold over
  rw [strs_len, h]
  show [Value.int .i64 t, .int .i64 mk] ++ strs bl ++ (strs (List.replicate 32 ⟨#[]⟩) ++ [Value.int .i64 0]).drop 32 = _
  rw [List.drop_append, strs_len]
  simp [wkc, strs]
theorem imc_head (d : Nat) (t mk t' mk' : Int) (bl : List ByteArray) (w : Option Addr) : over (imc d t mk bl w) 1 [.int .i64 t', .int .i64 mk'] = imc d t' mk' bl w := rfl
theorem imc_over (d : Nat) (t mk : Int) (bl bl' : List ByteArray) (w : Option Addr) (h : bl.length = 32) (h' : bl'.length = 32) : over (imc d t mk bl w) 3 (strs bl') = imc d t mk bl' w := by
  unfold over
  rw [strs_len, h']
  show [ptr d, Value.int .i64 t, .int .i64 mk] ++ strs bl' ++ (strs bl ++ [Value.pointer w]).drop 32 = _
  rw [List.drop_append_of_le_length (by rw [strs_len]; omega), List.drop_of_length_le (by rw [strs_len]; omega)]
  simp [imc]
theorem imc_setw (d : Nat) (t mk : Int) (bl : List ByteArray) (w w' : Option Addr) (h : bl.length = 32) : (imc d t mk bl w).set 35 (.pointer w') = imc d t mk bl w' := by
  show (ptr d :: Value.int .i64 t :: .int .i64 mk :: (strs bl ++ [Value.pointer w])).set 35 _ = ptr d :: Value.int .i64 t :: .int .i64 mk :: (strs bl ++ [.pointer w'])
  rw [List.set_cons_succ, List.set_cons_succ, List.set_cons_succ, List.set_append_right _ _ (by rw [strs_len]; omega), strs_len, h]; rfl
def long (bl : List ByteArray) : Bool := bl.any fun s => decide (16 < s.size)
theorem long_inner (L k m0 : Nat) (s7 : List Value) (s8 : Int) (r0 r1 r2 r3 r4 r5 r6 r7 : ByteArray) (σ : St) : ∀ (n i : Nat), i ≤ 8 → 8 - i < n →
    lpAt Tryz.prog env L k 108 [true, false, true, false, true, true, false, true, true] [m0] n [(7, .agg s7.toArray), (8, .int .i64 s8), (11, .agg [.string r0, .string r1, .string r2, .string r3, .string r4, .string r5, .string r6, .string r7].toArray), (12, .int .i64 i)] σ =
      (if long ([r0, r1, r2, r3, r4, r5, r6, r7].drop i) = true then some (.bool true, σ) else lpAt Tryz.prog env L k 108 [true, false, true] [] m0 [(7, .agg s7.toArray), (8, .int .i64 (IntKind.wrap .i64 (s8 + 1)))] σ)
  | 0, i, _, h => by omega
  | n + 1, i, hi, hn => by
    rw [f108_l5]
    by_cases h8 : i = 8
    · subst h8
      rw [decide_eq_false (by decide), br_false]
      exact (if_neg (show ¬ long ([] : List ByteArray) = true by decide)).symm
    · have hget : [r0, r1, r2, r3, r4, r5, r6, r7][i]? = some ([r0, r1, r2, r3, r4, r5, r6, r7][i]'(by simp; omega)) := List.getElem?_eq_getElem (by simp; omega)
      have hd : [r0, r1, r2, r3, r4, r5, r6, r7].drop i = [r0, r1, r2, r3, r4, r5, r6, r7][i]'(by simp; omega) :: [r0, r1, r2, r3, r4, r5, r6, r7].drop (i + 1) := List.drop_eq_getElem_cons (by simp; omega)
      rw [hd]
      generalize [r0, r1, r2, r3, r4, r5, r6, r7][i]'(by simp; omega) = x at hget
      have hs := strs_get hget
      have hnth : ∀ K : Value → Res, nth [Value.string r0, .string r1, .string r2, .string r3, .string r4, .string r5, .string r6, .string r7] (Int.toNat (i : Int) * 1) K = K (.string x) := fun K => by
        rw [Int.toNat_natCast, Nat.mul_one]
        have hs' : [Value.string r0, .string r1, .string r2, .string r3, .string r4, .string r5, .string r6, .string r7][i]? = some (.string x) := hs
        unfold nth; rw [hs']
      have hw : IntKind.wrap .i64 ((i : Int) + 1) = ((i + 1 : Nat) : Int) := by rw [wrap_in _ (by omega) (by omega)]; omega
      have ih := long_inner L k m0 s7 s8 r0 r1 r2 r3 r4 r5 r6 r7 σ n (i + 1) (by omega) (by omega)
      rw [decide_eq_true (by omega), br_true, need_of (by simp [inRange]; omega), hnth, asS_s]
      by_cases hx : 16 < x.size
      · rw [decide_eq_true (by omega), br_true, if_pos (by unfold long; rw [List.any_cons, decide_eq_true hx]; rfl)]
      · have he : long (x :: [r0, r1, r2, r3, r4, r5, r6, r7].drop (i + 1)) = long ([r0, r1, r2, r3, r4, r5, r6, r7].drop (i + 1)) := by unfold long; rw [List.any_cons, decide_eq_false hx]; rfl
        rw [decide_eq_false (by omega), br_false, hw, he]
        exact ih
set_option maxRecDepth 20000 in
theorem long_outer (L k : Nat) (hL : 100 < L) {bl : List ByteArray} (hl : bl.length = 32) : ∀ (n v : Nat) (σ : St), v ≤ 4 → 4 - v < n →
    ∃ σ', lpAt Tryz.prog env L k 108 [true, false, true] [] n [(7, .agg (strs bl).toArray), (8, .int .i64 v)] σ = some (.bool (long (bl.drop (8 * v))), σ') ∧ Same σ σ' []
  | 0, v, σ, _, h => by omega
  | n + 1, v, σ, hv, hn => by
    rw [f108_l2]
    by_cases h4 : v = 4
    · subst h4
      rw [decide_eq_false (by decide), br_false, List.drop_of_length_le (by omega)]
      exact ⟨σ, rfl, Same.refl _ _⟩
    · have ht : List.take 8 (List.drop (Int.toNat (v : Int) * 8) (strs bl)) = strs ((bl.drop (8 * v)).take 8) := by
        rw [Int.toNat_natCast, Nat.mul_comm]; unfold strs; rw [List.map_take, List.map_drop]
      have h8 : ((bl.drop (8 * v)).take 8).length = 8 := by rw [List.length_take, List.length_drop]; omega
      have hd : bl.drop (8 * v) = (bl.drop (8 * v)).take 8 ++ bl.drop (8 * (v + 1)) := by
        rw [show 8 * (v + 1) = 8 * v + 8 by omega, ← List.drop_drop, List.take_append_drop]
      rw [decide_eq_true (by omega), br_true, need_of (by simp [inRange]; omega), need_of (by rw [decide_eq_true_eq, strs_len, Int.toNat_natCast]; omega), ht]
      generalize (bl.drop (8 * v)).take 8 = r at h8 hd ⊢
      rw [hd]
      match r, h8 with
      | [r0, r1, r2, r3, r4, r5, r6, r7], _ =>
        have e : strs [r0, r1, r2, r3, r4, r5, r6, r7] = [Value.string r0, .string r1, .string r2, .string r3, .string r4, .string r5, .string r6, .string r7] := rfl
        rw [e, need_of (show Nat.beq (List.length [Value.string r0, .string r1, .string r2, .string r3, .string r4, .string r5, .string r6, .string r7]) 8 = true from rfl)]
        obtain ⟨σ1, hput, g1, s1, n1⟩ := tmp_put σ [Value.string ⟨#[]⟩, .string ⟨#[]⟩, .string ⟨#[]⟩, .string ⟨#[]⟩, .string ⟨#[]⟩, .string ⟨#[]⟩, .string ⟨#[]⟩, .string ⟨#[]⟩] [Value.string r0, .string r1, .string r2, .string r3, .string r4, .string r5, .string r6, .string r7] 43 rfl rfl
        have hin := long_inner L k n (strs bl) (v : Int) r0 r1 r2 r3 r4 r5 r6 r7 σ1 L 0 (by omega) (by omega)
        rw [hput, lds_all (n := 8) g1 rfl, uncons_c, asS_s, uncons_c, asS_s, uncons_c, asS_s, uncons_c, asS_s, uncons_c, asS_s, uncons_c, asS_s, uncons_c, asS_s, uncons_c, asS_s, endl_n]
        have hw : IntKind.wrap .i64 ((v : Int) + 1) = ((v + 1 : Nat) : Int) := by rw [wrap_in _ (by omega) (by omega)]; omega
        rw [hw] at hin
        obtain ⟨σ2, e2, s2⟩ := long_outer L k hL hl n (v + 1) σ1 (by omega) (by omega)
        have ha : long ([r0, r1, r2, r3, r4, r5, r6, r7] ++ bl.drop (8 * (v + 1))) = (long [r0, r1, r2, r3, r4, r5, r6, r7] || long (bl.drop (8 * (v + 1)))) := by unfold long; rw [List.any_append]
        rw [ha]
        rw [List.drop_zero] at hin
        cases hq : long [r0, r1, r2, r3, r4, r5, r6, r7] with
        | true => rw [if_pos hq] at hin; exact ⟨σ1, hin, s1⟩
        | false => rw [if_neg (by rw [hq]; simp)] at hin; exact ⟨σ2, hin.trans e2, s1.trans s2⟩
theorem long_spec (L k : Nat) (hL : 100 < L) {bl : List ByteArray} (hl : bl.length = 32) (σ : St) : ∃ σ', evCall Tryz.prog env L (k + 1) 108 [.agg (strs bl).toArray] σ = some (.bool (long bl), σ') ∧ Same σ σ' [] := by
  have s1 : Same σ (σ.new (Blk.own (strs bl) 45)) [] := Same.new _ _ _
  rw [f108_eq, lds_all (get_new_same _ _) (by rw [strs_len, hl])]
  obtain ⟨σ2, e2, s2⟩ := long_outer L k hL hl L 0 (σ.new (Blk.own (strs bl) 45)) (by omega) (by omega)
  exact ⟨σ2, e2, s1.trans s2⟩
end Go.AM.Bk

namespace Go.AM.Bk
open Go.Proofs
structure IS where
  S : List D.Sec
  W : List D.Lw
  t : Nat
  km : Nat
  bl : List ByteArray
  work : Option (Nat × List ByteArray × Nat)
def mkSec (l : List UInt8) : D.Sec := if h : l.length = 64 then ⟨l, h⟩ else D.zsec
theorem mkSec_of {l : List UInt8} (h : l.length = 64) : mkSec l = ⟨l, h⟩ := dif_pos h
structure Wk (σ : St) (b : Nat) (t mk : Int) (bl : List ByteArray) (done : Int) : Prop where
  ex : σ.get b = some (.own (wkc t mk bl done) 187)
  len : bl.length = 32
structure ImS (σ0 σ : St) (m d : Nat) (s : IS) (R : List (List Nat)) : Prop where
  ex : ∃ F G w, D.Disk σ d F s.S s.W ∧ Img σ m d (s.t : Nat) (s.km : Nat) s.bl w ∧ Owns σ0 σ (F :: G :: R) ∧ m ∈ G ∧
    ((s.work = none ∧ w = none) ∨ ∃ b mk' bl' done, s.work = some (mk', bl', done) ∧ w = some ⟨b, 0, none⟩ ∧ b ∈ G ∧ b ≠ m ∧ Wk σ b ((s.t + 1 : Nat) : Int) (mk' : Nat) bl' (done : Nat))
structure IS.Ok (s : IS) : Prop where
  sl : s.S.length = 66
  wl : s.W.length ≤ 100
  wr : D.InR s.S.length s.W
  tl : s.t ≤ 1000
  ml : s.km ≤ top
  bw : ∀ mk' bl' done, s.work = some (mk', bl', done) → done ≤ 34 ∧ long bl' = false ∧ bl'.length = 32 ∧ s.km < mk' ∧ mk' ≤ top ∧ s.W.length ≤ done
section
variable {σ0 σ : St} {m d : Nat} {s : IS} {R : List (List Nat)}
theorem ImS.idle (h : ImS σ0 σ m d s R) {σ' : St} (hs : Same σ σ' []) : ImS σ0 σ' m d s R := by
  obtain ⟨F, G, w, h1, h2, h3, h4, h5⟩ := h.ex
  refine ⟨F, G, w, h1.idle hs, h2.same hs (by simp), h3.idle hs, h4, ?_⟩
  rcases h5 with h5 | ⟨b, mk', bl', done, e1, e2, e3, e4, e5⟩
  · exact .inl h5
  · exact .inr ⟨b, mk', bl', done, e1, e2, e3, e4, by rw [hs.2 b (h3.lt 1 rfl b e3) (by simp)]; exact e5.ex, e5.len⟩
theorem ImS.keep (h : ImS σ0 σ m d s R) {σ' : St} (hs : Same σ σ' []) : ∀ F ∈ R, ∀ q ∈ F, σ'.get q = σ.get q := fun F hF q hq => by
  obtain ⟨_, _, _, _, _, h3, _⟩ := h.ex
  exact hs.2 q (h3.own F (by simp [hF]) q hq).2 (by simp)
theorem busyI_spec (h : ImS σ0 σ m d s R) (L k : Nat) : evCall Tryz.prog env L (k + 1) 107 [ptr m] σ = some (.bool s.work.isSome, σ) := by
  obtain ⟨F, G, w, h1, h2, h3, h4, h5⟩ := h.ex
  rw [busy_spec h2]
  rcases h5 with ⟨e1, e2⟩ | ⟨b, mk', bl', done, e1, e2, _⟩ <;> rw [e1, e2] <;> rfl
theorem img_turn {F G : List Nat} (hO : Owns σ0 σ (F :: G :: R)) (hm : m ∈ G) {σ' : St} (hs : Same σ σ' [m]) : Owns σ0 σ' (F :: G :: R) :=
  hO.turned 1 rfl ⟨hs.mono (fun x hx => by simp at hx; subst hx; exact hm), fun q hq => ⟨.inl hq, by have := hO.lt 1 rfl q hq; have := hs.1; omega⟩⟩
theorem rest_kept {F G : List Nat} (hO : Owns σ0 σ (F :: G :: R)) {σ' : St} {T : List Nat} (hs : Same σ σ' T) (hT : ∀ x ∈ T, x ∈ F ∨ x ∈ G ∨ σ.next ≤ x) : ∀ H ∈ R, ∀ q ∈ H, σ'.get q = σ.get q := by
  intro H hH q hq
  have hlt := (hO.own H (by simp [hH]) q hq).2
  obtain ⟨i, hi⟩ := List.mem_iff_getElem?.1 hH
  refine hs.2 q hlt (fun hqT => ?_)
  rcases hT q hqT with h | h | h
  · exact hO.off (i + 2) 0 (by omega) (by simpa using hi) rfl q hq h
  · exact hO.off (i + 2) 1 (by omega) (by simpa using hi) rfl q hq h
  · omega
theorem begin_spec (h : ImS σ0 σ m d s R) (L k : Nat) (hL : 100000 < L) (hok : s.Ok) {b : List ByteArray} (hb : b.length = 32) (mark : Int) :
    ∃ v σ', evCall Tryz.prog env L (k + 4) 63 [ptr m, .agg (strs b).toArray, .int .i64 mark] σ = some (v, σ') ∧ (∀ H ∈ R, ∀ q ∈ H, σ'.get q = σ.get q) ∧
      ((s.work ≠ none ∧ Err σ' v 9 mark ∧ ImS σ0 σ' m d s R) ∨ (s.work = none ∧ (long b = true ∨ mark > top) ∧ Err σ' v 1 mark ∧ ImS σ0 σ' m d s R) ∨
       (s.work = none ∧ long b = false ∧ mark ≤ top ∧ mark ≤ s.km ∧ Err σ' v 10 mark ∧ ImS σ0 σ' m d s R) ∨
       (s.work = none ∧ long b = false ∧ mark ≤ top ∧ s.km < mark ∧ v = .nilIface ∧ ImS σ0 σ' m d { s with work := some (mark.toNat, b, 0) } R)) := by
  rw [f63_eq]
  have s1 : Same σ (σ.new (Blk.own (strs b) 45)) [] := Same.new _ _ _
  have g1 : (σ.new (Blk.own (strs b) 45)).get σ.next = some (Blk.own (strs b) 45) := get_new_same _ _
  have n1 : (σ.new (Blk.own (strs b) 45)).next = σ.next + 1 := rfl
  generalize σ.new (Blk.own (strs b) 45) = σ1 at s1 g1 n1
  have hI1 := h.idle s1
  rw [busyI_spec hI1 L (k + 2), bnd_some, asB_b]
  have err : ∀ {σ2 : St} (e : Int), e ≠ 0 → Same σ σ2 [] → ∃ v σ', (bnd (evCall Tryz.prog env L (k + 3) 87 [.int .i64 mark, .int .i64 e] σ2) fun v4 v5 => some (pack [v4], v5)) = some (v, σ') ∧ (∀ H ∈ R, ∀ q ∈ H, σ'.get q = σ.get q) ∧ Err σ' v e mark ∧ ImS σ0 σ' m d s R := by
    intro σ2 e he hs
    obtain ⟨q, σ3, g3, hq, hql, s3⟩ := wrapi_spec L (k + 1) σ2 mark e he
    rw [g3, bnd_some]
    exact ⟨_, σ3, rfl, h.keep (hs.trans s3), ⟨q, rfl, hq, hql⟩, h.idle (hs.trans s3)⟩
  cases hw : s.work with
  | some p =>
    obtain ⟨v, σ', e1, e2, e3, e4⟩ := err 9 (by decide) s1
    rw [show (some p : Option (Nat × List ByteArray × Nat)).isSome = true from rfl, br_true]
    exact ⟨v, σ', e1, e2, .inl ⟨by simp, e3, e4⟩⟩
  | none =>
    rw [show (none : Option (Nat × List ByteArray × Nat)).isSome = false from rfl, br_false, lds_all g1 (by rw [strs_len, hb])]
    obtain ⟨σ2, g2, s2⟩ := long_spec L (k + 2) (by omega) hb σ1
    have s02 := s1.trans s2
    have g12 : σ2.get σ.next = _ := (s2.2 σ.next (by omega) (by simp)).trans g1
    rw [g2, bnd_some, asB_b]
    cases hlg : long b with
    | true =>
      obtain ⟨v, σ', e1, e2, e3, e4⟩ := err 1 (by decide) s02
      rw [br_true]
      exact ⟨v, σ', e1, e2, .inr (.inl ⟨rfl, .inl rfl, e3, e4⟩)⟩
    | false =>
      rw [br_false]
      by_cases hmt : mark > 1152921504606846975
      · obtain ⟨v, σ', e1, e2, e3, e4⟩ := err 1 (by decide) s02
        rw [decide_eq_true hmt, br_true]
        exact ⟨v, σ', e1, e2, .inr (.inl ⟨rfl, .inr (by unfold top; omega), e3, e4⟩)⟩
      rw [decide_eq_false hmt, br_false]
      have hI2 := h.idle s02
      obtain ⟨F, G, w, h1, h2, h3, h4, h5⟩ := hI2.ex
      rw [ld_at h2.ex 2 _ rfl, asI_i]
      by_cases hms : mark ≤ (s.km : Int)
      · obtain ⟨v, σ', e1, e2, e3, e4⟩ := err 10 (by decide) s02
        rw [decide_eq_true hms, br_true]
        exact ⟨v, σ', e1, e2, .inr (.inr (.inl ⟨rfl, rfl, by unfold top; omega, hms, e3, e4⟩))⟩
      have htl := hok.tl
      have hwt : IntKind.wrap .i64 ((s.t : Int) + 1) = ((s.t + 1 : Nat) : Int) := by rw [wrap_in _ (by omega) (by omega)]; omega
      have hlit : ∀ t : Int, (Value.int .i64 t :: Value.int .i64 mark :: [Value.string ⟨#[]⟩, Value.string ⟨#[]⟩, Value.string ⟨#[]⟩, Value.string ⟨#[]⟩, Value.string ⟨#[]⟩, Value.string ⟨#[]⟩, Value.string ⟨#[]⟩, Value.string ⟨#[]⟩, Value.string ⟨#[]⟩, Value.string ⟨#[]⟩, Value.string ⟨#[]⟩, Value.string ⟨#[]⟩, Value.string ⟨#[]⟩, Value.string ⟨#[]⟩, Value.string ⟨#[]⟩, Value.string ⟨#[]⟩, Value.string ⟨#[]⟩, Value.string ⟨#[]⟩, Value.string ⟨#[]⟩, Value.string ⟨#[]⟩, Value.string ⟨#[]⟩, Value.string ⟨#[]⟩, Value.string ⟨#[]⟩, Value.string ⟨#[]⟩, Value.string ⟨#[]⟩, Value.string ⟨#[]⟩, Value.string ⟨#[]⟩, Value.string ⟨#[]⟩, Value.string ⟨#[]⟩, Value.string ⟨#[]⟩, Value.string ⟨#[]⟩, Value.string ⟨#[]⟩, Value.int .i64 0]) = wkc t mark (List.replicate 32 ⟨#[]⟩) 0 := fun _ => rfl
      rw [decide_eq_false hms, br_false, ld_at h2.ex 1 _ rfl, asI_i, need_true, lds_all g12 (by rw [strs_len, hb]), need_true, need_true, need_of (by rw [strs_len, hb]; rfl), need_of (by rw [strs_len, hb]; rfl), hwt, hlit, over_wk _ _ _ hb]
      have s3 : Same σ2 (σ2.new (Blk.own (wkc ((s.t + 1 : Nat) : Int) mark b 0) 187)) [] := Same.new _ _ _
      have g3 : (σ2.new (Blk.own (wkc ((s.t + 1 : Nat) : Int) mark b 0) 187)).get σ2.next = some (Blk.own (wkc ((s.t + 1 : Nat) : Int) mark b 0) 187) := get_new_same _ _
      have n3 : (σ2.new (Blk.own (wkc ((s.t + 1 : Nat) : Int) mark b 0) 187)).next = σ2.next + 1 := rfl
      generalize σ2.new (Blk.own (wkc ((s.t + 1 : Nat) : Int) mark b 0) 187) = σ3 at s3 g3 n3
      have h23 := h2.same s3 (by simp)
      rw [put_at h23.ex 35 (.pointer (some ⟨σ2.next, 0, none⟩)) (by rw [imc_len, h2.len]; decide) rfl, imc_setw _ _ _ _ _ _ h2.len]
      have hO3 := h3.idle s3
      have s4 := Same.set σ3 m (.own (imc d s.t s.km s.bl (some ⟨σ2.next, 0, none⟩)) 169)
      have hmF : m ∉ F := h3.off 1 0 (by omega) rfl rfl m h4
      have hlt2 := h2.lt
      -- the owned set of the image: a new block more
      have hG : Turn σ3 (σ3.set m (.own (imc d s.t s.km s.bl (some ⟨σ2.next, 0, none⟩)) 169)) G G := ⟨s4.mono (fun x hx => by simp at hx; subst hx; exact h4), fun q hq => ⟨.inl hq, by have := hO3.lt 1 rfl q hq; simpa using this⟩⟩
      have hT : Turn σ2 (σ3.set m (.own (imc d s.t s.km s.bl (some ⟨σ2.next, 0, none⟩)) 169)) G (σ2.next :: G) := ⟨(s3.mono (by simp)).trans hG.same, fun q hq => by
        rcases List.mem_cons.1 hq with rfl | hq
        · exact ⟨.inr (Nat.le_refl _), by simp; omega⟩
        · exact ⟨.inl hq, (hG.sub q hq).2⟩⟩
      have hO4 := h3.turned 1 rfl hT
      have hmark : ((mark.toNat : Nat) : Int) = mark := by omega
      refine ⟨.nilIface, _, rfl, ?_, .inr (.inr (.inr ⟨rfl, rfl, by unfold top; omega, by omega, rfl, ⟨F, σ2.next :: G, some ⟨σ2.next, 0, none⟩, (h1.idle s3).same s4 (fun q hq => by simp; rintro rfl; exact hmF hq), ⟨get_set_same _ _ _, by simpa using h23.lt, h2.len⟩, hO4, by simp [h4], .inr ⟨σ2.next, mark.toNat, b, 0, rfl, rfl, by simp, by omega, ?_, hb⟩⟩⟩))⟩
      · intro H hH q hq
        have := rest_kept h3 hT.same (fun x hx => .inr (.inl hx)) H hH q hq
        rw [this]; exact h.keep s02 H hH q hq
      · rw [s4.2 σ2.next (by omega) (by simp; omega), hmark]; exact g3
end
end Go.AM.Bk

namespace Go.AM.Bk
open Go.Proofs
def stepS (s : IS) (mk' : Nat) (bl' : List ByteArray) (k : Nat) : IS :=
  if k < 32 then { s with W := s.W ++ [⟨((2 + 32 * ((s.t + 1) % 2) + k : Nat) : Int), mkSec (bsec ((s.t + 1 : Nat) : Int) (bl'.getD k ⟨#[]⟩))⟩], work := some (mk', bl', k + 1) }
  else if k = 32 then { s with S := D.lay (fun _ => true) 0 s.S s.W, W := [], work := some (mk', bl', 33) }
  else if k = 33 then { s with W := s.W ++ [⟨(((s.t + 1) % 2 : Nat) : Int), mkSec (hsec ((s.t + 1 : Nat) : Int) (mk' : Nat))⟩], work := some (mk', bl', 34) }
  else ⟨D.lay (fun _ => true) 0 s.S s.W, [], s.t + 1, mk', bl', none⟩
theorem long_at {bl : List ByteArray} (h : long bl = false) {i : Nat} {s : ByteArray} (hs : bl[i]? = some s) : s.size ≤ 16 := by
  unfold long at h
  have := List.any_eq_false.1 h s (List.mem_of_getElem? hs)
  simpa using this
section
variable {σ0 σ : St} {m d : Nat} {s : IS} {R : List (List Nat)}
set_option maxRecDepth 20000 in
theorem step_spec (h : ImS σ0 σ m d s R) (L k0 : Nat) (hL : 100000 < L) (hok : s.Ok) :
    ∃ v σ', evCall Tryz.prog env L (k0 + 8) 64 [ptr m] σ = some (v, σ') ∧ (∀ H ∈ R, ∀ q ∈ H, σ'.get q = σ.get q) ∧
      ((s.work = none ∧ (∃ e, v = .tuple #[.bool false, e] ∧ Err σ' e 9 0) ∧ ImS σ0 σ' m d s R) ∨
       (∃ mk' bl' k, s.work = some (mk', bl', k) ∧ v = .tuple #[.bool (decide (k = 34)), .nilIface] ∧ ImS σ0 σ' m d (stepS s mk' bl' k) R)) := by
  rw [f64_eq, busyI_spec h L (k0 + 6), bnd_some, asB_b]
  cases hw : s.work with
  | none =>
    obtain ⟨q, σ3, g3, hq, hql, s3⟩ := wrapi_spec L (k0 + 5) σ 0 9 (by decide)
    rw [show (none : Option (Nat × List ByteArray × Nat)).isSome = false from rfl, not_false, br_true, g3, bnd_some]
    exact ⟨_, σ3, rfl, h.keep s3, .inl ⟨rfl, ⟨_, rfl, q, rfl, hq, hql⟩, h.idle s3⟩⟩
  | some p =>
    obtain ⟨mk', bl', k⟩ := p
    obtain ⟨F, G, w, h1, h2, h3, h4, h5⟩ := h.ex
    obtain ⟨b, mk2, bl2, done, e1, e2, e3, e4, e5⟩ : ∃ b mk' bl' done, s.work = some (mk', bl', done) ∧ w = some ⟨b, 0, none⟩ ∧ b ∈ G ∧ b ≠ m ∧ Wk σ b ((s.t + 1 : Nat) : Int) (mk' : Nat) bl' (done : Nat) := by
      rcases h5 with ⟨e, _⟩ | h5
      · rw [hw] at e; cases e
      · exact h5
    rw [hw] at e1
    cases e1
    subst e2
    obtain ⟨hk34, hlg, hbl, hmk, hmt, hwd⟩ := hok.bw mk' bl' k hw
    have hsl := hok.sl
    have hwl := hok.wl
    have htl := hok.tl
    have hbF : b ∉ F := h3.off 1 0 (by omega) rfl rfl b e3
    have hmF : m ∉ F := h3.off 1 0 (by omega) rfl rfl m h4
    have hblt := h3.lt 1 rfl b e3
    have hwk : IntKind.wrap .i64 ((k : Int) + 1) = ((k + 1 : Nat) : Int) := by rw [wrap_in _ (by omega) (by omega)]; omega
    rw [show (some (mk', bl', k) : Option (Nat × List ByteArray × Nat)).isSome = true from rfl, not_true, br_false, ld_at h2.ex 35 _ (imc_work _ _ _ _ _ h2.len), asP_p, adr_some, ld_at e5.ex (0 + 34) _ (wkc_done _ _ _ _ hbl), asI_i, adr_some, ld_at e5.ex (0 + 34) _ (wkc_done _ _ _ _ hbl), asI_i, adr_some, hwk, put_at e5.ex (0 + 34) (.int .i64 ((k + 1 : Nat) : Int)) (by rw [wkc_len, hbl]; decide) rfl, Nat.zero_add, wkc_set _ _ _ _ _ hbl]
    have s1 := Same.set σ b (.own (wkc ((s.t + 1 : Nat) : Int) (mk' : Nat) bl' ((k + 1 : Nat) : Int)) 187)
    have hW1 : Wk (σ.set b (.own (wkc ((s.t + 1 : Nat) : Int) (mk' : Nat) bl' ((k + 1 : Nat) : Int)) 187)) b ((s.t + 1 : Nat) : Int) (mk' : Nat) bl' ((k + 1 : Nat) : Int) := ⟨get_set_same _ _ _, hbl⟩
    have hT1 : Turn σ (σ.set b (.own (wkc ((s.t + 1 : Nat) : Int) (mk' : Nat) bl' ((k + 1 : Nat) : Int)) 187)) G G := ⟨s1.mono (fun x hx => by simp at hx; subst hx; exact e3), fun q hq => ⟨.inl hq, by have := h3.lt 1 rfl q hq; simpa using this⟩⟩
    generalize σ.set b (.own (wkc ((s.t + 1 : Nat) : Int) (mk' : Nat) bl' ((k + 1 : Nat) : Int)) 187) = σ1 at s1 hW1 hT1
    have h11 := h1.same s1 (fun q hq => by simp; rintro rfl; exact hbF hq)
    have h21 := h2.same s1 (by simp; exact Ne.symm e4)
    have hO1 : Owns σ0 σ1 (F :: G :: R) := h3.turned 1 rfl hT1
    have hk1 : ∀ H ∈ R, ∀ q ∈ H, σ1.get q = σ.get q := rest_kept h3 hT1.same (fun x hx => .inr (.inl hx))
    have hat : ∀ {σ' : St}, ∃ σ'', evCall Tryz.prog env L (k0 + 7) 109 [.agg #[.int .i64 ((s.t + 1 : Nat) : Int), .int .i64 (mk' : Int)]] σ' = some (.int .i64 ((2 + 32 * ((s.t + 1) % 2) : Nat) : Int), σ'') ∧ Same σ' σ'' [] := by
      intro σ'
      have s9 : Same σ' (σ'.new (Blk.own [Value.int .i64 ((s.t + 1 : Nat) : Int), Value.int .i64 (mk' : Int)] 166)) [] := Same.new _ _ _
      have g9 : (σ'.new (Blk.own [Value.int .i64 ((s.t + 1 : Nat) : Int), Value.int .i64 (mk' : Int)] 166)).get σ'.next = some (Blk.own [Value.int .i64 ((s.t + 1 : Nat) : Int), Value.int .i64 (mk' : Int)] 166) := get_new_same _ _
      have e45 : evCall Tryz.prog env L (k0 + 7) 109 [.agg [.int .i64 ((s.t + 1 : Nat) : Int), .int .i64 (mk' : Int)].toArray] σ' = _ := f109_eq L (k0 + 6) σ' _ _
      have hv : IntKind.wrap .i64 ((2 : Int) + IntKind.wrap .i64 ((32 : Int) * Int.tmod ((s.t + 1 : Nat) : Int) 2)) = ((2 + 32 * ((s.t + 1) % 2) : Nat) : Int) := by
        rw [tmod2, wrap_in ((32 : Int) * (((s.t + 1) % 2 : Nat) : Int)) (by omega) (by omega), wrap_in _ (by omega) (by omega)]; omega
      rw [ld_at g9 0 _ rfl, asI_i, hv] at e45
      exact ⟨_, e45, s9⟩
    have rw2 : ∀ {σ' : St}, σ'.get b = σ1.get b → ∀ K : List Value → Res, σ'.lds b (0 + 0) 2 K = K [.int .i64 ((s.t + 1 : Nat) : Int), .int .i64 (mk' : Int)] := fun e K => by rw [hW1.ex] at e; rw [lds_own K e (by rw [wkc_len, hbl]; decide)]; rfl
    have hblt1 := hO1.lt 1 rfl b e3
    -- a sector is laid
    have lay : ∀ {σ2 : St} {ad : Option Addr} {z : Nat} {qs : List Nat} {l : List UInt8} (x : Nat), Same σ1 σ2 [] → Row c8 1 5 σ2 ad z qs l → l.length = 64 → x < 66 → ∃ σ', (bnd (evCall Tryz.prog env L (k0 + 7) 10 [ptr d, .int .i64 (x : Int), .slice ad 64 z] σ2) fun v64 v65 => some (Value.tuple #[Value.bool false, Value.nilIface], v65)) = some (.tuple #[.bool false, .nilIface], σ') ∧ (∀ H ∈ R, ∀ q ∈ H, σ'.get q = σ.get q) ∧
        ∀ n', k + 1 = n' → ImS σ0 σ' m d { s with W := s.W ++ [⟨(x : Int), mkSec l⟩], work := some (mk', bl', n') } R := by
      intro σ2 ad z qs l x s2 hR hl hx
      obtain ⟨v, σ3, g3, hor⟩ := D.write_spec (h11.idle s2) L (k0 + 4) (row_bytes hR) (z := z) (by omega) (x : Int)
      rw [hl] at g3
      rcases hor with ⟨F', hl', _, _, rfl, hD3, hT3⟩ | ⟨hno, _⟩ | ⟨_, hno, _⟩
      · have hO2 := hO1.idle s2
        have hO3 : Owns σ0 σ3 (F' :: G :: R) := hO2.turned 0 rfl hT3
        rw [g3, bnd_some]
        refine ⟨σ3, rfl, fun H hH q hq => ?_, fun n' hn' => ⟨F', G, _, by rw [mkSec_of hl]; exact hD3, (h21.same s2 (by simp)).same hT3.same hmF, hO3, h4, .inr ⟨b, mk', bl', n', rfl, rfl, e3, e4, ?_, hbl⟩⟩⟩
        · rw [rest_kept hO2 hT3.same (fun x hx => .inl hx) H hH q hq, s2.2 q (hO1.own H (by simp [hH]) q hq).2 (by simp), hk1 H hH q hq]
        · subst hn'
          rw [hT3.same.2 b (hO2.lt 1 rfl b e3) (hO2.off 1 0 (by omega) rfl rfl b e3), s2.2 b hblt1 (by simp)]; exact hW1.ex
      · exact absurd ⟨by omega, by omega⟩ hno
      · exact absurd hl hno
    -- all is laid fast
    have flush : ∃ F' σ', evCall Tryz.prog env L (k0 + 7) 111 [ptr d] σ1 = some (.tuple #[], σ') ∧ D.Disk σ' d F' (D.lay (fun _ => true) 0 s.S s.W) [] ∧ Img σ' m d (s.t : Nat) (s.km : Nat) s.bl (some ⟨b, 0, none⟩) ∧ Owns σ0 σ' (F' :: G :: R) ∧ σ'.get b = σ1.get b ∧ ∀ H ∈ R, ∀ q ∈ H, σ'.get q = σ.get q := by
      obtain ⟨F', σ2, g2, hD2, hT2⟩ := D.flush_spec L (k0 + 4) h11 (by omega) (by omega) hok.wr
      refine ⟨F', σ2, g2, hD2, h21.same hT2.same hmF, hO1.turned 0 rfl hT2, hT2.same.2 b hblt1 hbF, fun H hH q hq => ?_⟩
      rw [rest_kept hO1 hT2.same (fun x hx => .inl hx) H hH q hq, hk1 H hH q hq]
    by_cases hk32 : k < 32
    · have hget : bl'[k]? = some bl'[k] := List.getElem?_eq_getElem (by omega)
      have hsz := long_at hlg hget
      obtain ⟨σ2, g2, s2⟩ := hat (σ' := σ1)
      have hmi : (mk' : Int) = ((mk' : Nat) : Int) := rfl
      have hb2 : σ2.get b = σ1.get b := s2.2 b hblt1 (by simp)
      have h22 := h21.same s2 (by simp)
      obtain ⟨ad3, z3, q3, σ3, g3, hR3, s3, f3⟩ := bsector_spec L (k0 + 1) hL σ2 ((s.t + 1 : Nat) : Int) (mk' : Int) bl'[k] hsz
      have h23 := h22.same s3 (by simp)
      have hdv : IntKind.wrap .i64 (Int.tdiv (k : Int) 8) = ((k / 8 : Nat) : Int) := by
        have : Int.tdiv (k : Int) 8 = ((k / 8 : Nat) : Int) := by rw [Int.tdiv_eq_ediv_of_nonneg (by omega)]; rfl
        rw [this, wrap_in _ (by omega) (by omega)]
      have hmd : Int.tmod (k : Int) 8 = ((k % 8 : Nat) : Int) := by rw [Int.tmod_eq_emod_of_nonneg (by omega)]; rfl
      have hoff : 0 + 2 + Int.toNat ((k / 8 : Nat) : Int) * 8 + Int.toNat ((k % 8 : Nat) : Int) * 1 = 2 + k := by rw [Int.toNat_natCast, Int.toNat_natCast]; omega
      have rdk : ∀ {σ' : St}, σ'.get b = σ1.get b → ∀ K : Value → Res, σ'.ld b (2 + k) K = K (.string bl'[k]) := fun e K => by rw [hW1.ex] at e; exact ld_own K e (wkc_get _ _ _ _ hget)
      have hadd : IntKind.wrap .i64 (((2 + 32 * ((s.t + 1) % 2) : Nat) : Int) + (k : Int)) = ((2 + 32 * ((s.t + 1) % 2) + k : Nat) : Int) := by rw [wrap_in _ (by omega) (by omega)]; omega
      obtain ⟨σ4, e4', hk4, hI4⟩ := lay (2 + 32 * ((s.t + 1) % 2) + k) (s2.trans s3) hR3 (bsec_len _ _ hsz) (by omega)
      have g3' : evCall Tryz.prog env L (k0 + 7) 110 [.agg #[.int .i64 ((s.t + 1 : Nat) : Int), .int .i64 (mk' : Int)], .string bl'[k]] σ2 = _ := g3
      have hgd : bl'.getD k ⟨#[]⟩ = bl'[k] := by rw [List.getD_eq_getElem?_getD, hget]; rfl
      rw [decide_eq_true (by omega), br_true, ld_at h21.ex 0 _ rfl, asP_p, adr_some, rw2 rfl, uncons_c, asI_i, uncons_c, asI_i, endl_n, g2, bnd_some, asI_i, ld_at h22.ex 0 _ rfl, asP_p, chk_same, adr_some, rw2 hb2, uncons_c, asI_i, uncons_c, asI_i, endl_n, rw2 rfl, uncons_c, asI_i, uncons_c, asI_i, endl_n, chk_same, adr_some, hdv, hmd, need_of (by simp [inRange]; omega), need_of (by simp [inRange]; omega), hoff, rdk hb2, asS_s, rdk rfl, asS_s, chk_same, g3', bnd_some, asSl_s, ld_at h23.ex 0 _ rfl, asP_p, chk_same, hadd, e4']
      exact ⟨_, σ4, rfl, hk4, .inr ⟨mk', bl', k, rfl, by rw [decide_eq_false (by omega)], by unfold stepS; rw [if_pos hk32, hgd]; exact hI4 _ rfl⟩⟩
    rw [decide_eq_false (by omega), br_false]
    by_cases hk2 : k = 32
    · obtain ⟨F', σ2, g2, hD2, hI2, hO2, hb2, hr2⟩ := flush
      rw [show ((k : Int) == 32) = true by rw [beq_iff_eq]; omega, br_true, ld_at h21.ex 0 _ rfl, asP_p, g2, bnd_some, asT_t, toList0, endl_n]
      refine ⟨_, σ2, rfl, hr2, .inr ⟨mk', bl', k, rfl, by rw [decide_eq_false (by omega)], ?_⟩⟩
      unfold stepS
      rw [if_neg hk32, if_pos hk2]
      refine ⟨F', G, _, hD2, hI2, hO2, h4, .inr ⟨b, mk', bl', 33, rfl, rfl, e3, e4, ?_, hbl⟩⟩
      rw [hb2, hW1.ex, hk2]
    rw [show ((k : Int) == 32) = false by rw [beq_eq_false_iff_ne]; omega, br_false]
    by_cases hk3 : k = 33
    · obtain ⟨ad3, z3, q3, σ3, g3, hR3, s3, f3⟩ := hsector_spec L (k0 + 1) hL σ1 ((s.t + 1 : Nat) : Int) (mk' : Int)
      have h23 := h21.same s3 (by simp)
      have hb3 : σ3.get b = σ1.get b := s3.2 b hblt1 (by simp)
      have g3' : evCall Tryz.prog env L (k0 + 7) 112 [.agg #[.int .i64 ((s.t + 1 : Nat) : Int), .int .i64 (mk' : Int)]] σ1 = _ := g3
      have r1 : ∀ {σ' : St}, σ'.get b = σ1.get b → ∀ K : Value → Res, σ'.ld b (0 + 0 + 0) K = K (.int .i64 ((s.t + 1 : Nat) : Int)) := fun e K => by rw [hW1.ex] at e; exact ld_own K e rfl
      obtain ⟨σ4, e4', hk4, hI4⟩ := lay ((s.t + 1) % 2) s3 hR3 (hsec_len _ _) (by omega)
      rw [show ((k : Int) == 33) = true by rw [beq_iff_eq]; omega, br_true, ld_at h21.ex 0 _ rfl, asP_p, adr_some, r1 rfl, asI_i, adr_some, rw2 rfl, uncons_c, asI_i, uncons_c, asI_i, endl_n, g3', bnd_some, asSl_s, ld_at h23.ex 0 _ rfl, asP_p, chk_same, r1 hb3, asI_i, chk_same, tmod2, e4']
      exact ⟨_, σ4, rfl, hk4, .inr ⟨mk', bl', k, rfl, by rw [decide_eq_false (by omega)], by unfold stepS; rw [if_neg hk32, if_neg hk2, if_pos hk3]; exact hI4 34 (by omega)⟩⟩
    have hk4 : k = 34 := by omega
    obtain ⟨F', σ2, g2, hD2, hI2, hO2, hb2, hr2⟩ := flush
    have hgb2 : σ2.get b = _ := hb2.trans hW1.ex
    rw [show ((k : Int) == 33) = false by rw [beq_eq_false_iff_ne]; omega, br_false, ld_at h21.ex 0 _ rfl, asP_p, g2, bnd_some, asT_t, toList0, endl_n, adr_some, rw2 hb2, uncons_c, asI_i, uncons_c, asI_i, endl_n, adr_some, lds_own _ hgb2 (by rw [wkc_len, hbl]; decide), wkc_blocks _ _ _ _ hbl, put_own _ hI2.ex (by rw [imc_len, hI2.len]; simp) rfl, imc_head, need_of (by rw [strs_len, hbl]; rfl)]
    have a1 := Same.set σ2 m (.own (imc d ((s.t + 1 : Nat) : Int) (mk' : Int) s.bl (some ⟨b, 0, none⟩)) 169)
    have b1 : (σ2.set m (.own (imc d ((s.t + 1 : Nat) : Int) (mk' : Int) s.bl (some ⟨b, 0, none⟩)) 169)).get m = some (.own (imc d ((s.t + 1 : Nat) : Int) (mk' : Int) s.bl (some ⟨b, 0, none⟩)) 169) := get_set_same _ _ _
    generalize σ2.set m (.own (imc d ((s.t + 1 : Nat) : Int) (mk' : Int) s.bl (some ⟨b, 0, none⟩)) 169) = σ3 at a1 b1
    rw [put_own _ b1 (by rw [imc_len, strs_len, hI2.len, hbl]; decide) (strs_one _), imc_over _ _ _ _ _ _ hI2.len hbl]
    have a2 := Same.set σ3 m (.own (imc d ((s.t + 1 : Nat) : Int) (mk' : Int) bl' (some ⟨b, 0, none⟩)) 169)
    have b2 : (σ3.set m (.own (imc d ((s.t + 1 : Nat) : Int) (mk' : Int) bl' (some ⟨b, 0, none⟩)) 169)).get m = some (.own (imc d ((s.t + 1 : Nat) : Int) (mk' : Int) bl' (some ⟨b, 0, none⟩)) 169) := get_set_same _ _ _
    generalize σ3.set m (.own (imc d ((s.t + 1 : Nat) : Int) (mk' : Int) bl' (some ⟨b, 0, none⟩)) 169) = σ4 at a2 b2
    rw [put_at b2 35 (.pointer none) (by rw [imc_len, hbl]; decide) rfl, imc_setw _ _ _ _ _ _ hbl]
    have a3 := Same.set σ4 m (.own (imc d ((s.t + 1 : Nat) : Int) (mk' : Int) bl' none) 169)
    have a13 := (a1.trans a2).trans a3
    have hmF' : m ∉ F' := hO2.off 1 0 (by omega) rfl rfl m h4
    refine ⟨_, _, rfl, fun H hH q hq => ?_, .inr ⟨mk', bl', k, rfl, by rw [decide_eq_true hk4], ?_⟩⟩
    rotate_left
    · unfold stepS
      rw [if_neg hk32, if_neg hk2, if_neg hk3]
      exact ⟨F', G, none, hD2.same a13 (fun q hq => by simp; rintro rfl; exact hmF' hq), ⟨get_set_same _ _ _, by have := hI2.lt; have := a13.1; omega, hbl⟩, img_turn hO2 h4 a13, h4, .inl ⟨rfl, rfl⟩⟩
    rw [rest_kept hO2 a13 (fun x hx => by simp at hx; subst hx; exact .inr (.inl h4)) H hH q hq, hr2 H hH q hq]
end
end Go.AM.Bk

namespace Go.AM.Bk
theorem lay_snoc (kept : Nat → Bool) : ∀ (W : List D.Lw) (j : Nat) (S : List D.Sec) (w : D.Lw), D.lay kept j S (W ++ [w]) = if kept (j + W.length) = true then (D.lay kept j S W).set w.at_.toNat w.b else D.lay kept j S W
  | [], j, S, w => by simp [D.lay]
  | v :: W, j, S, w => by
    simp only [List.cons_append, D.lay, List.length_cons]
    rw [lay_snoc kept W (j + 1), show j + 1 + W.length = j + (W.length + 1) by omega]
theorem lay_other (kept : Nat → Bool) {i : Nat} : ∀ (W : List D.Lw) (j : Nat) (S : List D.Sec), (∀ w ∈ W, w.at_ ≠ (i : Int) ∧ 0 ≤ w.at_) → (D.lay kept j S W)[i]? = S[i]?
  | [], j, S, _ => rfl
  | v :: W, j, S, h => by
    simp only [D.lay]
    rw [lay_other kept W (j + 1) _ (fun w hw => h w (List.mem_cons_of_mem _ hw))]
    have := h v (by simp)
    split
    · rw [List.getElem?_set_ne (by omega)]
    · rfl
abbrev rd (S : List D.Sec) : Nat → List UInt8 := rdS S []
theorem rd_some {S : List D.Sec} {i : Nat} {s : D.Sec} (h : S[i]? = some s) : rd S i = s.1 := by unfold rd rdS; rw [h]; rfl
theorem rd_of {S S' : List D.Sec} {i : Nat} (h : S'[i]? = S[i]?) : rd S' i = rd S i := by unfold rd rdS; rw [h]
def areaW (t : Nat) (bl : List ByteArray) (k : Nat) : List D.Lw := (List.range k).map fun i => ⟨((2 + 32 * (t % 2) + i : Nat) : Int), mkSec (bsec (t : Int) (bl.getD i ⟨#[]⟩))⟩
theorem areaW_succ (t : Nat) (bl : List ByteArray) (k : Nat) : areaW t bl (k + 1) = areaW t bl k ++ [⟨((2 + 32 * (t % 2) + k : Nat) : Int), mkSec (bsec (t : Int) (bl.getD k ⟨#[]⟩))⟩] := by
  unfold areaW; rw [List.range_succ, List.map_append]; rfl
theorem areaW_len (t : Nat) (bl : List ByteArray) (k : Nat) : (areaW t bl k).length = k := by unfold areaW; simp
theorem areaW_in {t : Nat} {bl : List ByteArray} {k : Nat} {w : D.Lw} (h : w ∈ areaW t bl k) : ∃ i, i < k ∧ w.at_ = ((2 + 32 * (t % 2) + i : Nat) : Int) := by
  unfold areaW at h
  obtain ⟨i, hi, rfl⟩ := List.mem_map.1 h
  exact ⟨i, List.mem_range.1 hi, rfl⟩
theorem area_laid {S : List D.Sec} {t : Nat} {bl : List ByteArray} (hS : S.length = 66) (hl : long bl = false) (hb : bl.length = 32) : ∀ k : Nat, k ≤ 32 → ∀ i, i < k → rd (D.lay (fun _ => true) 0 S (areaW t bl k)) (2 + 32 * (t % 2) + i) = bsec (t : Int) (bl.getD i ⟨#[]⟩)
  | 0, _, i, hi => by omega
  | k + 1, hk, i, hi => by
    have hget : ∀ i, i < 32 → ∃ s, bl[i]? = some s ∧ bl.getD i ⟨#[]⟩ = s := fun i hi => by
      have h : bl[i]? = some bl[i] := List.getElem?_eq_getElem (by omega)
      exact ⟨_, h, by rw [List.getD_eq_getElem?_getD, h]; rfl⟩
    have hlen := D.lay_len (fun _ => true) (areaW t bl k) 0 S
    rw [areaW_succ, lay_snoc, if_pos rfl]
    by_cases hik : i = k
    · subst hik
      obtain ⟨s, h1, h2⟩ := hget i (by omega)
      have hsz := long_at hl h1
      rw [rd_some (s := mkSec (bsec (t : Int) (bl.getD i ⟨#[]⟩))) (by rw [List.getElem?_set, Int.toNat_natCast, if_pos rfl, if_pos (by rw [hlen, hS]; omega)]), mkSec_of (by rw [h2]; exact bsec_len _ _ hsz)]
    · rw [rd_of (S := D.lay (fun _ => true) 0 S (areaW t bl k)) (by rw [List.getElem?_set_ne (by rw [Int.toNat_natCast]; omega)])]
      exact area_laid hS hl hb k (by omega) i (by omega)
structure IS.Inv (s : IS) : Prop where
  sl : s.S.length = 66
  tl : s.t ≤ 900
  good : Good (rd s.S) s.t s.km s.bl
  work : match s.work with
    | none => s.W = []
    | some (mk', bl', k) => long bl' = false ∧ bl'.length = 32 ∧ s.km < mk' ∧ mk' ≤ top ∧
      ((k ≤ 32 ∧ s.W = areaW (s.t + 1) bl' k) ∨ (k = 33 ∧ s.W = [] ∧ ∀ i, i < 32 → rd s.S (2 + 32 * ((s.t + 1) % 2) + i) = bsec ((s.t + 1 : Nat) : Int) (bl'.getD i ⟨#[]⟩)) ∨
       (k = 34 ∧ s.W = [⟨(((s.t + 1) % 2 : Nat) : Int), mkSec (hsec ((s.t + 1 : Nat) : Int) (mk' : Nat))⟩] ∧ ∀ i, i < 32 → rd s.S (2 + 32 * ((s.t + 1) % 2) + i) = bsec ((s.t + 1 : Nat) : Int) (bl'.getD i ⟨#[]⟩)))
theorem IS.Inv.ok {s : IS} (h : s.Inv) : s.Ok := by
  have hw := h.work
  have hsl := h.sl
  refine ⟨h.sl, ?_, ?_, by have := h.tl; omega, h.good.hm, fun mk' bl' done e => ?_⟩
  · cases e : s.work with
    | none => rw [e] at hw; dsimp only at hw; rw [hw]; simp
    | some p =>
      obtain ⟨mk', bl', k⟩ := p
      rw [e] at hw
      obtain ⟨_, _, _, _, h5 | h5 | h5⟩ := hw
      · rw [h5.2, areaW_len]; omega
      · rw [h5.2.1]; simp
      · rw [h5.2.1]; simp
  · cases e : s.work with
    | none => rw [e] at hw; dsimp only at hw; rw [hw]; intro w hw; cases hw
    | some p =>
      obtain ⟨mk', bl', k⟩ := p
      rw [e] at hw
      obtain ⟨_, _, _, _, h5 | h5 | h5⟩ := hw
      · rw [h5.2]
        intro w hw
        obtain ⟨i, hi, e⟩ := areaW_in hw
        rw [e]; omega
      · rw [h5.2.1]; intro w hw; cases hw
      · rw [h5.2.1]
        intro w hw
        simp at hw
        subst hw
        dsimp only
        omega
  · rw [e] at hw
    obtain ⟨w1, w2, w3, w4, h5 | h5 | h5⟩ := hw
    · exact ⟨by omega, w1, w2, w3, w4, by rw [h5.2, areaW_len]; exact Nat.le_refl _⟩
    · exact ⟨by omega, w1, w2, w3, w4, by rw [h5.2.1]; simp⟩
    · exact ⟨by omega, w1, w2, w3, w4, by rw [h5.2.1]; simp; omega⟩
theorem IS.Inv.begin {s : IS} (h : s.Inv) (hw : s.work = none) {b : List ByteArray} (hb : b.length = 32) (hl : long b = false) {mark : Int} (h1 : mark ≤ top) (h2 : s.km < mark) : IS.Inv { s with work := some (mark.toNat, b, 0) } := by
  have hww := h.work
  rw [hw] at hww
  exact ⟨h.sl, h.tl, h.good, hl, hb, by show s.km < mark.toNat; omega, by omega, .inl ⟨by omega, hww⟩⟩
theorem Good.layArea {S : List D.Sec} {t mk : Nat} {bl : List ByteArray} (h : Good (rd S) t mk bl) (kept : Nat → Bool) {bl' : List ByteArray} {k : Nat} (hk : k ≤ 32) : Good (rd (D.lay kept 0 S (areaW (t + 1) bl' k))) t mk bl := by
  have key : ∀ i, (i = 0 ∨ i = 1 ∨ ∃ j, j < 32 ∧ i = 2 + 32 * (t % 2) + j) → rd (D.lay kept 0 S (areaW (t + 1) bl' k)) i = rd S i := by
    intro i hi
    apply rd_of
    apply lay_other
    intro w hw
    obtain ⟨j, hj, e⟩ := areaW_in hw
    rw [e]
    rcases hi with rfl | rfl | ⟨j', hj', rfl⟩ <;> omega
  exact h.frame (key 0 (.inl rfl)) (key 1 (.inr (.inl rfl))) (fun i hi => key _ (.inr (.inr ⟨i, hi, rfl⟩)))
theorem Good.layHead {S : List D.Sec} {t mk : Nat} {bl : List ByteArray} (h : Good (rd S) t mk bl) (hS : S.length = 66) (ht : t ≤ 900) {mk' : Nat} {bl' : List ByteArray} (hl : long bl' = false) (hb : bl'.length = 32) (hm : mk' ≤ top) (h1 : mk < mk')
    (ha : ∀ i, i < 32 → rd S (2 + 32 * ((t + 1) % 2) + i) = bsec ((t + 1 : Nat) : Int) (bl'.getD i ⟨#[]⟩)) : Good (rd (S.set ((t + 1) % 2) (mkSec (hsec ((t + 1 : Nat) : Int) (mk' : Nat))))) (t + 1) mk' bl' := by
  refine h.next (by omega) hb hm (by omega) ?_ ?_ (fun i s hi => ?_)
  · rw [rd_some (s := mkSec (hsec ((t + 1 : Nat) : Int) (mk' : Nat))) (by rw [List.getElem?_set, if_pos rfl, if_pos (by omega)]), mkSec_of (hsec_len _ _)]
  · exact rd_of (List.getElem?_set_ne (by omega))
  · have hil := (List.getElem?_eq_some_iff.1 hi).1
    refine ⟨?_, long_at hl hi⟩
    rw [rd_of (S := S) (List.getElem?_set_ne (by omega)), ha i (by omega), List.getD_eq_getElem?_getD, hi]
    rfl
theorem IS.Inv.step {s : IS} (h : s.Inv) (ht : s.t ≤ 899) {mk' : Nat} {bl' : List ByteArray} {k : Nat} (hw : s.work = some (mk', bl', k)) : (stepS s mk' bl' k).Inv := by
  have hww := h.work
  rw [hw] at hww
  obtain ⟨w1, w2, w3, w4, h5⟩ := hww
  have hsl := h.sl
  unfold stepS
  rcases h5 with ⟨hk, hW⟩ | ⟨hk, hW, ha⟩ | ⟨hk, hW, ha⟩
  · by_cases hk32 : k < 32
    · rw [if_pos hk32]
      exact ⟨h.sl, h.tl, h.good, w1, w2, w3, w4, .inl ⟨by omega, by rw [hW, areaW_succ]⟩⟩
    · have hk2 : k = 32 := by omega
      subst hk2
      rw [if_neg hk32, if_pos rfl, hW]
      have hg := h.good.layArea (fun _ => true) (bl' := bl') (k := 32) (Nat.le_refl _)
      have ha := area_laid (t := s.t + 1) hsl w1 w2 32 (Nat.le_refl _)
      have hln := D.lay_len (fun _ => true) (areaW (s.t + 1) bl' 32) 0 s.S
      generalize D.lay (fun _ => true) 0 s.S (areaW (s.t + 1) bl' 32) = S' at hg ha hln ⊢
      exact ⟨hln.trans hsl, h.tl, hg, w1, w2, w3, w4, .inr (.inl ⟨rfl, rfl, ha⟩)⟩
  · subst hk
    rw [if_neg (by omega), if_neg (by omega), if_pos rfl, hW]
    exact ⟨h.sl, h.tl, h.good, w1, w2, w3, w4, .inr (.inr ⟨rfl, rfl, ha⟩)⟩
  · subst hk
    rw [if_neg (by omega), if_neg (by omega), if_neg (by omega), hW]
    have e : D.lay (fun _ => true) 0 s.S [⟨(((s.t + 1) % 2 : Nat) : Int), mkSec (hsec ((s.t + 1 : Nat) : Int) (mk' : Nat))⟩] = s.S.set ((s.t + 1) % 2) (mkSec (hsec ((s.t + 1 : Nat) : Int) (mk' : Nat))) := rfl
    rw [e]
    exact ⟨by rw [List.length_set]; exact hsl, by dsimp only; omega, h.good.layHead hsl h.tl w1 w2 w4 w3 ha, rfl⟩
theorem IS.Inv.crash {s : IS} (h : s.Inv) (kept : Nat → Bool) : Good (rd (D.lay kept 0 s.S s.W)) s.t s.km s.bl ∨ ∃ mk' bl', s.work = some (mk', bl', 34) ∧ kept 0 = true ∧ Good (rd (D.lay kept 0 s.S s.W)) (s.t + 1) mk' bl' := by
  have hww := h.work
  cases hw : s.work with
  | none => rw [hw] at hww; dsimp only at hww; rw [hww]; exact .inl h.good
  | some p =>
    obtain ⟨mk', bl', k⟩ := p
    rw [hw] at hww
    obtain ⟨w1, w2, w3, w4, h5⟩ := hww
    rcases h5 with ⟨hk, hW⟩ | ⟨hk, hW, ha⟩ | ⟨hk, hW, ha⟩
    · rw [hW]; exact .inl (h.good.layArea kept hk)
    · rw [hW]; exact .inl h.good
    · rw [hW]
      by_cases hk0 : kept 0 = true
      · refine .inr ⟨mk', bl', by rw [hk], hk0, ?_⟩
        have e : D.lay kept 0 s.S [⟨(((s.t + 1) % 2 : Nat) : Int), mkSec (hsec ((s.t + 1 : Nat) : Int) (mk' : Nat))⟩] = s.S.set ((s.t + 1) % 2) (mkSec (hsec ((s.t + 1 : Nat) : Int) (mk' : Nat))) := by
          simp only [D.lay]; rw [if_pos hk0]; rfl
        rw [e]
        exact h.good.layHead h.sl h.tl w1 w2 w4 w3 ha
      · refine .inl ?_
        have e : D.lay kept 0 s.S [⟨(((s.t + 1) % 2 : Nat) : Int), mkSec (hsec ((s.t + 1 : Nat) : Int) (mk' : Nat))⟩] = s.S := by
          simp only [D.lay]; rw [if_neg hk0]
        rw [e]
        exact h.good
end Go.AM.Bk

namespace Go.AM
open Go.RowKit Go.ChangeShapes
variable [Laid]
section
variable {H : Type} {enc : TypeId × Value → H} {P : Program}
end
end Go.AM

namespace Go.AM.Bk
open Go.Proofs
theorem _root_.Go.AM.Owns.map {σ0 σ : St} {Fs Gs : List (List Nat)} (h : Owns σ0 σ Fs) (f : Nat → Nat) (hf : ∀ i j, f i = f j → i = j) (hg : ∀ i G, Gs[i]? = some G → Fs[f i]? = some G) : Owns σ0 σ Gs :=
  ⟨h.kept, fun G hG q hq => by
    obtain ⟨i, hi⟩ := List.mem_iff_getElem?.1 hG
    exact h.own G (List.mem_of_getElem? (hg i G hi)) q hq, fun i j A B hij ha hb => h.dis (f i) (f j) A B (fun e => hij (hf i j e)) (hg i A ha) (hg j B hb)⟩
theorem _root_.Go.AM.Owns.flip {σ0 σ : St} {A B : List Nat} {R : List (List Nat)} (h : Owns σ0 σ (A :: B :: R)) : Owns σ0 σ (B :: A :: R) :=
  h.map (fun i => if i = 0 then 1 else if i = 1 then 0 else i) (fun i j e => by
    by_cases a0 : i = 0 <;> by_cases a1 : i = 1 <;> by_cases b0 : j = 0 <;> by_cases b1 : j = 1 <;> simp [a0, a1, b0, b1] at e <;> omega) (fun i G hG => by
    match i, hG with
    | 0, hG => exact hG
    | 1, hG => exact hG
    | i + 2, hG => simpa using hG)
theorem _root_.Go.AM.Owns.second {σ0 σ : St} {A B : List Nat} {R : List (List Nat)} (h : Owns σ0 σ (A :: B :: R)) : Owns σ0 σ (A :: R) := h.flip.forget
section
variable {σ0 σ : St} {m d : Nat} {R : List (List Nat)}
theorem openS {F : List Nat} {S : List D.Sec} {W : List D.Lw} (hD : D.Disk σ d F S W) (hO : Owns σ0 σ (F :: R)) (hS : 66 ≤ S.length) (hW : W.length ≤ 10000) (L k : Nat) (hL : 100000 < L) :
    (∃ t mk bl m σ', opn (rdS S W) = some (t, mk, bl) ∧ evCall Tryz.prog env L (k + 10) 45 [ptr d] σ = some (.tuple #[ptr m, .nilIface], σ') ∧ ImS σ0 σ' m d ⟨S, W, t, mk, bl, none⟩ R ∧ (∀ H ∈ R, ∀ q ∈ H, σ'.get q = σ.get q)) ∨
    (∃ e σ', opn (rdS S W) = none ∧ evCall Tryz.prog env L (k + 10) 45 [ptr d] σ = some (.tuple #[.pointer none, e], σ') ∧ Err σ' e 4 0 ∧ D.Disk σ' d F S W ∧ Owns σ0 σ' (F :: R) ∧ (∀ H ∈ R, ∀ q ∈ H, σ'.get q = σ.get q)) := by
  have keep : ∀ {σ' : St}, Same σ σ' [] → ∀ H ∈ R, ∀ q ∈ H, σ'.get q = σ.get q := fun hs H hH q hq => hs.2 q (hO.own H (by simp [hH]) q hq).2 (by simp)
  rcases open_img L k hL hW hS hD with ⟨m, t, mk, bl, σ', ho, g, hI, hm, hs⟩ | ⟨q, σ', ho, g, hq, hql, hs⟩
  · refine .inl ⟨t, mk, bl, m, σ', ho, g, ⟨F, [m], none, hD.idle hs, hI, ((hO.more hs (F := [m]) (by have := hI.lt; simp; omega)).flip), by simp, .inl ⟨rfl, rfl⟩⟩, keep hs⟩
  · exact .inr ⟨_, σ', ho, g, ⟨q, rfl, hq, hql⟩, hD.idle hs, hO.idle hs, keep hs⟩
theorem openGood {F : List Nat} {S : List D.Sec} (hD : D.Disk σ d F S []) (hO : Owns σ0 σ (F :: R)) (hS : S.length = 66) (L k : Nat) (hL : 100000 < L) {t mk : Nat} {bl : List ByteArray} (hg : Good (rd S) t mk bl) (ht : t ≤ 900) :
    ∃ m σ', evCall Tryz.prog env L (k + 10) 45 [ptr d] σ = some (.tuple #[ptr m, .nilIface], σ') ∧ ImS σ0 σ' m d ⟨S, [], t, mk, bl, none⟩ R ∧ (∀ H ∈ R, ∀ q ∈ H, σ'.get q = σ.get q) ∧ IS.Inv ⟨S, [], t, mk, bl, none⟩ := by
  rcases openS hD hO (by omega) (by simp) L k hL with ⟨t', mk', bl', m, σ', ho, g, hI, hk⟩ | ⟨_, _, ho, _⟩
  · rw [show rdS S [] = rd S from rfl, hg.opn] at ho
    cases ho
    exact ⟨m, σ', g, hI, hk, ⟨hS, ht, hg, rfl⟩⟩
  · rw [show rdS S [] = rd S from rfl, hg.opn] at ho; cases ho
theorem ImS.disk {s : IS} (h : ImS σ0 σ m d s R) : ∃ F, D.Disk σ d F s.S s.W ∧ Owns σ0 σ (F :: R) := by
  obtain ⟨F, G, w, h1, h2, h3, _⟩ := h.ex
  exact ⟨F, h1, h3.second⟩
theorem crashD {F : List Nat} {S : List D.Sec} {W : List D.Lw} (hD : D.Disk σ d F S W) (hO : Owns σ0 σ (F :: R)) (hwl : W.length ≤ 100) (hwr : D.InR S.length W) (L k : Nat) (hL : 100000 < L) (keep : Int) :
    ∃ F' σ', evCall Tryz.prog env L (k + 3) 66 [ptr d, .int .u64 keep] σ = some (.tuple #[], σ') ∧ D.Disk σ' d F' (D.lay (D.bit keep) 0 S W) [] ∧ Owns σ0 σ' (F' :: R) ∧ (∀ H ∈ R, ∀ q ∈ H, σ'.get q = σ.get q) ∧ σ.next ≤ σ'.next := by
  obtain ⟨F', σ', g, hD', hT⟩ := D.crash_spec L k hD (by omega) (by omega) hwr keep
  refine ⟨F', σ', g, hD', hO.turned 0 rfl hT, fun H hH q hq => ?_, hT.same.1⟩
  obtain ⟨i, hi⟩ := List.mem_iff_getElem?.1 hH
  exact hT.same.2 q (hO.own H (by simp [hH]) q hq).2 (hO.off (i + 1) 0 (by omega) (by simpa using hi) rfl q hq)
theorem crashS {s : IS} (h : ImS σ0 σ m d s R) (hok : s.Ok) (L k : Nat) (hL : 100000 < L) (keep : Int) :
    ∃ F' σ', evCall Tryz.prog env L (k + 3) 66 [ptr d, .int .u64 keep] σ = some (.tuple #[], σ') ∧ D.Disk σ' d F' (D.lay (D.bit keep) 0 s.S s.W) [] ∧ Owns σ0 σ' (F' :: R) ∧ (∀ H ∈ R, ∀ q ∈ H, σ'.get q = σ.get q) := by
  obtain ⟨F, hD, hO⟩ := h.disk
  obtain ⟨F', σ', g, h1, h2, h3, _⟩ := crashD hD hO hok.wl hok.wr L k hL keep
  exact ⟨F', σ', g, h1, h2, h3⟩
theorem markS {s : IS} (h : ImS σ0 σ m d s R) (L k : Nat) : evCall Tryz.prog env L (k + 1) 56 [ptr m] σ = some (.int .i64 (s.km : Nat), σ) := by
  obtain ⟨F, G, w, h1, h2, _⟩ := h.ex
  exact mark_spec h2 L k
theorem blocksS {s : IS} (h : ImS σ0 σ m d s R) (L k : Nat) : ∃ σ', evCall Tryz.prog env L (k + 1) 55 [ptr m] σ = some (.agg (strs s.bl).toArray, σ') ∧ Same σ σ' [] := by
  obtain ⟨F, G, w, h1, h2, _⟩ := h.ex
  exact blocks_spec h2 L k
theorem ImS.blen {s : IS} (h : ImS σ0 σ m d s R) : s.bl.length = 32 := by
  obtain ⟨F, G, w, h1, h2, _⟩ := h.ex
  exact h2.len
theorem ImS.kept {s : IS} (h : ImS σ0 σ m d s R) : Kept' σ0.next σ0 σ := by
  obtain ⟨F, G, w, h1, h2, h3, _⟩ := h.ex
  exact h3.kept
end
def fresh66 : List D.Sec := List.replicate 66 D.zsec
def noBlocks : List ByteArray := List.replicate 32 ⟨#[]⟩
theorem good66 : Good (rd fresh66) 0 0 noBlocks :=
  ⟨rfl, by omega, by unfold top; omega, fun _ => ⟨rfl, rfl, rfl, rfl⟩, fun h => by omega, fun h => by omega, fun h => by omega⟩
theorem new66 (L k : Nat) {σ0 σ : St} {R : List (List Nat)} (hO : Owns σ0 σ R) : ∃ d F σ', evCall Tryz.prog env L (k + 1) 8 [.int .i64 66] σ = some (ptr d, σ') ∧ D.Disk σ' d F fresh66 [] ∧ Owns σ0 σ' (F :: R) ∧ Same σ σ' [] := by
  obtain ⟨d, F, σ', g, hD, hs, hq⟩ := D.new_spec L k σ 66
  exact ⟨d, F, σ', g, hD, hO.more hs (fun q h => ⟨hq q h, hD.lt q h⟩), hs⟩
def cS (s : ByteArray) : List Value := [.string s]
end Go.AM.Bk

namespace Go.AM.Bk
open Go.Proofs
theorem lit32 : ([Value.string ⟨#[]⟩, Value.string ⟨#[]⟩, Value.string ⟨#[]⟩, Value.string ⟨#[]⟩, Value.string ⟨#[]⟩, Value.string ⟨#[]⟩, Value.string ⟨#[]⟩, Value.string ⟨#[]⟩, Value.string ⟨#[]⟩, Value.string ⟨#[]⟩, Value.string ⟨#[]⟩, Value.string ⟨#[]⟩, Value.string ⟨#[]⟩, Value.string ⟨#[]⟩, Value.string ⟨#[]⟩, Value.string ⟨#[]⟩, Value.string ⟨#[]⟩, Value.string ⟨#[]⟩, Value.string ⟨#[]⟩, Value.string ⟨#[]⟩, Value.string ⟨#[]⟩, Value.string ⟨#[]⟩, Value.string ⟨#[]⟩, Value.string ⟨#[]⟩, Value.string ⟨#[]⟩, Value.string ⟨#[]⟩, Value.string ⟨#[]⟩, Value.string ⟨#[]⟩, Value.string ⟨#[]⟩, Value.string ⟨#[]⟩, Value.string ⟨#[]⟩, Value.string ⟨#[]⟩] : List Value) = strs noBlocks := rfl
theorem long_none : long noBlocks = false := by decide
end Go.AM.Bk

namespace Go.AM.Bk
open Go.Proofs
end Go.AM.Bk

namespace Go.AM.Bk
open Go.Proofs
end Go.AM.Bk

namespace Go.AM.Bk
open Go.Proofs
structure Phase (s : IS) (t0 km0 : Nat) (bl0 : List ByteArray) (M : Nat) (B : List ByteArray) (i : Nat) : Prop where
  inv : s.Inv
  le : i ≤ 35
  mid : i < 35 → s.work = some (M, B, i) ∧ s.km = km0 ∧ s.bl = bl0 ∧ s.t = t0
  fin : i = 35 → s.work = none ∧ s.km = M ∧ s.bl = B ∧ s.t = t0 + 1
section
variable {σ0 : St} {m d r : Nat} {B : List ByteArray} {M : Nat}
end
end Go.AM.Bk

namespace Go.AM.Bk.S
open Go.Proofs
structure Rec where
  seq : Int
  kind : Int
  block : Int
  data : ByteArray
  number : Int
def c5 (r : Rec) : List Value := [.int .i64 r.seq, .int .i64 r.kind, .int .i64 r.block, .string r.data, .int .i64 r.number]
theorem c5_len (r : Rec) : (c5 r).length = 5 := rfl
theorem c5_one (r : Rec) : (c5 r).all oneCell = true := rfl
def Rec.agg (r : Rec) : Value := .agg [.int .i64 r.seq, .int .i64 r.kind, .int .i64 r.block, .string r.data, .int .i64 r.number].toArray
theorem num_spec (L k : Nat) (σ : St) (a b : Int) : evCall Tryz.prog env L (k + 1) 130 [.int .i64 a, .int .i64 b] σ = some (.bool (decide (a ≥ b) && decide (a ≤ 1152921504606846975)), σ) := by
  rw [f130_eq]
  by_cases h : a ≥ b
  · rw [decide_eq_true h]; rfl
  · rw [decide_eq_false h]; rfl
theorem right_mark (L k : Nat) (σ : St) (s n : Int) (hs : 1 ≤ s) (hs' : s ≤ 1152921504606846975) (hn : 1 ≤ n) (hn' : n ≤ 1152921504606846975) :
    Ends (fun v σ' => v = .bool true ∧ Same σ σ' []) (evCall Tryz.prog env L (k + 2) 101 [Rec.agg ⟨s, 2, 0, ⟨#[]⟩, n⟩] σ) := by
  unfold Rec.agg
  rw [f101_eq]
  generalize hσ1 : σ.new (Blk.own [Value.int IntKind.i64 s, Value.int IntKind.i64 2, Value.int IntKind.i64 0, Value.string ⟨#[]⟩, Value.int IntKind.i64 n] 58) = σ1
  have hn : σ1.get σ.next = some (Blk.own [Value.int IntKind.i64 s, Value.int IntKind.i64 2, Value.int IntKind.i64 0, Value.string ⟨#[]⟩, Value.int IntKind.i64 n] 58) := by rw [← hσ1, get_new_same]
  have hs1 : Same σ σ1 [] := by rw [← hσ1]; exact Same.new _ _ _
  have hx1 : σ1.next = σ.next + 1 := by rw [← hσ1]; rfl
  have hput := fun K => put_int hn 4 .i64 0 (by simp) K
  generalize hσ2 : σ1.set σ.next (.own (List.set [Value.int IntKind.i64 s, Value.int IntKind.i64 2, Value.int IntKind.i64 0, Value.string ⟨#[]⟩, Value.int IntKind.i64 n] 4 (.int .i64 0)) 58) = σ2 at hput
  have hn2 : σ2.get σ.next = some (Blk.own [Value.int IntKind.i64 s, Value.int IntKind.i64 2, Value.int IntKind.i64 0, Value.string ⟨#[]⟩, Value.int IntKind.i64 0] 58) := by rw [← hσ2, get_set_same]; rfl
  have hs2 : Same σ σ2 [] := ⟨by rw [← hσ2]; simp [hx1], fun k hk _ => by rw [← hσ2, get_set (by omega), hs1.2 k hk (by simp)]⟩
  have a0 := fun K => ld_at hn 0 _ rfl K
  have a1 := fun K => ld_at hn 1 _ rfl K
  have a3 := fun K => ld_at hn 3 _ rfl K
  have a4 := fun K => ld_at hn 4 _ rfl K
  have b1 := fun K => ld_at hn2 1 _ rfl K
  have b2 := fun K => ld_at hn2 2 _ rfl K
  have b3 := fun K => ld_at hn2 3 _ rfl K
  have b4 := fun K => ld_at hn2 4 _ rfl K
  have t1 : (decide (s ≥ 1) && decide (s ≤ 1152921504606846975)) = true := by simp; omega
  have t2 : (decide (n ≥ 1) && decide (n ≤ 1152921504606846975)) = true := by simp; omega
  have t3 : ((2 : Int) == 2) = true := rfl
  have t4 : (ByteArray.toList ⟨#[]⟩ == ByteArray.toList ⟨#[]⟩) = true := by simp
  have t5 : decide ((0 : Int) ≥ 0) = true := rfl
  have t6 : decide ((0 : Int) < 8) = true := rfl
  have t7 : decide (((ByteArray.size ⟨#[]⟩ : Nat) : Int) ≤ 16) = true := rfl
  have t8 : ((0 : Int) == 0) = true := rfl
  have t9 : ((2 : Int) == 1) = false := rfl
  simp only [a0, a1, a3, a4, b1, b2, b3, b4, asI_i, asS_s, num_spec, bnd_some, asB_b, hput, t1, t2, t3, t4, t5, t6, t7, t8, t9, br_true, br_false]
  exact .leaf ⟨rfl, hs2⟩
structure Stg (σ : St) (a : Nat) (F : List Nat) (first : Int) (rs : List Rec) (fast : Nat) (mark : Int) : Prop where
  ex : ∃ qs ad z, F = a :: qs ∧ a ∉ qs ∧ σ.get a = some (.own [.int .i64 first, .slice ad rs.length z, .int .i64 fast, .int .i64 mark] 175) ∧ Row c5 5 58 σ ad z qs rs
  lt : ∀ q ∈ F, q < σ.next
theorem Stg.same {σ σ' : St} {a : Nat} {F S : List Nat} {first mark : Int} {rs : List Rec} {fast : Nat} (h : Stg σ a F first rs fast mark) (hs : Same σ σ' S) (hF : ∀ q ∈ F, q ∉ S) : Stg σ' a F first rs fast mark := by
  obtain ⟨qs, ad, z, rfl, h1, h2, h3⟩ := h.ex
  exact ⟨⟨qs, ad, z, rfl, h1, by rw [hs.2 a (h.lt a (by simp)) (hF a (by simp))]; exact h2, h3.same hs (fun q hq => hF q (by simp [hq]))⟩, fun q hq => by have := h.lt q hq; have := hs.1; omega⟩
theorem Stg.idle {σ σ' : St} {a : Nat} {F : List Nat} {first mark : Int} {rs : List Rec} {fast : Nat} (h : Stg σ a F first rs fast mark) (hs : Same σ σ' []) : Stg σ' a F first rs fast mark := h.same hs (by simp)
theorem new_spec (L k : Nat) (σ : St) : ∃ σ', evCall Tryz.prog env L (k + 1) 47 [.int .i64 1] σ = some (.pointer (some ⟨σ.next, 0, none⟩), σ') ∧ Stg σ' σ.next [σ.next] 1 [] 0 0 ∧ Same σ σ' [] := by
  rw [f47_eq, show mx (1 : Int) (mn 1 1152921504606846975) = 1 from rfl]
  exact ⟨_, rfl, ⟨⟨[], none, 0, rfl, by simp, by rw [get_new_same]; rfl, ⟨by simp, .inl ⟨rfl, rfl, rfl, rfl⟩⟩⟩, by simp⟩, Same.new _ _ _⟩
section
variable {σ : St} {a : Nat} {F : List Nat} {first mark : Int} {rs : List Rec} {fast : Nat} (h : Stg σ a F first rs fast mark) (L k : Nat)
include h
theorem last_spec (h0 : 1 ≤ first) (h1 : first ≤ 1152921504607846976) (hl : rs.length ≤ 100000) (hf : fast ≤ rs.length) :
    evCall Tryz.prog env L (k + 1) 100 [.pointer (some ⟨a, 0, none⟩)] σ = some (.tuple #[.int .i64 (first + rs.length - 1), .int .i64 (first + fast - 1)], σ) := by
  obtain ⟨qs, ad, z, rfl, hne, hg, hrow⟩ := h.ex
  rw [f100_eq]
  simp only [ld_at hg 0 _ rfl, ld_at hg 1 _ rfl, ld_at hg 2 _ rfl, asI_i, asSl_s]
  rw [wrap_in (first + (rs.length : Int)) (by omega) (by omega), wrap_in (first + (fast : Int)) (by omega) (by omega), wrap_in _ (by omega) (by omega), wrap_in _ (by omega) (by omega)]
theorem dropped_spec (h0 : 1 ≤ first) (h1 : first ≤ 1152921504607846976) :
    evCall Tryz.prog env L (k + 1) 69 [.pointer (some ⟨a, 0, none⟩)] σ = some (.tuple #[.int .i64 (first - 1), .int .i64 mark], σ) := by
  obtain ⟨qs, ad, z, rfl, hne, hg, hrow⟩ := h.ex
  rw [f69_eq]
  simp only [ld_at hg 0 _ rfl, ld_at hg 3 _ rfl, asI_i]
  rw [wrap_in _ (by omega) (by omega)]
theorem sflush_spec : ∃ σ', evCall Tryz.prog env L (k + 1) 60 [.pointer (some ⟨a, 0, none⟩)] σ = some (.tuple #[], σ') ∧ Stg σ' a F first rs rs.length mark ∧ Turn σ σ' F F := by
  obtain ⟨qs, ad, z, rfl, hne, hg, hrow⟩ := h.ex
  have hlt := h.lt
  rw [f60_eq]
  simp only [ld_at hg 1 _ rfl, asSl_s, put_int hg 2 _ _ (by simp)]
  have hs := Same.set σ a (.own (List.set [Value.int .i64 first, .slice ad rs.length z, .int .i64 fast, .int .i64 mark] 2 (.int .i64 rs.length)) 175)
  exact ⟨_, rfl, ⟨⟨qs, ad, z, rfl, hne, by rw [get_set_same]; rfl, hrow.same hs (fun q hq => by simp; rintro rfl; exact hne hq)⟩, by simpa using hlt⟩, hs.mono (by simp), fun q hq => ⟨.inl hq, by simpa using hlt q hq⟩⟩
theorem cut_spec : ∃ σ', evCall Tryz.prog env L (k + 1) 68 [.pointer (some ⟨a, 0, none⟩)] σ = some (.int .i64 rs.length, σ') ∧ Stg σ' a [a] first [] 0 mark ∧ Turn σ σ' F [a] := by
  obtain ⟨qs, ad, z, rfl, hne, hg, hrow⟩ := h.ex
  have hlt := h.lt
  rw [f68_eq]
  simp only [ld_at hg 1 _ rfl, asSl_s, put_sl hg 1 _ _ _ (by simp)]
  generalize hσ1 : σ.set a (.own (List.set [Value.int .i64 first, .slice ad rs.length z, .int .i64 fast, .int .i64 mark] 1 (.slice none 0 0)) 175) = σ1
  have hg1 : σ1.get a = some (.own [Value.int .i64 first, .slice none 0 0, .int .i64 fast, .int .i64 mark] 175) := by rw [← hσ1, get_set_same]; rfl
  have hs1 : Same σ σ1 [a] := by rw [← hσ1]; exact Same.set _ _ _
  have hal := hlt a (by simp)
  have h1n := hs1.1
  rw [put_int hg1 2 _ _ (by simp)]
  have hs2 := Same.set σ1 a (.own (List.set [Value.int .i64 first, .slice none 0 0, .int .i64 fast, .int .i64 mark] 2 (.int .i64 0)) 175)
  exact ⟨_, rfl, ⟨⟨[], none, 0, rfl, by simp, by rw [get_set_same]; rfl, Row.nil _ _ _ _⟩, by simp; omega⟩, (hs1.trans hs2).mono (by simp), fun q hq => ⟨.inl (by simp at hq; simp [hq]), by simp at hq; subst hq; simp; omega⟩⟩
theorem take_gen (h0 : 1 ≤ first) (h1 : first ≤ 1152921504607846976) (hl : rs.length ≤ 100000) (hf : fast ≤ rs.length) (r : Rec) (P : Bool → Prop) (hP : ∀ σ, Ends (fun v σ' => (∃ b, v = .bool b ∧ P b) ∧ Same σ σ' []) (evCall Tryz.prog env L (k + 2) 101 [r.agg] σ)) :
    Ends (fun v σ' => ∃ rs' F', v = .int .i64 (first + rs'.length - 1) ∧ Stg σ' a F' first rs' fast mark ∧ Turn σ σ' F F' ∧ ((rs' = rs ∧ (r.seq ≠ first + rs.length ∨ P false)) ∨ (r.seq = first + rs.length ∧ P true ∧ rs' = rs ++ [r]))) (evCall Tryz.prog env L (k + 3) 59 [.pointer (some ⟨a, 0, none⟩), r.agg] σ) := by
  obtain ⟨qs, ad, z, rfl, hne, hg, hrow⟩ := h.ex
  have hlt := h.lt
  have hal := hlt a (by simp)
  unfold Rec.agg
  rw [f59_eq]
  generalize hσ1 : σ.new (Blk.own [Value.int IntKind.i64 r.seq, Value.int IntKind.i64 r.kind, Value.int IntKind.i64 r.block, Value.string r.data, Value.int IntKind.i64 r.number] 58) = σ1
  have hn1 : σ1.get σ.next = some (Blk.own [Value.int IntKind.i64 r.seq, Value.int IntKind.i64 r.kind, Value.int IntKind.i64 r.block, Value.string r.data, Value.int IntKind.i64 r.number] 58) := by rw [← hσ1, get_new_same]
  have hs1 : Same σ σ1 [] := by rw [← hσ1]; exact Same.new _ _ _
  have hx1 : σ1.next = σ.next + 1 := by rw [← hσ1]; rfl
  have h1s := h.idle hs1
  rw [last_spec h1s L (k + 1) h0 h1 hl hf, bnd_some, asT_t, show ∀ x y : Value, (#[x, y] : Array Value).toList = [x, y] from fun _ _ => rfl, uncons_c, asI_i, uncons_c, asI_i, endl_n, ld_at hn1 0 _ rfl, asI_i, wrap_in _ (by omega) (by omega)]
  by_cases hq : r.seq = first + rs.length - 1 + 1
  · rw [show (r.seq != first + (rs.length : Int) - 1 + 1) = false by simpa using hq, br_false, lds_all (n := 5) hn1 rfl]
    rw [uncons_c, asI_i, uncons_c, asI_i, uncons_c, asI_i, uncons_c, asS_s, uncons_c, asI_i, endl_n]
    obtain ⟨v, σ2, g1, ⟨b, rfl, hPb⟩, hs2⟩ := hP σ1
    rw [show Value.agg #[Value.int .i64 r.seq, .int .i64 r.kind, .int .i64 r.block, .string r.data, .int .i64 r.number] = r.agg from rfl, g1, bnd_some, asB_b]
    have hs12 := hs1.trans hs2
    have h2n := hs2.1
    have hn2 : σ2.get σ.next = some (Blk.own [Value.int IntKind.i64 r.seq, Value.int IntKind.i64 r.kind, Value.int IntKind.i64 r.block, Value.string r.data, Value.int IntKind.i64 r.number] 58) := by rw [hs2.2 _ (by omega) (by simp)]; exact hn1
    have hg2 : σ2.get a = _ := (hs12.2 a hal (by simp)).trans hg
    cases b with
    | false =>
      rw [show (!false) = true from rfl, br_true]
      exact .leaf ⟨rs, _, rfl, h.idle hs12, .idle hs12 hlt, .inl ⟨rfl, .inr hPb⟩⟩
    | true =>
      rw [show (!true) = false from rfl, br_false, ld_at hg2 1 _ rfl, asSl_s, lds_all (n := 5) hn2 rfl, uncons_c, asI_i, uncons_c, asI_i, uncons_c, asI_i, uncons_c, asS_s, uncons_c, asI_i, endl_n]
      generalize hσ3 : σ2.new (Blk.own [Value.int IntKind.i64 r.seq, Value.int IntKind.i64 r.kind, Value.int IntKind.i64 r.block, Value.string r.data, Value.int IntKind.i64 r.number] 58) = σ3
      have hn3 : σ3.get σ2.next = some (Blk.own [Value.int IntKind.i64 r.seq, Value.int IntKind.i64 r.kind, Value.int IntKind.i64 r.block, Value.string r.data, Value.int IntKind.i64 r.number] 58) := by rw [← hσ3, get_new_same]
      have hs3 : Same σ2 σ3 [] := by rw [← hσ3]; exact Same.new _ _ _
      have hs13 := hs12.trans hs3
      have h3n := hs13.1
      have h3n' := hs3.1
      have hg3 : σ3.get a = _ := (hs13.2 a hal (by simp)).trans hg
      have hrow3 := hrow.same hs13 (fun _ _ => by simp)
      rw [ld_at hg3 1 _ rfl, asSl_s, chk_same, row_all (n := 5) hn3 rfl (by omega)]
      obtain ⟨ad', z', qs', σ4, hgrow, hrow4, hs4, hq4⟩ := grow_row (by_ := 48) hrow3 c5_len c5_one (by omega) [r] (c5 r) (by simp) 1 rfl (by unfold roomTop; omega) (by unfold sizeTop; omega)
      have hgr := hgrow
      rw [show c5 r = [Value.int IntKind.i64 r.seq, Value.int IntKind.i64 r.kind, Value.int IntKind.i64 r.block, Value.string r.data, Value.int IntKind.i64 r.number] from rfl] at hgr
      rw [hgr]
      have hg4 : σ4.get a = _ := (hs4.2 a (by omega) hne).trans hg3
      have hnq : σ.next ∉ qs := fun hq => by have := hlt _ (List.mem_cons_of_mem _ hq); omega
      have hn4 : σ4.get σ.next = some (Blk.own [Value.int IntKind.i64 r.seq, Value.int IntKind.i64 r.kind, Value.int IntKind.i64 r.block, Value.string r.data, Value.int IntKind.i64 r.number] 58) := by rw [hs4.2 _ (by omega) hnq, hs3.2 _ (by omega) (by simp)]; exact hn2
      have h4n := hs4.1
      rw [put_sl hg4 1 _ _ _ (by simp)]
      have hs5 := Same.set σ4 a (.own (List.set [Value.int .i64 first, .slice ad rs.length z, .int .i64 fast, .int .i64 mark] 1 (.slice ad' (rs.length + 1) z')) 175)
      have hg5 : (σ4.set a (.own (List.set [Value.int .i64 first, .slice ad rs.length z, .int .i64 fast, .int .i64 mark] 1 (.slice ad' (rs.length + 1) z')) 175)).get a = some (.own [Value.int .i64 first, .slice ad' (rs ++ [r]).length z', .int .i64 fast, .int .i64 mark] 175) := by rw [get_set_same, List.length_append]; rfl
      generalize σ4.set a (.own (List.set [Value.int .i64 first, .slice ad rs.length z, .int .i64 fast, .int .i64 mark] 1 (.slice ad' (rs.length + 1) z')) 175) = σ5 at hs5 hg5
      have h5n := hs5.1
      have hn5 : σ5.get σ.next = _ := (hs5.2 _ (by omega) (by simp; omega)).trans hn4
      have hne' : a ∉ qs' := fun hx => by
        rcases hq4 a hx with hx | hx
        · exact hne hx
        · omega
      rw [ld_at hn5 0 _ rfl, asI_i]
      refine .leaf ⟨rs ++ [r], a :: qs', by simp; omega, ⟨⟨qs', ad', z', rfl, hne', hg5, hrow4.same hs5 (fun q hq => by simp; rintro rfl; exact hne' hq)⟩, fun q hq => ?_⟩, ⟨⟨by omega, fun j hj hS => ?_⟩, fun q hq => ?_⟩, .inr ⟨by omega, hPb, rfl⟩⟩
      · rcases List.mem_cons.1 hq with rfl | hq
        · omega
        · have := hrow4.lt q hq; omega
      · simp only [List.mem_cons, not_or] at hS
        rw [hs5.2 j (by omega) (by simp; exact hS.1), hs4.2 j (by omega) hS.2, hs13.2 j hj (by simp)]
      · rcases List.mem_cons.1 hq with rfl | hq
        · exact ⟨.inl (by simp), by omega⟩
        · refine ⟨?_, by have := hrow4.lt q hq; omega⟩
          rcases hq4 q hq with hq | hq
          · exact .inl (by simp [hq])
          · exact .inr (by omega)
  · rw [show (r.seq != first + (rs.length : Int) - 1 + 1) = true by simpa using hq, br_true]
    exact .leaf ⟨rs, _, rfl, h.idle hs1, .idle hs1 hlt, .inl ⟨rfl, .inl (by omega)⟩⟩
theorem take_mark (h0 : 1 ≤ first) (h1 : first ≤ 100000) (hl : rs.length ≤ 100000) (hf : fast ≤ rs.length) (n : Int) (hn : 1 ≤ n) (hn' : n ≤ 1152921504606846975) :
    Ends (fun v σ' => ∃ F', v = .int .i64 (first + rs.length) ∧ Stg σ' a F' first (rs ++ [⟨first + rs.length, 2, 0, ⟨#[]⟩, n⟩]) fast mark ∧ Turn σ σ' F F') (evCall Tryz.prog env L (k + 3) 59 [.pointer (some ⟨a, 0, none⟩), Rec.agg ⟨first + rs.length, 2, 0, ⟨#[]⟩, n⟩] σ) := by
  obtain ⟨v, σ', g1, rs', F', e1, e2, e3, e4⟩ := take_gen h L k h0 (by omega) hl hf ⟨first + rs.length, 2, 0, ⟨#[]⟩, n⟩ (fun b => b = true) (fun σ => by
    obtain ⟨v, σ', g1, e, e2⟩ := right_mark L k σ (first + rs.length) n (by omega) (by omega) hn hn'
    exact ⟨v, σ', g1, ⟨true, e, rfl⟩, e2⟩)
  rcases e4 with ⟨_, h | h⟩ | ⟨_, _, rfl⟩
  · exact absurd rfl h
  · exact absurd h (by decide)
  · exact ⟨v, σ', g1, F', by rw [e1]; simp; omega, e2, e3⟩
end
end Go.AM.Bk.S

namespace Go.AM.Bk.S
open Go.Proofs
def marksOf (l : List Rec) : List Int := l.filterMap fun r => if r.kind = 2 then some r.number else none
theorem marksOf_snoc (l : List Rec) (r : Rec) : marksOf (l ++ [r]) = if r.kind = 2 then marksOf l ++ [r.number] else marksOf l := by
  unfold marksOf
  rw [List.filterMap_append]
  by_cases h : r.kind = 2 <;> simp [h]
theorem marksOf_len (l : List Rec) : (marksOf l).length ≤ l.length := List.length_filterMap_le _ _
theorem marks_loop (L k : Nat) {σs : St} {rl : List Rec} {ad : Option Addr} {z : Nat} {qs : List Nat} (hrl : rl.length ≤ 100000) (hqs : ∀ q ∈ qs, q < σs.next) : ∀ (n i : Nat) (σ : St) (adO : Option Addr) (zO : Nat) (qO : List Nat),
    i ≤ rl.length → rl.length - i < n → Row c5 5 58 σ ad z qs rl → Row c1 1 3 σ adO zO qO (marksOf (rl.take i)) → Same σs σ [] → (∀ q ∈ qO, σs.next ≤ q) →
    Ends (fun v σ' => ∃ adO zO qO, v = .slice adO (marksOf rl).length zO ∧ Row c1 1 3 σ' adO zO qO (marksOf rl) ∧ Same σs σ' [] ∧ ∀ q ∈ qO, σs.next ≤ q)
      (lpAt Tryz.prog env L k 57 [true, true, false, true] [] n [(3, .slice adO (marksOf (rl.take i)).length zO), (7, .slice ad rl.length z), (8, .int .i64 rl.length), (9, .int .i64 i)] σ)
  | 0, i, σ, adO, zO, qO, _, h, _, _, _, _ => by omega
  | n + 1, i, σ, adO, zO, qO, hi, h, hR, hO, hs, hq => by
    rw [f57_l3]
    by_cases hie : i = rl.length
    · rw [decide_eq_false (by omega), br_false]
      subst hie
      rw [List.take_length] at hO ⊢
      exact .leaf ⟨adO, zO, qO, rfl, hO, hs, hq⟩
    · have hget : rl[i]? = some rl[i] := List.getElem?_eq_getElem (by omega)
      obtain ⟨q, e, hat⟩ := hR.lds c5_len hget
      have htk : rl.take (i + 1) = rl.take i ++ [rl[i]] := by rw [List.take_add_one, hget]; rfl
      generalize rl[i] = r at hat htk
      obtain ⟨σ1, p1, p2, p3, p4⟩ := tmp_put σ [Value.int IntKind.i64 0, Value.int IntKind.i64 0, Value.int IntKind.i64 0, Value.string ⟨#[]⟩, Value.int IntKind.i64 0] [.int .i64 r.seq, .int .i64 r.kind, .int .i64 r.block, .string r.data, .int .i64 r.number] 58 rfl rfl
      rw [decide_eq_true (by omega), br_true, need_of (by simp [inRange]; omega), e, adr_some, hat _ (by simp), show c5 r = [.int .i64 r.seq, .int .i64 r.kind, .int .i64 r.block, .string r.data, .int .i64 r.number] from rfl, uncons_c, asI_i, uncons_c, asI_i, uncons_c, asI_i, uncons_c, asS_s, uncons_c, asI_i, endl_n, p1, ld_at p2 1 _ rfl, asI_i, ← e]
      have hw : IntKind.wrap .i64 ((i : Int) + 1) = ((i + 1 : Nat) : Int) := by rw [wrap_in _ (by omega) (by omega)]; omega
      have hs1 := hs.trans p3
      have hR1 : Row c5 5 58 σ1 ad z qs rl := hR.same p3 (by simp)
      have hO1 : Row c1 1 3 σ1 adO zO qO (marksOf (rl.take i)) := hO.same p3 (by simp)
      by_cases hk : r.kind = 2
      · rw [show (r.kind == 2) = true by simpa using hk, br_true, ld_at p2 4 _ rfl, asI_i]
        have hsn := marksOf_snoc (rl.take i) r
        rw [if_pos hk, ← htk] at hsn
        generalize hσ2 : σ1.new (Blk.own [Value.int IntKind.i64 r.number] 3) = σ2
        have hnew : σ2.get σ1.next = some (Blk.own [Value.int IntKind.i64 r.number] 3) := by rw [← hσ2, get_new_same]
        have hs2 : Same σ1 σ2 [] := by rw [← hσ2]; exact Same.new _ _ _
        have hO2 := hO1.same hs2 (by simp)
        have hR2 := hR1.same hs2 (by simp)
        have hml := marksOf_len (rl.take i)
        rw [List.length_take] at hml
        obtain ⟨ad', z', q', σ3, hgrow, hO3, hs3, hq3⟩ := grow_row (by_ := 8) hO2 c1_len c1_one (by omega) [r.number] [Value.int .i64 r.number] rfl 1 rfl (by unfold roomTop; omega) (by unfold sizeTop; omega)
        have hsn' : Same σs σ2 [] := hs1.trans hs2
        rw [row_one hnew, hgrow, hw]
        have hlen : (marksOf (rl.take i)).length + 1 = (marksOf (rl.take (i + 1))).length := by rw [hsn]; simp
        rw [hlen]
        rw [← hsn] at hO3
        have hR3 : Row c5 5 58 σ3 ad z qs rl := hR2.same hs3 (fun q h1 h2 => by have := hqs q h1; have := hq q h2; omega)
        exact marks_loop L k hrl hqs n (i + 1) σ3 ad' z' q' (by omega) (by omega) hR3 hO3 (hsn'.fresh hs3 (fun x hx => .inr (hq x hx))) (fun x hx => by
          rcases hq3 x hx with h | h
          · exact hq x h
          · have := hsn'.1; omega)
      · rw [show (r.kind == 2) = false by simpa using hk, br_false, hw]
        have hsn := marksOf_snoc (rl.take i) r
        rw [if_neg hk, ← htk] at hsn
        rw [← hsn] at hO1 ⊢
        exact marks_loop L k hrl hqs n (i + 1) σ1 adO zO qO (by omega) (by omega) hR1 hO1 hs1 hq
section
variable {σ : St} {a : Nat} {F : List Nat} {first mark : Int} {rs : List Rec} {fast : Nat} (h : Stg σ a F first rs fast mark) (L k : Nat)
include h
theorem safe_spec (hl : rs.length ≤ 100000) (hf : fast ≤ rs.length) : ∃ ad z qs, evCall Tryz.prog env L (k + 1) 99 [.pointer (some ⟨a, 0, none⟩)] σ = some (.slice ad (rs.take fast).length z, σ) ∧ Row c5 5 58 σ ad z qs (rs.take fast) ∧ ∀ q ∈ qs, q ∈ F := by
  obtain ⟨qs, ad, z, rfl, hne, hg, hrow⟩ := h.ex
  rw [f99_eq, ld_at hg 1 _ rfl, asSl_s, ld_at hg 2 _ rfl, asI_i, need_of (by rcases hrow.z with e | e <;> rw [e] <;> rfl), need_of (by simp [inRange]; omega), hrow.sub0]
  refine ⟨ad, z, qs, ?_, hrow.take fast, fun q hq => by simp [hq]⟩
  rw [List.length_take, Nat.min_eq_left hf]; rfl
theorem marks_spec (hL : rs.length < L) (hl : rs.length ≤ 100000) (hf : fast ≤ rs.length) :
    Ends (fun v σ' => ∃ adO zO qO, v = .slice adO (marksOf (rs.take fast)).length zO ∧ Row c1 1 3 σ' adO zO qO (marksOf (rs.take fast)) ∧ Same σ σ' [] ∧ ∀ q ∈ qO, σ.next ≤ q) (evCall Tryz.prog env L (k + 2) 57 [.pointer (some ⟨a, 0, none⟩)] σ) := by
  obtain ⟨ad, z, qs, g1, hrow, hq⟩ := safe_spec h L k hl hf
  rw [f57_eq, g1, bnd_some, asSl_s]
  have htl : (rs.take fast).length ≤ rs.length := by rw [List.length_take]; omega
  exact marks_loop L (k + 1) (by omega) (fun q hq' => h.lt q (hq q hq')) L 0 σ none 0 [] (by omega) (by omega) hrow (Row.nil _ _ _ _) (Same.refl _ _) (by simp)
end
end Go.AM.Bk.S

namespace Go.AM.Bk.S
open Go.Proofs
def Err (σ : St) (v : Value) (c at_ : Int) : Prop := ∃ q, v = .iface 162 (.pointer (some ⟨q, 0, none⟩)) ∧ σ.get q = some (.own [.string ⟨#[115, 116, 97, 103, 101]⟩, .int .i64 at_, .iface 70 (.int .i64 c)] 164) ∧ q < σ.next
end Go.AM.Bk.S

namespace Go.AM.Bk.S
open Go.Proofs
def Hit (mark : Int) (r : Rec) : Prop := r.kind = 2 ∧ r.number = mark
instance (mark : Int) (r : Rec) : Decidable (Hit mark r) := inferInstanceAs (Decidable (_ ∧ _))
theorem hit_spec (L k : Nat) (σ : St) (r : Rec) (mark : Int) {m : Nat} (hm : σ.get m = some (.own [.int .i64 mark] 3)) (hml : m < σ.next) : ∃ σ', evCall Tryz.prog env L (k + 1) 105 [r.agg, .pointer (some ⟨m, 0, none⟩)] σ = some (.bool (decide (Hit mark r)), σ') ∧ Same σ σ' [] := by
  unfold Rec.agg
  rw [f105_eq]
  generalize hσ1 : σ.new (Blk.own [Value.int IntKind.i64 r.seq, Value.int IntKind.i64 r.kind, Value.int IntKind.i64 r.block, Value.string r.data, Value.int IntKind.i64 r.number] 58) = σ1
  have hn : σ1.get σ.next = some (Blk.own [Value.int IntKind.i64 r.seq, Value.int IntKind.i64 r.kind, Value.int IntKind.i64 r.block, Value.string r.data, Value.int IntKind.i64 r.number] 58) := by rw [← hσ1, get_new_same]
  have hs1 : Same σ σ1 [] := by rw [← hσ1]; exact Same.new _ _ _
  have hm1 : σ1.get m = some (.own [.int .i64 mark] 3) := by rw [hs1.2 m hml (by simp)]; exact hm
  rw [ld_at hn 1 _ rfl, asI_i]
  by_cases hk : r.kind = 2
  · rw [show (r.kind == 2) = true by simpa using hk, br_true, ld_at hn 4 _ rfl, asI_i, asP_p, adr_some, ld_at hm1 0 _ rfl, asI_i]
    refine ⟨σ1, ?_, hs1⟩
    have : (r.number == mark) = decide (Hit mark r) := by
      by_cases h : r.number = mark
      · rw [decide_eq_true (show Hit mark r from ⟨hk, h⟩)]; simpa using h
      · rw [decide_eq_false (fun hh : Hit mark r => h hh.2)]; simpa using h
    rw [this]
  · rw [show (r.kind == 2) = false by simpa using hk, br_false, decide_eq_false (fun h : Hit mark r => hk h.1)]
    exact ⟨σ1, rfl, hs1⟩
theorem index_loop (L k : Nat) {σs : St} {mark : Int} {m : Nat} (hm : σs.get m = some (.own [.int .i64 mark] 3)) (hml : m < σs.next) {l : List Rec} {ad : Option Addr} {z : Nat} {qs : List Nat} (hl : l.length ≤ 100000) (hR : Row c5 5 58 σs ad z qs l) : ∀ (n i : Nat) (σ : St), i ≤ l.length → l.length - i < n → Same σs σ [] → (∀ j r, j < i → l[j]? = some r → ¬ Hit mark r) →
    Ends (fun v σ' => Same σs σ' [] ∧ ((∃ j r, v = .int .i64 (j : Nat) ∧ l[j]? = some r ∧ Hit mark r ∧ ∀ j' r', j' < j → l[j']? = some r' → ¬ Hit mark r') ∨ (v = .int .i64 (-1) ∧ ∀ r ∈ l, ¬ Hit mark r)))
      (lpAt Tryz.prog env L (k + 1) 104 [true, false, true] [] n [(0, .slice ad l.length z), (1, .func (Fn.func 105) #[] #[.pointer (some ⟨m, 0, none⟩)]), (7, .int .i64 l.length), (8, .int .i64 i)] σ)
  | 0, i, σ, _, h, _, _ => by omega
  | n + 1, i, σ, hi, h, hs, hno => by
    rw [f104_l2]
    by_cases hie : i = l.length
    · rw [decide_eq_false (by omega), br_false]
      refine .leaf ⟨hs, .inr ⟨rfl, fun r hr => ?_⟩⟩
      obtain ⟨j, hj, rfl⟩ := List.getElem_of_mem hr
      exact hno j _ (by omega) (List.getElem?_eq_getElem hj)
    · have hget : l[i]? = some l[i] := List.getElem?_eq_getElem (by omega)
      obtain ⟨q, e, hat⟩ := (hR.same hs (by simp)).lds c5_len hget
      generalize l[i] = r at hat hget
      obtain ⟨σ1, g1, hs1⟩ := hit_spec L k σ r mark (by rw [hs.2 m hml (by simp)]; exact hm) (by have := hs.1; omega)
      rw [decide_eq_true (by omega), br_true, need_of (by simp [inRange]; omega), e, adr_some, hat _ (by simp), show c5 r = [.int .i64 r.seq, .int .i64 r.kind, .int .i64 r.block, .string r.data, .int .i64 r.number] from rfl, uncons_c, asI_i, uncons_c, asI_i, uncons_c, asI_i, uncons_c, asS_s, uncons_c, asI_i, endl_n]
      have hF : ∀ K : FuncId → List Value → List Value → Res, asF (.func (Fn.func 105) #[] #[.pointer (some ⟨m, 0, none⟩)]) K = K 105 [] [.pointer (some ⟨m, 0, none⟩)] := fun K => rfl
      rw [hF, show (([] : List Value) ++ [Value.agg #[Value.int .i64 r.seq, .int .i64 r.kind, .int .i64 r.block, .string r.data, .int .i64 r.number]] ++ [Value.pointer (some ⟨m, 0, none⟩)]) = [r.agg, .pointer (some ⟨m, 0, none⟩)] from rfl, g1, bnd_some, asB_b]
      by_cases hh : Hit mark r
      · rw [decide_eq_true hh, br_true]
        exact .leaf ⟨hs.trans hs1, .inl ⟨i, r, rfl, hget, hh, hno⟩⟩
      · rw [decide_eq_false hh, br_false, wrap_in _ (by omega) (by omega), ← e]
        refine index_loop L k hm hml hl hR n (i + 1) σ1 (by omega) (by omega) (hs.trans hs1) (fun j r' hj hr' => ?_)
        by_cases hji : j = i
        · subst hji; rw [hget] at hr'; cases hr'; exact hh
        · exact hno j r' (by omega) hr'
theorem clone_spec (L k : Nat) {σ : St} {l : List Rec} {ad : Option Addr} {z : Nat} {qs : List Nat} (hl : l.length ≤ 100000) (hR : Row c5 5 58 σ ad z qs l) (i m : Nat) (him : i + m ≤ l.length) (a' : Option Addr) (ha : a' = subA ad (i * 5)) :
    ∃ ad' z' q' σ', evCall Tryz.prog env L (k + 1) 106 [.slice a' m z] σ = some (.slice ad' m z', σ') ∧ Row c5 5 58 σ' ad' z' q' ((l.drop i).take m) ∧ Same σ σ' [] ∧ ∀ q ∈ q', σ.next ≤ q := by
  subst ha
  rw [f106_eq]
  rcases hR.is with ⟨e1, e2, e3, e4⟩ | ⟨q, rest, e1, e2, e3, e4⟩
  · subst e1; subst e2
    have hm : m = 0 := by simp at him; exact him.2
    subst hm
    exact ⟨none, 0, [], σ, rfl, by simpa using Row.nil c5 5 58 σ, Same.refl _ _, by simp⟩
  · rw [show (subA ad (i * 5)).isNone = false by rw [e2]; rfl, br_false]
    generalize hσ2 : σ.new (Blk.own [] 58) = σ2
    have hs2 : Same σ σ2 [] := by rw [← hσ2]; exact Same.new _ _ _
    have hx2 : σ2.next = σ.next + 1 := by rw [← hσ2]; rfl
    have hR2 := hR.same hs2 (by simp)
    have hE2 : Row c5 5 58 σ2 (some ⟨σ.next, 0, none⟩) 5 [σ.next] [] := ⟨by rw [← hσ2]; simp, .inr ⟨σ.next, [], rfl, rfl, rfl, by rw [← hσ2, get_new_same]; rfl⟩⟩
    have hlen : ((l.drop i).take m).length = m := by rw [List.length_take, List.length_drop]; omega
    obtain ⟨ad3, z3, q3, σ3, hgrow3, hR3, hs3, hq3⟩ := grow_row (by_ := 48) hE2 c5_len c5_one (by omega) ((l.drop i).take m) (((l.drop i).take m).flatMap c5) rfl m hlen.symm (by unfold roomTop; simp; omega) (by unfold sizeTop; simp; omega)
    rw [hR2.part c5_len i m him (i * 5) (m * 5) rfl rfl]
    have hg := hgrow3
    rw [List.length_nil] at hg
    rw [hg, Nat.zero_add]
    rw [List.nil_append] at hR3
    exact ⟨ad3, z3, q3, σ3, rfl, hR3, hs2.fresh hs3 (fun x hx => .inr (by simp at hx; omega)), fun x hx => by rcases hq3 x hx with h | h; (simp at h; omega); omega⟩
section
variable {σ : St} {a : Nat} {F : List Nat} {first mark : Int} {rs : List Rec} {fast : Nat} (h : Stg σ a F first rs fast mark) (L k : Nat)
include h
theorem upto_spec (hL : 2000 < L) (hl : rs.length ≤ 1000) (hf : fast ≤ rs.length) (m : Int) :
    (∃ (j : Nat) (r : Rec) (ad : Option Addr) (z : Nat) (q : List Nat) (σ' : St), evCall Tryz.prog env L (k + 3) 62 [.pointer (some ⟨a, 0, none⟩), .int .i64 m] σ = some (.tuple #[.slice ad (j + 1) z, .bool true], σ') ∧ Row c5 5 58 σ' ad z q (rs.take (j + 1)) ∧ Same σ σ' [] ∧ (∀ x ∈ q, σ.next ≤ x) ∧ j < fast ∧ rs[j]? = some r ∧ Hit m r ∧ ∀ j' r', j' < j → rs[j']? = some r' → ¬ Hit m r') ∨
    (∃ σ', evCall Tryz.prog env L (k + 3) 62 [.pointer (some ⟨a, 0, none⟩), .int .i64 m] σ = some (.tuple #[.slice none 0 0, .bool false], σ') ∧ Same σ σ' [] ∧ ∀ r ∈ rs.take fast, ¬ Hit m r) := by
  rw [f62_eq]
  generalize hσ1 : σ.new (Blk.own [Value.int IntKind.i64 m] 3) = σ1
  have hn : σ1.get σ.next = some (Blk.own [Value.int IntKind.i64 m] 3) := by rw [← hσ1, get_new_same]
  have hs1 : Same σ σ1 [] := by rw [← hσ1]; exact Same.new _ _ _
  have hx1 : σ1.next = σ.next + 1 := by rw [← hσ1]; rfl
  have h1 := h.idle hs1
  obtain ⟨ad0, z0, qs0, g1, hrow, hq0⟩ := safe_spec h1 L (k + 1) (by omega) hf
  have htl : (rs.take fast).length ≤ rs.length := by rw [List.length_take]; omega
  have htf : (rs.take fast).length = fast := by rw [List.length_take]; omega
  rw [g1, bnd_some, asSl_s, f104_eq]
  obtain ⟨v, σ2, g2, hs2, hor⟩ := index_loop L k hn (by omega) (by omega) hrow L 0 σ1 (by omega) (by omega) (Same.refl _ _) (fun j r hj => by omega)
  rw [show ((0 : Nat) : Int) = 0 from rfl] at g2
  rw [g2, bnd_some]
  have hs12 := hs1.trans hs2
  rcases hor with ⟨j, r, rfl, hj, hh, hno⟩ | ⟨rfl, hno⟩
  · have hjf : j < fast := by have := (List.getElem?_eq_some_iff.1 hj).1; omega
    have htk : ∀ j', j' < fast → (rs.take fast)[j']? = rs[j']? := fun j' hj' => by rw [List.getElem?_take, if_pos hj']
    have h2 := h.idle hs12
    obtain ⟨qs, ad, z, rfl, hne, hg, hrow2⟩ := h2.ex
    rw [asI_i, decide_eq_false (by omega), br_false, ld_at hg 1 _ rfl, asSl_s, need_of (by rcases hrow2.z with e | e <;> rw [e] <;> rfl), wrap_in _ (by omega) (by omega), need_of (by simp [inRange]; omega)]
    obtain ⟨ad3, z3, q3, σ3, g3, hR3, hs3, hq3⟩ := clone_spec L (k + 1) (by omega) hrow2 0 (j + 1) (by omega) (subA ad 0) rfl
    rw [show Int.toNat ((j : Int) + 1) - 0 = j + 1 by omega, g3, bnd_some, asSl_s]
    rw [List.drop_zero] at hR3
    exact .inl ⟨j, r, ad3, z3, q3, σ3, rfl, hR3, hs12.trans hs3, fun x hx => by have := hq3 x hx; have := hs12.1; omega, hjf, by rw [← htk j hjf]; exact hj, hh, fun j' r' hj' hr' => hno j' r' hj' (by rw [htk j' (by omega)]; exact hr')⟩
  · rw [asI_i, show decide ((-1 : Int) < 0) = true from rfl, br_true]
    exact .inr ⟨σ2, rfl, hs12, hno⟩
theorem drop_spec (hL : 2000 < L) (hl : rs.length ≤ 1000) (hf : fast ≤ rs.length) (h0 : 1 ≤ first) (h1 : first ≤ 1152921504607846976) (m : Int) :
    (∃ (j : Nat) (r : Rec) (F' : List Nat) (σ' : St), evCall Tryz.prog env L (k + 4) 113 [.pointer (some ⟨a, 0, none⟩), .int .i64 m] σ = some (.nilIface, σ') ∧ Stg σ' a F' (first + (j + 1 : Nat)) (rs.drop (j + 1)) (fast - (j + 1)) m ∧ Turn σ σ' F F' ∧ j < fast ∧ rs[j]? = some r ∧ Hit m r ∧ ∀ j' r', j' < j → rs[j']? = some r' → ¬ Hit m r') ∨
    (∃ v σ', evCall Tryz.prog env L (k + 4) 113 [.pointer (some ⟨a, 0, none⟩), .int .i64 m] σ = some (v, σ') ∧ Err σ' v 8 m ∧ Same σ σ' [] ∧ ∀ r ∈ rs.take fast, ¬ Hit m r) := by
  rw [f113_eq]
  rcases upto_spec h L k hL hl hf m with ⟨j, r, ad, z, q, σ1, g1, hR1, hs1, hq1, hjf, hj, hh, hno⟩ | ⟨σ1, g1, hs1, hno⟩
  · have hS1 := h.idle hs1
    have hlt0 := h.lt
    obtain ⟨qs, ad0, z0, rfl, hne, hg, hrow⟩ := hS1.ex
    have hlt := hS1.lt
    have hal := hlt a (by simp)
    rw [g1, bnd_some, asT_t, toList2, uncons_c, asSl_s, uncons_c, asB_b, endl_n, not_true, br_false, ld_at hg 0 _ rfl, asI_i, wrap_in _ (by omega) (by omega), put_int hg 0 _ _ (by simp)]
    have g2 : (σ1.set a (.own (List.set [.int .i64 first, .slice ad0 rs.length z0, .int .i64 fast, .int .i64 mark] 0 (.int .i64 (first + ((j + 1 : Nat) : Int)))) 175)).get a = some (.own [.int .i64 (first + ((j + 1 : Nat) : Int)), .slice ad0 rs.length z0, .int .i64 fast, .int .i64 mark] 175) := by rw [get_set_same]; rfl
    have s2 := Same.set σ1 a (.own (List.set [.int .i64 first, .slice ad0 rs.length z0, .int .i64 fast, .int .i64 mark] 0 (.int .i64 (first + ((j + 1 : Nat) : Int)))) 175)
    generalize σ1.set a (.own (List.set [.int .i64 first, .slice ad0 rs.length z0, .int .i64 fast, .int .i64 mark] 0 (.int .i64 (first + ((j + 1 : Nat) : Int)))) 175) = σ2 at g2 s2
    rw [put_int g2 3 _ _ (by simp)]
    have g3 : (σ2.set a (.own (List.set [.int .i64 (first + ((j + 1 : Nat) : Int)), .slice ad0 rs.length z0, .int .i64 fast, .int .i64 mark] 3 (.int .i64 m)) 175)).get a = some (.own [.int .i64 (first + ((j + 1 : Nat) : Int)), .slice ad0 rs.length z0, .int .i64 fast, .int .i64 m] 175) := by rw [get_set_same]; rfl
    have s3 := Same.set σ2 a (.own (List.set [.int .i64 (first + ((j + 1 : Nat) : Int)), .slice ad0 rs.length z0, .int .i64 fast, .int .i64 mark] 3 (.int .i64 m)) 175)
    generalize σ2.set a (.own (List.set [.int .i64 (first + ((j + 1 : Nat) : Int)), .slice ad0 rs.length z0, .int .i64 fast, .int .i64 mark] 3 (.int .i64 m)) 175) = σ3 at g3 s3
    rw [ld_at g3 2 _ rfl, asI_i, wrap_in _ (by omega) (by omega), put_int g3 2 _ _ (by simp), show (fast : Int) - ((j + 1 : Nat) : Int) = ((fast - (j + 1) : Nat) : Int) by omega]
    have g4 : (σ3.set a (.own (List.set [.int .i64 (first + ((j + 1 : Nat) : Int)), .slice ad0 rs.length z0, .int .i64 fast, .int .i64 m] 2 (.int .i64 ((fast - (j + 1) : Nat) : Int))) 175)).get a = some (.own [.int .i64 (first + ((j + 1 : Nat) : Int)), .slice ad0 rs.length z0, .int .i64 ((fast - (j + 1) : Nat) : Int), .int .i64 m] 175) := by rw [get_set_same]; rfl
    have s4 := Same.set σ3 a (.own (List.set [.int .i64 (first + ((j + 1 : Nat) : Int)), .slice ad0 rs.length z0, .int .i64 fast, .int .i64 m] 2 (.int .i64 ((fast - (j + 1) : Nat) : Int))) 175)
    generalize σ3.set a (.own (List.set [.int .i64 (first + ((j + 1 : Nat) : Int)), .slice ad0 rs.length z0, .int .i64 fast, .int .i64 m] 2 (.int .i64 ((fast - (j + 1) : Nat) : Int))) 175) = σ4 at g4 s4
    have s14 := (s2.trans s3).trans s4
    have hrow4 := hrow.same s14 (fun q hq => by simp; rintro rfl; exact hne hq)
    have n14 := s14.1
    rw [ld_at g4 1 _ rfl, asSl_s, need_of (by rcases hrow.z with e | e <;> rw [e] <;> rfl), need_of (by simp [inRange]; omega)]
    obtain ⟨ad5, z5, q5, σ5, g5, hR5, hs5, hq5⟩ := clone_spec L (k + 2) (by omega) hrow4 (j + 1) (rs.length - (j + 1)) (by omega) (subA ad0 ((j + 1) * 5)) rfl
    rw [show Int.toNat ((j + 1 : Nat) : Int) = j + 1 from rfl, g5, bnd_some, asSl_s]
    have g5' : σ5.get a = _ := (hs5.2 a (by omega) (by simp)).trans g4
    have n5 := hs5.1
    rw [put_sl g5' 1 _ _ _ (by simp)]
    have hne5 : a ∉ q5 := fun hx => by have := hq5 a hx; omega
    have s6 := Same.set σ5 a (.own (List.set [.int .i64 (first + ((j + 1 : Nat) : Int)), .slice ad0 rs.length z0, .int .i64 ((fast - (j + 1) : Nat) : Int), .int .i64 m] 1 (.slice ad5 (rs.length - (j + 1)) z5)) 175)
    have hdl : (rs.drop (j + 1)).length = rs.length - (j + 1) := List.length_drop
    rw [List.take_of_length_le (by rw [hdl]; exact Nat.le_refl _)] at hR5
    refine .inl ⟨j, r, a :: q5, _, rfl, ⟨⟨q5, ad5, z5, rfl, hne5, by rw [get_set_same, hdl]; rfl, hR5.same s6 (fun q hq => by simp; rintro rfl; exact hne5 hq)⟩, fun q hq => ?_⟩, ⟨⟨by have := hs1.1; simp; omega, fun b hb hS => ?_⟩, fun q hq => ?_⟩, hjf, hj, hh, hno⟩
    · rcases List.mem_cons.1 hq with rfl | hq
      · simp; omega
      · have := hR5.lt q hq; simpa using this
    · simp only [List.mem_cons, not_or] at hS
      have := hs1.1
      rw [s6.2 b (by omega) (by simp; exact hS.1), hs5.2 b (by omega) (by simp), s14.2 b (by omega) (by simp; exact hS.1), hs1.2 b hb (by simp)]
    · rcases List.mem_cons.1 hq with rfl | hq
      · exact ⟨.inl (by simp), by simp; omega⟩
      · exact ⟨.inr (by have := hq5 q hq; have := hs1.1; omega), by have := hR5.lt q hq; simpa using this⟩
  · rw [g1, bnd_some, asT_t, toList2, uncons_c, asSl_s, uncons_c, asB_b, endl_n, not_false, br_true, f42_eq, eqNil_iface, br_false]
    have he : eqErr (.iface 70 (.int .i64 8)) 70 .i64 0 (fun v2 => br v2 (some (Value.nilIface, σ1)) (need true (need (oneCell (.iface 70 (.int .i64 8))) (need true (some (Value.iface 162 (Value.pointer (some ⟨σ1.next, 0, none⟩)), σ1.new (Blk.own [Value.string ⟨#[115, 116, 97, 103, 101]⟩, Value.int .i64 m, .iface 70 (.int .i64 8)] 164))))))) =
        some (Value.iface 162 (Value.pointer (some ⟨σ1.next, 0, none⟩)), σ1.new (Blk.own [Value.string ⟨#[115, 116, 97, 103, 101]⟩, Value.int .i64 m, .iface 70 (.int .i64 8)] 164)) := by
      simp [eqErr, oneCell]
    rw [he, bnd_some]
    exact .inr ⟨_, _, rfl, ⟨_, rfl, get_new_same _ _, by simp⟩, hs1.trans (Same.new _ _ _), hno⟩
end
end Go.AM.Bk.S

namespace Go.AM.Bk
open Go.Proofs
structure Chg where
  mark : Int
  vol : Nat
  gone : Bool
def c3 (c : Chg) : List Value := [.int .i64 c.mark, .int .i64 c.vol, .bool c.gone]
theorem c3_len (c : Chg) : (c3 c).length = 3 := rfl
theorem c3_one (c : Chg) : (c3 c).all oneCell = true := rfl
structure GS where
  f : Nat → Bool
  ch : List Chg
def behOne (s : Nat → Bool) (c : Chg) : Nat → Bool := fun v => if v = c.vol then !c.gone else s v
def beh (s : Nat → Bool) (l : List Chg) : Nat → Bool := l.foldl behOne s
def GS.many (g : GS) (m : Int) : Nat := (g.ch.takeWhile fun c => decide (c.mark ≤ m)).length
def GS.has (g : GS) (m : Int) : Nat → Bool := beh g.f (g.ch.take (g.many m))
def GS.at_ (g : GS) (m : Int) : List Nat := (List.range 4).filter (g.has m)
abbrev bv (s : Nat → Bool) : List Value := [.bool (s 0), .bool (s 1), .bool (s 2), .bool (s 3)]
structure Grp (σ : St) (g : Nat) (G : List Nat) (gs : GS) : Prop where
  ex : ∃ ad z q, G = g :: q ∧ g ∉ q ∧ σ.get g = some (.own [.bool (gs.f 0), .bool (gs.f 1), .bool (gs.f 2), .bool (gs.f 3), .slice ad gs.ch.length z] 111) ∧ Row c3 3 158 σ ad z q gs.ch
  lt : ∀ x ∈ G, x < σ.next
  vols : ∀ c ∈ gs.ch, c.vol < 4
  len : gs.ch.length ≤ 100
theorem _root_.Go.AM.Row.moved {α : Type} {cells : α → List Value} {sz : Nat} {e : TypeId} {σ σ' : St} {ad : Option Addr} {z : Nat} {qs : List Nat} {l : List α} (h : Row cells sz e σ ad z qs l) (hs : ∀ q ∈ qs, σ'.get q = σ.get q) (hl : ∀ q ∈ qs, q < σ'.next) : Row cells sz e σ' ad z qs l :=
  ⟨hl, h.is.imp id (fun ⟨q, rest, e1, a, b, c⟩ => ⟨q, rest, e1, a, b, by rw [hs q (by rw [e1]; simp)]; exact c⟩)⟩
theorem Grp.moved {σ σ' : St} {g : Nat} {G : List Nat} {gs : GS} (h : Grp σ g G gs) (hs : ∀ q ∈ G, σ'.get q = σ.get q) (hl : ∀ q ∈ G, q < σ'.next) : Grp σ' g G gs := by
  obtain ⟨ad, z, q, rfl, h1, h2, h3⟩ := h.ex
  exact ⟨⟨ad, z, q, rfl, h1, by rw [hs g (by simp)]; exact h2, h3.moved (fun x hx => hs x (by simp [hx])) (fun x hx => hl x (by simp [hx]))⟩, hl, h.vols, h.len⟩
theorem Grp.same {σ σ' : St} {g : Nat} {G S : List Nat} {gs : GS} (h : Grp σ g G gs) (hs : Same σ σ' S) (hG : ∀ q ∈ G, q ∉ S) : Grp σ' g G gs :=
  h.moved (fun q hq => hs.2 q (h.lt q hq) (hG q hq)) (fun q hq => by have := h.lt q hq; have := hs.1; omega)
theorem Grp.idle {σ σ' : St} {g : Nat} {G : List Nat} {gs : GS} (h : Grp σ g G gs) (hs : Same σ σ' []) : Grp σ' g G gs := h.same hs (by simp)
theorem four {P : Nat → Prop} (h0 : P 0) (h1 : P 1) (h2 : P 2) (h3 : P 3) : ∀ v, v < 4 → P v := fun v hv => by
  rcases (by omega : v = 0 ∨ v = 1 ∨ v = 2 ∨ v = 3) with rfl | rfl | rfl | rfl <;> assumption
theorem bv_set (s : Nat → Bool) (c : Chg) (h : c.vol < 4) : (bv s).set c.vol (.bool !c.gone) = bv (behOne s c) := by
  obtain ⟨m, v, b⟩ := c
  have h' : v < 4 := h
  rcases (by omega : v = 0 ∨ v = 1 ∨ v = 2 ∨ v = 3) with rfl | rfl | rfl | rfl <;> rfl
theorem bv_nth (s : Nat → Bool) (v : Nat) (h : v < 4) (K : Value → Res) : nth [.bool (s 0), .bool (s 1), .bool (s 2), .bool (s 3)] (Int.toNat (v : Int) * 1) K = K (.bool (s v)) := by
  rcases (by omega : v = 0 ∨ v = 1 ∨ v = 2 ∨ v = 3) with rfl | rfl | rfl | rfl <;> rfl
theorem beh_snoc (s : Nat → Bool) (l : List Chg) (c : Chg) : beh s (l ++ [c]) = behOne (beh s l) c := by simp [beh]
theorem behind_loop (L k : Nat) {t0 t1 : Nat} {ad : Option Addr} {z : Nat} {q : List Nat} {f : Nat → Bool} {ch : List Chg} (N : Nat) (hN : N ≤ ch.length) (hv : ∀ c ∈ ch, c.vol < 4) (h100 : ch.length ≤ 100) (ht0 : t0 ∉ q) (ht1 : t1 ∉ q) (h01 : t0 ≠ t1) : ∀ (n i : Nat) (σ : St), i ≤ N → N - i < n → Row c3 3 158 σ ad z q ch →
    σ.get t1 = some (.own (bv (beh f (ch.take i))) 108) → (∃ x, σ.get t0 = some (.own (bv x) 108)) → t0 < σ.next → t1 < σ.next →
    ∃ σ', lpAt Tryz.prog env L k 102 [true, true, false, true] [] n [(4, ptr t0), (5, ptr t1), (17, .slice ad N z), (18, .int .i64 N), (19, .int .i64 i)] σ = some (.agg (bv (beh f (ch.take N))).toArray, σ') ∧ Same σ σ' [t0, t1]
  | 0, i, σ, _, h, _, _, _, _, _ => by omega
  | n + 1, i, σ, hi, hn, hR, h1, h0, hl0, hl1 => by
    rw [f102_l3]
    by_cases hie : i = N
    · subst hie
      obtain ⟨x, h0⟩ := h0
      have hput : ∀ K : St → Res, σ.put t0 0 (bv (beh f (ch.take i))) K = K (σ.set t0 (.own (bv (beh f (ch.take i))) 108)) := fun K => put_all (ws := bv (beh f (ch.take i))) h0 rfl rfl K
      have g1 : (σ.set t0 (.own (bv (beh f (ch.take i))) 108)).get t0 = some (.own (bv (beh f (ch.take i))) 108) := get_set_same _ _ _
      have s1 := Same.set σ t0 (.own (bv (beh f (ch.take i))) 108)
      generalize beh f (ch.take i) = s at *
      unfold bv at hput g1 s1 h1
      rw [decide_eq_false (by omega), br_false, lds_all (n := 4) h1 rfl, uncons_c, asB_b, uncons_c, asB_b, uncons_c, asB_b, uncons_c, asB_b, endl_n, hput, lds_all (n := 4) g1 rfl, uncons_c, asB_b, uncons_c, asB_b, uncons_c, asB_b, uncons_c, asB_b, endl_n]
      exact ⟨_, rfl, s1.mono (by simp)⟩
    have hget : ch[i]? = some ch[i] := List.getElem?_eq_getElem (by omega)
    have hvi := hv ch[i] (List.getElem_mem _)
    have htk : ch.take (i + 1) = ch.take i ++ [ch[i]] := by rw [List.take_add_one, hget]; rfl
    obtain ⟨p, e, hld⟩ := hR.lds (fun _ => rfl) hget
    generalize ch[i] = c at *
    subst e
    have hw : IntKind.wrap .i64 ((i : Int) + 1) = ((i + 1 : Nat) : Int) := by rw [wrap_in _ (by omega) (by omega)]; omega
    rw [decide_eq_true (by omega), br_true, need_of (by simp [inRange]; omega), adr_some, hld _ (by simp)]
    unfold c3
    rw [uncons_c, asI_i, uncons_c, asI_i, uncons_c, asB_b, endl_n]
    obtain ⟨σ1, hp, g1, s1, n1⟩ := tmp_put σ [.int .i64 0, .int .i64 0, .bool false] [.int .i64 c.mark, .int .i64 c.vol, .bool c.gone] 158 rfl rfl
    have h1' : σ1.get t1 = _ := (s1.2 t1 hl1 (by simp)).trans h1
    rw [hp, ld_at g1 1 _ rfl, asI_i, ld_at g1 2 _ rfl, asB_b, need_of (by simp [inRange]; omega), put_bool h1' _ _ (by simp [bv]; omega), hw]
    have hb : (bv (beh f (ch.take i))).set (0 + Int.toNat (c.vol : Int) * 1) (.bool !c.gone) = bv (beh f (ch.take (i + 1))) := by
      rw [htk, beh_snoc, ← bv_set _ _ hvi]; simp
    rw [hb]
    have s2 := Same.set σ1 t1 (.own (bv (beh f (ch.take (i + 1)))) 108)
    have s02 : Same σ _ [t1] := (s1.mono (by simp)).trans s2
    obtain ⟨x, h0⟩ := h0
    obtain ⟨σ', e, s3⟩ := behind_loop L k N hN hv h100 ht0 ht1 h01 n (i + 1) _ (by omega) (by omega) (hR.same s02 (fun x hx => by simp; rintro rfl; exact ht1 hx)) (get_set_same _ _ _) ⟨x, (s02.2 t0 hl0 (by simpa using h01)).trans h0⟩ (by simp; omega) (by simp; omega)
    exact ⟨σ', e, (s02.mono (by simp)).trans s3⟩
theorem behind_spec (L k : Nat) (hL : 200 < L) {σ : St} {g : Nat} {G : List Nat} {gs : GS} (h : Grp σ g G gs) (N : Nat) (hN : N ≤ gs.ch.length) :
    ∃ σ', evCall Tryz.prog env L (k + 1) 102 [ptr g, .int .i64 N] σ = some (.agg (bv (beh gs.f (gs.ch.take N))).toArray, σ') ∧ Same σ σ' [] := by
  have h100 := h.len
  have hlt := h.lt
  obtain ⟨ad, z, q, rfl, hgq, hg, hR⟩ := h.ex
  have hgl := hlt g (by simp)
  rw [f102_eq]
  have s1 : Same σ (σ.new (.own [.bool false, .bool false, .bool false, .bool false] 108)) [] := Same.new _ _ _
  have g1 : (σ.new (.own [.bool false, .bool false, .bool false, .bool false] 108)).get σ.next = some (.own [.bool false, .bool false, .bool false, .bool false] 108) := get_new_same _ _
  have n1 : (σ.new (.own [.bool false, .bool false, .bool false, .bool false] 108)).next = σ.next + 1 := rfl
  generalize σ.new (.own [.bool false, .bool false, .bool false, .bool false] 108) = σ1 at s1 g1 n1
  have hg1 : σ1.get g = _ := (s1.2 g hgl (by simp)).trans hg
  rw [lds_own (n := 4) _ hg1 (by simp)]
  show ∃ σ', (uncons [Value.bool (gs.f 0), .bool (gs.f 1), .bool (gs.f 2), .bool (gs.f 3)] _) = _ ∧ _
  rw [uncons_c, asB_b, uncons_c, asB_b, uncons_c, asB_b, uncons_c, asB_b, endl_n, tmp_put2 σ1 [.bool false, .bool false, .bool false, .bool false] [.bool (gs.f 0), .bool (gs.f 1), .bool (gs.f 2), .bool (gs.f 3)] 108 rfl rfl]
  have s2 : Same σ1 (σ1.new (.own (bv gs.f) 108)) [] := Same.new _ _ _
  have g2 : (σ1.new (.own (bv gs.f) 108)).get σ1.next = some (.own (bv gs.f) 108) := get_new_same _ _
  have n2 : (σ1.new (.own (bv gs.f) 108)).next = σ1.next + 1 := rfl
  change ∃ σ', (St.ld (σ1.new (.own (bv gs.f) 108)) g 4 _) = _ ∧ _
  generalize σ1.new (.own (bv gs.f) 108) = σ2 at s2 g2 n2
  have hg2 : σ2.get g = _ := (s2.2 g (by omega) (by simp)).trans hg1
  have hR2 := (hR.same s1 (by simp)).same s2 (by simp)
  have hq : ∀ x ∈ q, x < σ.next := hR.lt
  rw [ld_at hg2 4 _ rfl, asSl_s, need_of (by rcases hR.z with e | e <;> rw [e] <;> rfl), need_of (by simp [inRange]; omega), hR.sub0, show Int.toNat (N : Int) - 0 = N by simp]
  obtain ⟨σ3, e3, s3⟩ := behind_loop L k (f := gs.f) N hN h.vols h100 (t0 := σ.next) (t1 := σ1.next) (fun hx => by have := hq _ hx; omega) (fun hx => by have := hq _ hx; omega) (by omega) L 0 σ2 (by omega) (by omega) hR2 g2 ⟨fun _ => false, (s2.2 σ.next (by omega) (by simp)).trans g1⟩ (by omega) (by omega)
  refine ⟨σ3, e3, ?_⟩
  exact (s1.trans s2).fresh s3 (fun x hx => .inr (by simp at hx; omega))
theorem filt_succ (s : Nat → Bool) (i : Nat) : (List.range (i + 1)).filter s = (List.range i).filter s ++ if s i = true then [i] else [] := by
  rw [List.range_succ, List.filter_append]
  congr 1
  by_cases h : s i = true
  · simp [h]
  · simp [h]
theorem filt_len (s : Nat → Bool) (i : Nat) : ((List.range i).filter s).length ≤ i := by
  have := List.length_filter_le s (List.range i)
  simpa using this
def ints (l : List Nat) : List Int := l.map fun (v : Nat) => ((v : Nat) : Int)
theorem list_loop (L k : Nat) {s : Nat → Bool} {σ0 : St} : ∀ (n i : Nat) (σ : St) (ad : Option Addr) (z : Nat) (q : List Nat), i ≤ 4 → 4 - i < n → Row c1 1 3 σ ad z q (ints ((List.range i).filter s)) → Same σ0 σ [] → (∀ x ∈ q, σ0.next ≤ x) →
    ∃ ad' z' q' σ', lpAt Tryz.prog env L k 103 [true, true, false, true] [] n [(3, .slice ad ((List.range i).filter s).length z), (6, .agg (bv s).toArray), (7, .int .i64 i)] σ = some (.slice ad' ((List.range 4).filter s).length z', σ') ∧ Row c1 1 3 σ' ad' z' q' (ints ((List.range 4).filter s)) ∧ Same σ0 σ' [] ∧ (∀ x ∈ q', σ0.next ≤ x)
  | 0, i, σ, ad, z, q, _, h, _, _, _ => by omega
  | n + 1, i, σ, ad, z, q, hi, hn, hR, hs, hq => by
    unfold bv
    rw [f103_l3]
    by_cases hie : i = 4
    · subst hie
      rw [decide_eq_false (by decide), br_false]
      exact ⟨ad, z, q, σ, rfl, hR, hs, hq⟩
    have hw : IntKind.wrap .i64 ((i : Int) + 1) = ((i + 1 : Nat) : Int) := by rw [wrap_in _ (by omega) (by omega)]; omega
    have hfs := filt_succ s i
    have hfl := filt_len s i
    rw [decide_eq_true (by omega), br_true, need_of (by simp [inRange]; omega), bv_nth s i (by omega), asB_b, hw]
    cases hsi : s i with
    | false =>
      rw [if_neg (by rw [hsi]; decide), List.append_nil] at hfs
      rw [br_false, ← hfs]
      exact list_loop L k n (i + 1) σ ad z q (by omega) (by omega) (by rw [hfs]; exact hR) hs hq
    | true =>
      rw [if_pos hsi] at hfs
      rw [br_true]
      have s5 : Same σ (σ.new (.own [.int .i64 i] 3)) [] := Same.new _ _ _
      have g5 : (σ.new (.own [.int .i64 i] 3)).get σ.next = some (.own [.int .i64 i] 3) := get_new_same _ _
      generalize σ.new (.own [.int .i64 i] 3) = σ5 at s5 g5
      have hlen : (ints ((List.range i).filter s)).length = ((List.range i).filter s).length := by simp [ints]
      obtain ⟨ad', z', q', σ6, hgrow, hR6, s6, hq6⟩ := grow_row (by_ := 8) (hR.same s5 (by simp)) (fun _ => rfl) (fun _ => rfl) (by omega) [(i : Int)] [.int .i64 i] rfl 1 rfl (by rw [hlen]; unfold roomTop; omega) (by rw [hlen]; unfold sizeTop; omega)
      rw [hlen] at hgrow
      rw [row_one g5, hgrow]
      have hl2 : ((List.range i).filter s).length + 1 = ((List.range (i + 1)).filter s).length := by rw [hfs]; simp
      have hR6' : Row c1 1 3 σ6 ad' z' q' (ints ((List.range (i + 1)).filter s)) := by rw [hfs]; simpa [ints] using hR6
      rw [hl2]
      have n0 := hs.1
      have n5 := s5.1
      have s06 : Same σ0 σ6 [] := (hs.trans s5).fresh s6 (fun x hx => .inr (hq x hx))
      exact list_loop L k n (i + 1) σ6 ad' z' q' (by omega) (by omega) hR6' s06 (fun x hx => by
        rcases hq6 x hx with h | h
        · exact hq x h
        · omega)
theorem list_spec (L k : Nat) (hL : 10 < L) (s : Nat → Bool) (σ : St) : ∃ ad z q σ', evCall Tryz.prog env L (k + 1) 103 [.agg (bv s).toArray] σ = some (.slice ad ((List.range 4).filter s).length z, σ') ∧ Row c1 1 3 σ' ad z q (ints ((List.range 4).filter s)) ∧ Same σ σ' [] ∧ (∀ x ∈ q, σ.next ≤ x) := by
  unfold bv
  rw [f103_eq]
  have s1 : Same σ (σ.new (.own [.bool (s 0), .bool (s 1), .bool (s 2), .bool (s 3)] 108)) [] := Same.new _ _ _
  have g1 : (σ.new (.own [.bool (s 0), .bool (s 1), .bool (s 2), .bool (s 3)] 108)).get σ.next = some (.own [.bool (s 0), .bool (s 1), .bool (s 2), .bool (s 3)] 108) := get_new_same _ _
  generalize σ.new (.own [.bool (s 0), .bool (s 1), .bool (s 2), .bool (s 3)] 108) = σ1 at s1 g1
  rw [lds_all (n := 4) g1 rfl, uncons_c, asB_b, uncons_c, asB_b, uncons_c, asB_b, uncons_c, asB_b, endl_n]
  obtain ⟨ad, z, q, σ', e, h1, h2, h3⟩ := list_loop L k (s := s) (σ0 := σ) L 0 σ1 none 0 [] (by omega) (by omega) (Row.nil c1 1 3 σ1) s1 (by simp)
  exact ⟨ad, z, q, σ', e, h1, h2, h3⟩
theorem many_step (l : List Chg) (m : Int) : ∀ i, i ≤ l.length → (∀ j c, j < i → l[j]? = some c → c.mark ≤ m) → (∀ c, l[i]? = some c → ¬ c.mark ≤ m) → (l.takeWhile fun c => decide (c.mark ≤ m)).length = i := by
  induction l with
  | nil => intro i hi _ _; simp at hi; simp [hi]
  | cons c l ih =>
    intro i hi h1 h2
    cases i with
    | zero =>
      have := h2 c rfl
      rw [List.takeWhile_cons, if_neg (by simpa using this)]; rfl
    | succ i =>
      have := h1 0 c (by omega) rfl
      rw [List.takeWhile_cons, if_pos (by simpa using this), List.length_cons]
      congr 1
      exact ih i (by simpa using hi) (fun j c' hj hc => h1 (j + 1) c' (by omega) (by simpa using hc)) (fun c' hc => h2 c' (by simpa using hc))
theorem at_loop (L k : Nat) (hL : 200 < L) {σ : St} {g : Nat} {G : List Nat} {gs : GS} (h : Grp σ g G gs) (m : Int) : ∀ (n i : Nat), i ≤ gs.ch.length → gs.ch.length - i < n → (∀ j c, j < i → gs.ch[j]? = some c → c.mark ≤ m) →
    ∃ ad z q σ', lpAt Tryz.prog env L (k + 1) 61 [true, true, true, false] [] n [(0, ptr g), (1, .int .i64 m), (5, .int .i64 i)] σ = some (.slice ad (gs.at_ m).length z, σ') ∧ Row c1 1 3 σ' ad z q (ints (gs.at_ m)) ∧ Same σ σ' [] ∧ (∀ x ∈ q, σ.next ≤ x)
  | 0, i, _, hn, _ => by omega
  | n + 1, i, hi, hn, hle => by
    have h100 := h.len
    have hend : (∀ c, gs.ch[i]? = some c → ¬ c.mark ≤ m) → ∃ ad z q σ', (bnd (evCall Tryz.prog env L (k + 1) 102 [ptr g, .int .i64 i] σ) fun v13 v14 => asAgL v13 fun v15 => uncons v15 fun v16 v17 => asB v16 fun v18 => uncons v17 fun v19 v20 => asB v19 fun v21 => uncons v20 fun v22 v23 => asB v22 fun v24 => uncons v23 fun v25 v26 => asB v25 fun v27 => endl v26 (bnd (evCall Tryz.prog env L (k + 1) 103 [.agg #[.bool v18, .bool v21, .bool v24, .bool v27]] v14) fun v28 v29 => asSl v28 fun v30 v31 v32 => some (Value.slice v30 v31 v32, v29))) = some (.slice ad (gs.at_ m).length z, σ') ∧ Row c1 1 3 σ' ad z q (ints (gs.at_ m)) ∧ Same σ σ' [] ∧ (∀ x ∈ q, σ.next ≤ x) := by
      intro hno
      have hm : gs.many m = i := many_step gs.ch m i hi hle hno
      obtain ⟨σ1, e1, s1⟩ := behind_spec L k hL h i hi
      obtain ⟨ad, z, q, σ2, e2, hR, s2, hq⟩ := list_spec L k (by omega) (beh gs.f (gs.ch.take i)) σ1
      have hat : gs.at_ m = (List.range 4).filter (beh gs.f (gs.ch.take i)) := by unfold GS.at_ GS.has; rw [hm]
      rw [hat]
      rw [e1, bnd_some, asAgL_a]
      generalize beh gs.f (gs.ch.take i) = s at *
      show ∃ ad z q σ', (uncons [Value.bool (s 0), .bool (s 1), .bool (s 2), .bool (s 3)] _) = _ ∧ _
      rw [uncons_c, asB_b, uncons_c, asB_b, uncons_c, asB_b, uncons_c, asB_b, endl_n, show (#[Value.bool (s 0), .bool (s 1), .bool (s 2), .bool (s 3)] : Array Value) = (bv s).toArray from rfl, e2, bnd_some, asSl_s]
      exact ⟨ad, z, q, σ2, rfl, hR, s1.trans s2, fun x hx => by have := hq x hx; have := s1.1; omega⟩
    obtain ⟨ad, z, q, rfl, hgq, hg, hR⟩ := h.ex
    rw [f61_l4, ld_at hg (0 + 4) _ rfl, asSl_s]
    by_cases hie : i = gs.ch.length
    · rw [decide_eq_false (by omega), br_false]
      exact hend (fun c hc => by rw [List.getElem?_eq_none (by omega)] at hc; cases hc)
    have hget : gs.ch[i]? = some gs.ch[i] := List.getElem?_eq_getElem (by omega)
    obtain ⟨p, e, hat⟩ := hR.at (fun _ => rfl) hget
    subst e
    have hw : IntKind.wrap .i64 ((i : Int) + 1) = ((i + 1 : Nat) : Int) := by rw [wrap_in _ (by omega) (by omega)]; omega
    rw [decide_eq_true (by omega), br_true, ld_at hg (0 + 4) _ rfl, asSl_s, need_of (by simp [inRange]; omega), adr_some, hat 0 (.int .i64 gs.ch[i].mark) _ (by omega) rfl (by simp), asI_i]
    by_cases hmm : gs.ch[i].mark ≤ m
    · rw [decide_eq_true hmm, br_true, hw]
      exact at_loop L k hL h m n (i + 1) (by omega) (by omega) (fun j c hj hc => by
        by_cases e : j = i
        · subst e; rw [hget] at hc; cases hc; exact hmm
        · exact hle j c (by omega) hc)
    · rw [decide_eq_false hmm, br_false]
      exact hend (fun c hc => by rw [hget] at hc; cases hc; exact hmm)
theorem atg_spec (L k : Nat) (hL : 200 < L) {σ : St} {g : Nat} {G : List Nat} {gs : GS} (h : Grp σ g G gs) (m : Int) :
    ∃ ad z q σ', evCall Tryz.prog env L (k + 2) 61 [ptr g, .int .i64 m] σ = some (.slice ad (gs.at_ m).length z, σ') ∧ Row c1 1 3 σ' ad z q (ints (gs.at_ m)) ∧ Same σ σ' [] ∧ (∀ x ∈ q, σ.next ≤ x) := by
  have h100 := h.len
  rw [f61_eq]
  exact at_loop L k hL h m L 0 (by omega) (by omega) (fun j c hj => by omega)
theorem at_lt {gs : GS} {m : Int} {v : Nat} (h : v ∈ gs.at_ m) : v < 4 := by
  unfold GS.at_ at h
  have := (List.mem_filter.1 h).1
  simpa using this
theorem at_nodup (gs : GS) (m : Int) : (gs.at_ m).Nodup := List.Nodup.sublist List.filter_sublist List.nodup_range
theorem at_len (gs : GS) (m : Int) : (gs.at_ m).length ≤ 4 := filt_len _ 4
end Go.AM.Bk

namespace Go.AM.Bk.S
open Go.Proofs
def Can (r : Rec) : Prop := (1 ≤ r.seq ∧ r.seq ≤ 1152921504606846975) ∧
  ((r.kind = 1 ∧ 0 ≤ r.block ∧ r.block ≤ 7 ∧ r.data.size ≤ 16 ∧ r.number = 0) ∨ (r.kind = 2 ∧ r.block = 0 ∧ r.data.size = 0 ∧ 1 ≤ r.number ∧ r.number ≤ 1152921504606846975))
instance (r : Rec) : Decidable (Can r) := inferInstanceAs (Decidable (_ ∧ _))
theorem empty_eq (s : ByteArray) : (s.toList == ByteArray.toList ⟨#[]⟩) = decide (s.size = 0) := by
  rw [ByteArray.toList_eq, ByteArray.toList_eq]
  have h : s.size = s.data.toList.length := by rw [Array.length_toList]; rfl
  rw [h]
  cases hl : s.data.toList with
  | nil => rfl
  | cons a l => rfl
theorem bq (a b : Int) : (a == b) = decide (a = b) := by
  by_cases h : a = b
  · rw [decide_eq_true h]; simpa using h
  · rw [decide_eq_false h]; simpa using h
theorem can_leaf {r : Rec} {b : Bool} {σ σ' : St} (h : (b = true) ↔ Can r) (hs : Same σ σ' []) : Ends (fun v σ' => v = .bool (decide (Can r)) ∧ Same σ σ' []) (some (.bool b, σ')) := by
  refine .leaf ⟨?_, hs⟩
  congr 1
  by_cases hc : Can r
  · rw [decide_eq_true hc]; exact h.2 hc
  · rw [decide_eq_false hc]
    cases b
    · rfl
    · exact absurd (h.1 rfl) hc
set_option maxRecDepth 4000 in
theorem right_is (L k : Nat) (σ : St) (r : Rec) : Ends (fun v σ' => v = .bool (decide (Can r)) ∧ Same σ σ' []) (evCall Tryz.prog env L (k + 2) 101 [r.agg] σ) := by
  unfold Rec.agg
  rw [f101_eq]
  generalize hσ1 : σ.new (Blk.own [Value.int IntKind.i64 r.seq, Value.int IntKind.i64 r.kind, Value.int IntKind.i64 r.block, Value.string r.data, Value.int IntKind.i64 r.number] 58) = σ1
  have hn : σ1.get σ.next = some (Blk.own [Value.int IntKind.i64 r.seq, Value.int IntKind.i64 r.kind, Value.int IntKind.i64 r.block, Value.string r.data, Value.int IntKind.i64 r.number] 58) := by rw [← hσ1, get_new_same]
  have hs1 : Same σ σ1 [] := by rw [← hσ1]; exact Same.new _ _ _
  have hx1 : σ1.next = σ.next + 1 := by rw [← hσ1]; rfl
  have hput := fun K => put_int hn 4 .i64 0 (by simp) K
  generalize hσ2 : σ1.set σ.next (.own (List.set [Value.int IntKind.i64 r.seq, Value.int IntKind.i64 r.kind, Value.int IntKind.i64 r.block, Value.string r.data, Value.int IntKind.i64 r.number] 4 (.int .i64 0)) 58) = σ2 at hput
  have hn2 : σ2.get σ.next = some (Blk.own [Value.int IntKind.i64 r.seq, Value.int IntKind.i64 r.kind, Value.int IntKind.i64 r.block, Value.string r.data, Value.int IntKind.i64 0] 58) := by rw [← hσ2, get_set_same]; rfl
  have hs2 : Same σ σ2 [] := ⟨by rw [← hσ2]; simp [hx1], fun k hk _ => by rw [← hσ2, get_set (by omega), hs1.2 k hk (by simp)]⟩
  have a0 := fun K => ld_at hn 0 _ rfl K
  have a1 := fun K => ld_at hn 1 _ rfl K
  have a2 := fun K => ld_at hn 2 _ rfl K
  have a3 := fun K => ld_at hn 3 _ rfl K
  have a4 := fun K => ld_at hn 4 _ rfl K
  have b1 := fun K => ld_at hn2 1 _ rfl K
  have b2 := fun K => ld_at hn2 2 _ rfl K
  have b3 := fun K => ld_at hn2 3 _ rfl K
  have b4 := fun K => ld_at hn2 4 _ rfl K
  simp only [a0, a1, a2, a3, a4, b1, b2, b3, b4, asI_i, asS_s, num_spec, bnd_some, asB_b, hput, empty_eq, bq]
  unfold Can
  repeat' first
    | refine can_leaf ?_ hs1
    | refine can_leaf ?_ hs2
    | refine Ends.br (fun h => ?_) (fun h => ?_)
  all_goals
    simp only [decide_eq_true_eq, decide_eq_false_iff_not, Bool.and_eq_true, Bool.and_eq_false_iff, Bool.false_eq_true, false_iff, true_iff, Can] at *
  all_goals first | omega | (exfalso; rename_i h; exact h trivial)
end Go.AM.Bk.S

namespace Go.AM.Bk
structure SS where
  first : Int
  mark : Int
  rs : List S.Rec
structure NS where
  im : IS
  st : Nat → SS
  mark : Int
def upd {α : Type} (f : Nat → α) (v : Nat) (x : α) : Nat → α := fun i => if i = v then x else f i
theorem upd_same {α : Type} (f : Nat → α) (v : Nat) (x : α) : upd f v x v = x := by simp [upd]
theorem upd_ne {α : Type} (f : Nat → α) {v i : Nat} (x : α) (h : i ≠ v) : upd f v x i = f i := by simp [upd, h]
def upTo (rs : List S.Rec) (m : Int) : Option Nat := rs.findIdx? fun r => decide (S.Hit m r)
theorem upTo_some {rs : List S.Rec} {m : Int} {j : Nat} {r : S.Rec} (h : rs[j]? = some r) (hh : S.Hit m r) (hno : ∀ j' r', j' < j → rs[j']? = some r' → ¬ S.Hit m r') : upTo rs m = some j := by
  obtain ⟨hj, e⟩ := List.getElem?_eq_some_iff.1 h
  unfold upTo
  rw [List.findIdx?_eq_some_iff_getElem]
  refine ⟨hj, by rw [e]; simpa using hh, fun i hi => ?_⟩
  have := hno i rs[i] hi (List.getElem?_eq_getElem (by omega))
  simpa using this
theorem upTo_none {rs : List S.Rec} {m : Int} (h : ∀ r ∈ rs, ¬ S.Hit m r) : upTo rs m = none := by
  unfold upTo
  rw [List.findIdx?_eq_none_iff]
  intro r hr
  simpa using h r hr
theorem upTo_inv {rs : List S.Rec} {m : Int} {j : Nat} (h : upTo rs m = some j) : ∃ r, rs[j]? = some r ∧ S.Hit m r ∧ (∀ j' r', j' < j → rs[j']? = some r' → ¬ S.Hit m r') ∧ j < rs.length := by
  unfold upTo at h
  rw [List.findIdx?_eq_some_iff_getElem] at h
  obtain ⟨hj, h1, h2⟩ := h
  refine ⟨rs[j], List.getElem?_eq_getElem hj, by simpa using h1, fun j' r' hj' hr => ?_, hj⟩
  have := h2 j' hj'
  obtain ⟨_, e⟩ := List.getElem?_eq_some_iff.1 hr
  rw [e] at this
  simpa using this
theorem upTo_no {rs : List S.Rec} {m : Int} (h : upTo rs m = none) : ∀ r ∈ rs, ¬ S.Hit m r := by
  unfold upTo at h
  rw [List.findIdx?_eq_none_iff] at h
  intro r hr
  simpa using h r hr
theorem mem_marks {rs : List S.Rec} {m : Int} : m ∈ S.marksOf rs ↔ ∃ r ∈ rs, S.Hit m r := by
  unfold S.marksOf S.Hit
  rw [List.mem_filterMap]
  constructor
  · rintro ⟨r, hr, e⟩
    split at e
    · rename_i hk; cases e; exact ⟨r, hr, hk, rfl⟩
    · cases e
  · rintro ⟨r, hr, h1, h2⟩
    exact ⟨r, hr, by rw [if_pos h1, h2]⟩
theorem upTo_marks {rs : List S.Rec} {m : Int} : (upTo rs m).isSome = true ↔ m ∈ S.marksOf rs := by
  rw [mem_marks]
  constructor
  · intro h
    obtain ⟨j, e⟩ := Option.isSome_iff_exists.1 h
    obtain ⟨r, hr, hh, _⟩ := upTo_inv e
    exact ⟨r, List.mem_of_getElem? hr, hh⟩
  · rintro ⟨r, hr, hh⟩
    cases e : upTo rs m with
    | none => exact absurd hh (upTo_no e r hr)
    | some j => rfl
def SS.take (s : SS) (r : S.Rec) : SS := if r.seq = s.first + s.rs.length ∧ S.Can r then { s with rs := s.rs ++ [r] } else s
def SS.last (s : SS) : Int := s.first + s.rs.length - 1
def SS.drop (s : SS) (m : Int) : SS := match upTo s.rs m with | some j => ⟨s.first + (j + 1 : Nat), m, s.rs.drop (j + 1)⟩ | none => s
def SS.cut (s : SS) : SS := { s with rs := [] }
def NS.can (N : NS) (g : GS) (m : Int) : Bool := (g.at_ m).all (fun v => (upTo (N.st v).rs m).isSome) && (decide ((N.im.km : Int) < m) && !(g.at_ m).isEmpty)
def rdyL (p : Int → Bool) (out : Int) : List Int → Int
  | [] => out
  | m :: l => rdyL p (if out < m ∧ p m = true then m else out) l
def NS.marks (N : NS) : List Int := (List.range 4).flatMap fun v => S.marksOf (N.st v).rs
def NS.ready (N : NS) (g : GS) : Int := rdyL (N.can g) 0 N.marks
def replay (b : List ByteArray) (v : Nat) (rs : List S.Rec) : List ByteArray := rs.foldl (fun b r => if r.kind = 1 then b.set (8 * v + r.block.toNat) r.data else b) b
def NS.layOne (N : NS) (m : Int) (b : List ByteArray) (v : Nat) : List ByteArray := match upTo (N.st v).rs m with | some j => replay b v ((N.st v).rs.take (j + 1)) | none => b
def NS.lay (N : NS) (g : GS) (m : Int) : List ByteArray := (g.at_ m).foldl (N.layOne m) N.im.bl
def NS.dropL (N : NS) (m : Int) (l : List Nat) : NS := { N with st := fun v => if v ∈ l ∧ (N.st v).mark ≠ m then (N.st v).drop m else N.st v }
def NS.drop (N : NS) (g : GS) : NS := N.dropL N.im.km (g.at_ N.im.km)
def NS.take (N : NS) (v : Nat) (r : S.Rec) : NS := { N with st := upd N.st v ((N.st v).take r) }
def NS.begun (N : NS) (g : GS) (m : Int) : NS := { N with im := { N.im with work := some (m.toNat, N.lay g m, 0) }, mark := m }
def NS.step (N : NS) (g : GS) : NS :=
  match N.im.work with
  | none => N
  | some (mk', bl', k) => if k = 34 then NS.drop { N with im := stepS N.im mk' bl' k, mark := 0 } g else { N with im := stepS N.im mk' bl' k }
def NS.held (N : NS) : Nat := (N.st 0).rs.length + (N.st 1).rs.length + (N.st 2).rs.length + (N.st 3).rs.length
def newN : NS := ⟨⟨fresh66, [], 0, 0, noBlocks, none⟩, fun _ => ⟨1, 0, []⟩, 0⟩
theorem replay_len (v : Nat) : ∀ (rs : List S.Rec) (b : List ByteArray), (replay b v rs).length = b.length
  | [], b => rfl
  | r :: rs, b => by
    unfold replay
    rw [List.foldl_cons]
    refine (replay_len v rs _).trans ?_
    split
    · rw [List.length_set]
    · rfl
theorem layOne_len (N : NS) (m : Int) (b : List ByteArray) (v : Nat) : (N.layOne m b v).length = b.length := by
  unfold NS.layOne
  split
  · exact replay_len _ _ _
  · rfl
theorem lay_len (N : NS) (m : Int) : ∀ (l : List Nat) (b : List ByteArray), (l.foldl (N.layOne m) b).length = b.length
  | [], b => rfl
  | v :: l, b => by rw [List.foldl_cons, lay_len N m l, layOne_len]
theorem rdyL_app (p : Int → Bool) : ∀ (l l' : List Int) (out : Int), rdyL p out (l ++ l') = rdyL p (rdyL p out l) l'
  | [], l', out => rfl
  | m :: l, l', out => rdyL_app p l l' _
theorem rdyL_ge (p : Int → Bool) : ∀ (l : List Int) (out : Int), out ≤ rdyL p out l
  | [], out => Int.le_refl _
  | m :: l, out => by
    have := rdyL_ge p l (if out < m ∧ p m = true then m else out)
    unfold rdyL
    refine Int.le_trans ?_ this
    split
    · omega
    · omega
theorem rdyL_is (p : Int → Bool) : ∀ (l : List Int) (out : Int), rdyL p out l = out ∨ (rdyL p out l ∈ l ∧ p (rdyL p out l) = true)
  | [], out => .inl rfl
  | m :: l, out => by
    unfold rdyL
    rcases rdyL_is p l (if out < m ∧ p m = true then m else out) with h | h
    · by_cases hc : out < m ∧ p m = true
      · rw [if_pos hc] at h ⊢
        rw [h]; exact .inr ⟨by simp, hc.2⟩
      · rw [if_neg hc] at h ⊢
        exact .inl h
    · exact .inr ⟨List.mem_cons_of_mem _ h.1, h.2⟩
theorem can_inv {N : NS} {g : GS} {m : Int} (h : N.can g m = true) : (∀ v ∈ g.at_ m, ∃ j, upTo (N.st v).rs m = some j) ∧ (N.im.km : Int) < m ∧ g.at_ m ≠ [] := by
  unfold NS.can at h
  simp only [Bool.and_eq_true, List.all_eq_true, decide_eq_true_eq, Bool.not_eq_true', List.isEmpty_eq_false_iff] at h
  exact ⟨fun v hv => Option.isSome_iff_exists.1 (h.1 v hv), h.2.1, h.2.2⟩
theorem mem_nmarks {N : NS} {m : Int} : m ∈ N.marks ↔ ∃ v, v < 4 ∧ m ∈ S.marksOf (N.st v).rs := by
  unfold NS.marks
  rw [List.mem_flatMap]
  constructor
  · rintro ⟨v, hv, h⟩; exact ⟨v, by simpa using hv, h⟩
  · rintro ⟨v, hv, h⟩; exact ⟨v, by simpa using hv, h⟩
theorem can_marks {N : NS} {g : GS} {m : Int} (h : N.can g m = true) : m ∈ N.marks := by
  obtain ⟨h1, _, h3⟩ := can_inv h
  cases e : g.at_ m with
  | nil => exact absurd e h3
  | cons v l =>
    have hv : v ∈ g.at_ m := by rw [e]; simp
    obtain ⟨j, hj⟩ := h1 v hv
    exact mem_nmarks.2 ⟨v, at_lt hv, upTo_marks.1 (by rw [hj]; rfl)⟩
theorem ready_pos {N : NS} {g : GS} : 0 ≤ N.ready g := rdyL_ge _ _ _
theorem ready_can {N : NS} {g : GS} (h : N.ready g ≠ 0) : N.can g (N.ready g) = true ∧ 0 < N.ready g := by
  have h0 := ready_pos (N := N) (g := g)
  rcases rdyL_is (N.can g) N.marks 0 with e | e
  · exact absurd e h
  · exact ⟨e.2, by omega⟩
structure SS.Inv (s : SS) (c : Nat) : Prop where
  f1 : 1 ≤ s.first
  seq : ∀ (i : Nat) (r : S.Rec), s.rs[i]? = some r → S.Can r ∧ r.seq = s.first + i
  len : s.first + s.rs.length ≤ c + 1
structure NS.Inv (N : NS) (c : Nat) : Prop where
  im : N.im.Inv
  tc : N.im.t + (if N.im.work.isSome = true then 1 else 0) ≤ c
  st : ∀ v, v < 4 → (N.st v).Inv c
  wk : (N.mark = 0 ∧ N.im.work = none) ∨ (0 < N.mark ∧ ∃ bl k, N.im.work = some (N.mark.toNat, bl, k))
theorem SS.Inv.mono {s : SS} {c c' : Nat} (h : s.Inv c) (hc : c ≤ c') : s.Inv c' := ⟨h.f1, h.seq, by have := h.len; omega⟩
theorem NS.Inv.mono {N : NS} {c c' : Nat} (h : N.Inv c) (hc : c ≤ c') : N.Inv c' := ⟨h.im, by have := h.tc; omega, fun v hv => (h.st v hv).mono hc, h.wk⟩
theorem SS.Inv.take {s : SS} {c : Nat} (h : s.Inv c) (r : S.Rec) : (s.take r).Inv (c + 1) := by
  unfold SS.take
  split
  · rename_i hr
    refine ⟨h.f1, fun i x hx => ?_, by have := h.len; dsimp only; rw [List.length_append, List.length_singleton]; omega⟩
    dsimp only at hx
    rw [List.getElem?_append] at hx
    split at hx
    · exact h.seq i x hx
    · rename_i hi
      have hi' : i = s.rs.length := by
        by_cases e : i = s.rs.length
        · exact e
        · rw [List.getElem?_eq_none (by simp; omega)] at hx; cases hx
      subst hi'
      simp at hx
      subst hx
      exact ⟨hr.2, hr.1⟩
  · exact h.mono (by omega)
theorem SS.Inv.drop {s : SS} {c : Nat} (h : s.Inv c) (m : Int) : (s.drop m).Inv c := by
  unfold SS.drop
  split
  · rename_i j hj
    obtain ⟨r, hr, hh, hno, hlt⟩ := upTo_inv hj
    refine ⟨by have := h.f1; dsimp only; omega, fun i x hx => ?_, by have := h.len; dsimp only; rw [List.length_drop]; omega⟩
    dsimp only at hx ⊢
    rw [List.getElem?_drop] at hx
    have := h.seq _ x hx
    exact ⟨this.1, by rw [this.2]; omega⟩
  · exact h
theorem SS.Inv.cut {s : SS} {c : Nat} (h : s.Inv c) : s.cut.Inv c := ⟨h.f1, fun i r hr => by simp [SS.cut] at hr, by have := h.len; show s.first + (0 : Nat) ≤ _; omega⟩
theorem newN_inv : newN.Inv 0 := ⟨⟨by unfold newN fresh66; simp, by unfold newN; simp, good66, rfl⟩, by unfold newN; simp, fun v _ => ⟨by unfold newN; simp, fun i r hr => by simp [newN] at hr, by unfold newN; simp⟩, .inl ⟨rfl, rfl⟩⟩
theorem NS.Inv.take {N : NS} {c : Nat} (h : N.Inv c) (v : Nat) (r : S.Rec) : (N.take v r).Inv (c + 1) := by
  refine ⟨h.im, by have := h.tc; unfold NS.take; dsimp only; omega, fun u hu => ?_, h.wk⟩
  unfold NS.take
  dsimp only
  by_cases e : u = v
  · subst e; rw [upd_same]; exact (h.st u hu).take r
  · rw [upd_ne _ _ e]; exact (h.st u hu).mono (by omega)
theorem NS.Inv.dropL {N : NS} {c : Nat} (h : N.Inv c) (m : Int) (l : List Nat) : (N.dropL m l).Inv c := by
  refine ⟨h.im, h.tc, fun u hu => ?_, h.wk⟩
  unfold NS.dropL
  dsimp only
  split
  · exact (h.st u hu).drop m
  · exact h.st u hu
theorem can_top {N : NS} {g : GS} {c : Nat} (h : N.Inv c) {m : Int} (hm : N.can g m = true) : 0 < m ∧ m ≤ top := by
  obtain ⟨v, hv, hmm⟩ := mem_nmarks.1 (can_marks hm)
  obtain ⟨r, hr, hh⟩ := mem_marks.1 hmm
  obtain ⟨i, hi⟩ := List.mem_iff_getElem?.1 hr
  obtain ⟨hc, _⟩ := (h.st v hv).seq i r hi
  obtain ⟨_, hc⟩ := hc
  obtain ⟨h1, h2⟩ := hh
  unfold top
  rcases hc with hc | hc
  · omega
  · omega
theorem long_false {b : List ByteArray} : long b = false ↔ ∀ s ∈ b, s.size ≤ 16 := by
  unfold long
  rw [List.any_eq_false]
  constructor
  · intro h s hs; have := h s hs; simpa using this
  · intro h s hs; have := h s hs; simpa using this
theorem replay_long {v : Nat} : ∀ (rs : List S.Rec) (b : List ByteArray), long b = false → (∀ r ∈ rs, S.Can r) → long (replay b v rs) = false
  | [], b, h, _ => h
  | r :: rs, b, h, hc => by
    unfold replay
    rw [List.foldl_cons]
    refine replay_long rs _ ?_ (fun x hx => hc x (List.mem_cons_of_mem _ hx))
    split
    · rename_i hk
      rw [long_false] at h ⊢
      intro s hs
      rcases List.mem_or_eq_of_mem_set hs with hs | rfl
      · exact h s hs
      · obtain ⟨_, h1 | h1⟩ := hc r (by simp)
        · exact h1.2.2.2.1
        · omega
    · exact h
theorem lay_long {N : NS} {c : Nat} (h : N.Inv c) (m : Int) : ∀ (l : List Nat) (b : List ByteArray), (∀ v ∈ l, v < 4) → long b = false → long (l.foldl (N.layOne m) b) = false
  | [], b, _, hb => hb
  | v :: l, b, hl, hb => by
    rw [List.foldl_cons]
    refine lay_long h m l _ (fun u hu => hl u (List.mem_cons_of_mem _ hu)) ?_
    unfold NS.layOne
    split
    · refine replay_long _ _ hb (fun r hr => ?_)
      obtain ⟨i, hi⟩ := List.mem_iff_getElem?.1 (List.mem_of_mem_take hr)
      exact ((h.st v (hl v (by simp))).seq i r hi).1
    · exact hb
end Go.AM.Bk

namespace Go.AM.Bk.E
open Go.Proofs
def Err (σ : St) (v : Value) (c at_ : Int) : Prop := ∃ q, v = .iface 162 (.pointer (some ⟨q, 0, none⟩)) ∧ σ.get q = some (.own [.string ⟨#[98, 97, 99, 107, 117, 112]⟩, .int .i64 at_, .iface 70 (.int .i64 c)] 164) ∧ q < σ.next
theorem Err.same {σ σ' : St} {v : Value} {c a : Int} {S : List Nat} (h : Err σ v c a) (hs : Same σ σ' S) (hS : S = [] := by rfl) : Err σ' v c a := by
  subst hS
  obtain ⟨q, e, g, l⟩ := h
  exact ⟨q, e, by rw [hs.2 q l (by simp)]; exact g, by have := hs.1; omega⟩
theorem as_prim (L k : Nat) (args : List Value) (σ : St) : evCall Tryz.prog env L (k + 1) 70 args σ = Td.asG args σ := rfl
theorem code_spec (L k : Nat) {σ : St} {v : Value} {c a : Int} (h : Err σ v c a) : ∃ σ', evCall Tryz.prog env L (k + 2) 27 [v] σ = some (.int .i64 c, σ') ∧ Same σ σ' [] := by
  obtain ⟨q, rfl, hg, hq⟩ := h
  have hg1 : (σ.new (Blk.own [Value.int .i64 0] 70)).get q = some (.own [.string ⟨#[98, 97, 99, 107, 117, 112]⟩, .int .i64 a, .iface 70 (.int .i64 c)] 164) := by rw [get_new (by omega)]; exact hg
  rw [f27_eq, as_prim]
  have h : Td.asG [.iface 162 (.pointer (some ⟨q, 0, none⟩)), .iface 146 (.pointer (some ⟨σ.next, 0, none⟩))] (σ.new (Blk.own [Value.int .i64 0] 70)) =
      some (.bool true, (σ.new (Blk.own [Value.int .i64 0] 70)).set σ.next (.own [Value.int .i64 c] 70)) := by
    simp only [Td.asG, get_new_same]
    rw [if_pos (by simp), if_neg (by simp), if_neg (by simp), if_neg (by simp), if_pos (by simp), ld_own _ hg1 (v := .iface 70 (.int .i64 c)) rfl]
    exact put_own _ (get_new_same _ _) (by simp) rfl
  rw [h, bnd_some, asB_b, not_true, br_false, ld_own _ (get_set_same _ _ _) (v := .int .i64 c) rfl, asI_i]
  refine ⟨_, rfl, ⟨by simp, fun k hk _ => ?_⟩⟩
  rw [get_set (by omega), get_new (by omega)]
theorem code_nil (L k : Nat) (σ : St) : ∃ σ', evCall Tryz.prog env L (k + 2) 27 [.nilIface] σ = some (.int .i64 0, σ') ∧ Same σ σ' [] := by
  rw [f27_eq, as_prim]
  exact ⟨_, rfl, Same.new _ _ _⟩
theorem first_nil (L k : Nat) (hL : 3 < L) (σ : St) (s : ByteArray) : ∃ σ', evCall Tryz.prog env L (k + 3) 54 [.nilIface, .string s] σ = some (.tuple #[.int .i64 0, .bool false], σ') ∧ Same σ σ' [] := by
  obtain ⟨m, rfl⟩ : ∃ m, L = m + 4 := ⟨L - 4, by omega⟩
  rw [f54_eq, f98_eq, f98_l3, as_prim]
  have h : ∀ s4 σ1, Td.asG [.nilIface, s4] σ1 = some (.bool false, σ1) := fun _ _ => rfl
  rw [h, bnd_some, asB_b, br_false, bnd_some, asSl_s, f54_l2, decide_eq_false (by omega), br_false]
  exact ⟨_, rfl, Same.new _ _ _⟩
def cp (q : Nat) : List Value := [.pointer (some ⟨q, 0, none⟩)]
theorem first_spec (L k : Nat) (hL : 3 < L) {σ : St} {v : Value} {c a : Int} (h : Err σ v c a) : ∃ σ', evCall Tryz.prog env L (k + 3) 54 [v, .string ⟨#[98, 97, 99, 107, 117, 112]⟩] σ = some (.tuple #[.int .i64 a, .bool true], σ') ∧ Same σ σ' [] := by
  obtain ⟨m, rfl⟩ : ∃ m, L = m + 4 := ⟨L - 4, by omega⟩
  obtain ⟨q, rfl, hg, hq⟩ := h
  rw [f54_eq, f98_eq, f98_l3, as_prim]
  generalize hσ1 : σ.new (Blk.own [Value.pointer none] 162) = σ1
  have hs1 : Same σ σ1 [] := by rw [← hσ1]; exact Same.new _ _ _
  have hn1 : σ1.next = σ.next + 1 := by rw [← hσ1]; rfl
  have ht1 : σ1.get σ.next = some (Blk.own [Value.pointer none] 162) := by rw [← hσ1, get_new_same]
  have h : Td.asG [.iface 162 (.pointer (some ⟨q, 0, none⟩)), .iface 212 (.pointer (some ⟨σ.next, 0, none⟩))] σ1 = some (.bool true, σ1.set σ.next (.own [.pointer (some ⟨q, 0, none⟩)] 162)) := by
    simp only [Td.asG, ht1]
    rw [if_pos (by simp), if_pos (by simp)]
    exact put_own _ ht1 (by simp) rfl
  rw [h, bnd_some, asB_b, br_true, asP_p, adr_some]
  generalize hσ2 : σ1.set σ.next (.own [.pointer (some ⟨q, 0, none⟩)] 162) = σ2
  have hs2 : Same σ σ2 [] := by rw [← hσ2]; exact ⟨by simp; omega, fun k hk _ => by rw [get_set (by omega), hs1.2 k hk (by simp)]⟩
  have hn2 : σ2.next = σ.next + 1 := by rw [← hσ2]; simpa using hn1
  have ht2 : σ2.get σ.next = some (.own [.pointer (some ⟨q, 0, none⟩)] 162) := by rw [← hσ2, get_set_same]
  rw [ld_own _ ht2 (v := .pointer (some ⟨q, 0, none⟩)) rfl, asP_p, show (!(some (⟨q, 0, none⟩ : Addr)).isNone) = true from rfl, br_true, asP_p, adr_some, ld_own _ ht2 (v := .pointer (some ⟨q, 0, none⟩)) rfl, asP_p]
  generalize hσ3 : σ2.new (Blk.own [Value.pointer (some ⟨q, 0, none⟩)] 162) = σ3
  have hs3 : Same σ2 σ3 [] := by rw [← hσ3]; exact Same.new _ _ _
  have ht3 : σ3.get σ2.next = some (Blk.own [Value.pointer (some ⟨q, 0, none⟩)] 162) := by rw [← hσ3, get_new_same]
  rw [row_one ht3]
  obtain ⟨ad, z, qs, σ4, hgrow, hrow, hs4, hq4⟩ := grow_row (by_ := 8) (Row.nil cp 1 162 σ3) (fun _ => rfl) (fun _ => rfl) (by omega) [q] [Value.pointer (some ⟨q, 0, none⟩)] rfl 1 rfl (by unfold roomTop; simp) (by unfold sizeTop; simp)
  have hgrow' : ∀ K : Option Addr → Nat → Nat → St → Res, grow 162 1 8 none 0 0 1 [Value.pointer (some ⟨q, 0, none⟩)] σ3 K = K ad 1 z σ4 := hgrow
  have hs24 : Same σ2 σ4 [] := hs3.trans hs4
  have hs04 : Same σ σ4 [] := hs2.trans hs24
  have ht4 : σ4.get σ.next = some (.own [.pointer (some ⟨q, 0, none⟩)] 162) := by rw [hs24.2 _ (by omega) (by simp)]; exact ht2
  have hg4 : σ4.get q = some (.own [.string ⟨#[98, 97, 99, 107, 117, 112]⟩, .int .i64 a, .iface 70 (.int .i64 c)] 164) := by rw [hs04.2 q hq (by simp)]; exact hg
  rw [hgrow', asP_p, adr_some, ld_own _ ht4 (v := .pointer (some ⟨q, 0, none⟩)) rfl, asP_p, adr_some, ld_own _ hg4 (v := .iface 70 (.int .i64 c)) rfl, f98_l3, as_prim]
  have h5 : Td.asG [.iface 70 (.int .i64 c), .iface 212 (.pointer (some ⟨σ.next, 0, none⟩))] σ4 = some (.bool false, σ4) := by
    simp only [Td.asG, ht4]
    rw [if_pos (by simp), if_neg (by simp), if_pos (by simp)]
  obtain ⟨q9, e9, hat⟩ := hrow.at (fun _ => rfl) (i := 0) (a := q) rfl
  rw [h5, bnd_some, asB_b, br_false, bnd_some, asSl_s, f54_l2, decide_eq_true (by omega), br_true, need_of (by simp [inRange]), e9, adr_some, hat 0 (.pointer (some ⟨q, 0, none⟩)) _ (by omega) rfl (by simp), asP_p, adr_some, ld_own _ hg4 (v := .string ⟨#[98, 97, 99, 107, 117, 112]⟩) rfl, asS_s, beq_self_eq_true, br_true, adr_some, ld_own _ hg4 (v := .int .i64 a) rfl, asI_i]
  exact ⟨σ4, rfl, hs04⟩
theorem place_ok (L k : Nat) (hL : 3 < L) {σ : St} {v : Value} {c a : Int} (h : (v = .nilIface ∧ c = 0) ∨ (Err σ v c a ∧ c ≠ 0)) : ∃ σ', evCall Tryz.prog env L (k + 4) 15 [v, .int .i64 a, .int .i64 c] σ = some (.bool true, σ') ∧ Same σ σ' [] := by
  rw [f15_eq]
  rcases h with ⟨rfl, rfl⟩ | ⟨hE, hc⟩
  · obtain ⟨σ1, g1, s1⟩ := first_nil L k hL σ ⟨#[98, 97, 99, 107, 117, 112]⟩
    obtain ⟨σ2, g2, s2⟩ := code_nil L (k + 1) σ1
    rw [g1, bnd_some, asT_t, toList2, uncons_c, asI_i, uncons_c, asB_b, endl_n, g2, bnd_some, asI_i]
    exact ⟨σ2, rfl, s1.trans s2⟩
  · obtain ⟨σ1, g1, s1⟩ := first_spec L k hL hE
    obtain ⟨σ2, g2, s2⟩ := code_spec L (k + 1) (hE.same s1)
    rw [g1, bnd_some, asT_t, toList2, uncons_c, asI_i, uncons_c, asB_b, endl_n, g2, bnd_some, asI_i, show (c == c) = true by simp, br_true, show (c != 0) = true by simpa using hc, show (true == true) = true from rfl, br_true, not_true, br_false, show (a == a) = true by simp]
    exact ⟨σ2, rfl, s1.trans s2⟩
end Go.AM.Bk.E

namespace Go.AM.Bk
open Go.Proofs
theorem Owns.third {σ0 σ : St} {A B C : List Nat} {R : List (List Nat)} (h : Owns σ0 σ (A :: B :: C :: R)) : Owns σ0 σ (B :: C :: A :: R) :=
  h.map (fun i => if i = 0 then 1 else if i = 1 then 2 else if i = 2 then 0 else i) (fun i j e => by
    by_cases a0 : i = 0 <;> by_cases a1 : i = 1 <;> by_cases a2 : i = 2 <;> by_cases b0 : j = 0 <;> by_cases b1 : j = 1 <;> by_cases b2 : j = 2 <;> simp [a0, a1, a2, b0, b1, b2] at e <;> omega) (fun i G hG => by
    match i, hG with
    | 0, hG => exact hG
    | 1, hG => exact hG
    | 2, hG => exact hG
    | i + 3, hG => exact hG)
theorem ImS.push {σ0 σ σ' : St} {m d : Nat} {s : IS} {R : List (List Nat)} {X : List Nat} (h : ImS σ0 σ m d s R) (hw : s.work = none) (hs : Same σ σ' []) (hX : ∀ q ∈ X, σ.next ≤ q ∧ q < σ'.next) : ImS σ0 σ' m d s (X :: R) := by
  obtain ⟨F, G, w, a1, a2, a3, a4, a5⟩ := h.ex
  refine ⟨F, G, w, a1.idle hs, a2.same hs (by simp), Owns.third (a3.more hs hX), a4, ?_⟩
  rcases a5 with a5 | ⟨_, _, _, _, e, _⟩
  · exact .inl a5
  · rw [hw] at e; cases e
theorem ImS.turned {σ0 σ σ' : St} {m d : Nat} {s : IS} {R : List (List Nat)} {A B : List Nat} (h : ImS σ0 σ m d s R) (i : Nat) (hi : R[i]? = some A) (hT : Turn σ σ' A B) : ImS σ0 σ' m d s (R.set i B) := by
  obtain ⟨F, G, w, h1, h2, h3, h4, h5⟩ := h.ex
  have hi2 : (F :: G :: R)[i + 2]? = some A := hi
  refine ⟨F, G, w, h1.same hT.same (h3.off 0 (i + 2) (by omega) rfl hi2), h2.same hT.same (h3.off 1 (i + 2) (by omega) rfl hi2 m h4), h3.turned (i + 2) hi2 hT, h4, ?_⟩
  rcases h5 with h5 | ⟨b, mk', bl', done, e1, e2, e3, e4, e5⟩
  · exact .inl h5
  · exact .inr ⟨b, mk', bl', done, e1, e2, e3, e4, by rw [hT.same.2 b (h3.lt 1 rfl b e3) (h3.off 1 (i + 2) (by omega) rfl hi2 b e3)]; exact e5.ex, e5.len⟩
theorem ImS.lt {σ0 σ : St} {m d : Nat} {s : IS} {R : List (List Nat)} (h : ImS σ0 σ m d s R) {H : List Nat} (hH : H ∈ R) : ∀ q ∈ H, q < σ.next := by
  obtain ⟨F, G, w, h1, h2, h3, h4, h5⟩ := h.ex
  exact fun q hq => (h3.own H (by simp [hH]) q hq).2
theorem zero_spec (L k : Nat) (hL : 10 < L) {σ : St} {p : Nat} (hp : σ.get p = some (.own [.int .i64 0] 3)) (hlt : p < σ.next) : ∃ g σ', evCall Tryz.prog env L (k + 2) 12 [.slice (some ⟨p, 0, none⟩) 1 1] σ = some (.tuple #[ptr g, .nilIface], σ') ∧ σ'.get g = some (.own [.bool true, .bool false, .bool false, .bool false, .slice none 0 0] 111) ∧ Same σ σ' [] ∧ σ.next ≤ g ∧ g < σ'.next := by
  obtain ⟨m, rfl⟩ : ∃ m, L = m + 2 := ⟨L - 2, by omega⟩
  rw [f12_eq]
  have s1 : Same σ (σ.new (.own [.bool false, .bool false, .bool false, .bool false, .slice none 0 0] 111)) [] := Same.new _ _ _
  have g1 : (σ.new (.own [.bool false, .bool false, .bool false, .bool false, .slice none 0 0] 111)).get σ.next = some (.own [.bool false, .bool false, .bool false, .bool false, .slice none 0 0] 111) := get_new_same _ _
  have n1 : (σ.new (.own [.bool false, .bool false, .bool false, .bool false, .slice none 0 0] 111)).next = σ.next + 1 := rfl
  generalize σ.new (.own [.bool false, .bool false, .bool false, .bool false, .slice none 0 0] 111) = σ1 at s1 g1 n1
  have hp1 : σ1.get p = _ := (s1.2 p hlt (by simp)).trans hp
  have i1 : inRange 0 ((1 : Nat) : Int) = true := rfl
  have i4 : inRange 0 4 = true := rfl
  rw [f12_l3, decide_eq_true (by decide), br_true, need_of i1, adr_some, ld_at hp1 (0 + Int.toNat 0 * 1) (.int .i64 0) rfl, asI_i, f43_eq, decide_eq_true (by decide), br_true, bnd_some, asB_b, show (!decide ((0 : Int) < 4)) = false from rfl, br_false, need_of i4, ld_at g1 (0 + 0 + Int.toNat 0 * 1) (.bool false) rfl, asB_b, br_false, need_of i4,
    put_bool g1 (0 + 0 + Int.toNat 0 * 1) true (by simp), f12_l3, show IntKind.wrap .i64 ((0 : Int) + 1) = 1 from rfl, decide_eq_false (by decide), br_false]
  have s2 := Same.set σ1 σ.next (.own (List.set [Value.bool false, .bool false, .bool false, .bool false, .slice none 0 0] (0 + 0 + Int.toNat 0 * 1) (.bool true)) 111)
  refine ⟨σ.next, _, rfl, get_set_same _ _ _, s1.fresh s2 (fun x hx => .inr (by simp at hx; subst hx; exact Nat.le_refl _)), Nat.le_refl _, ?_⟩
  simp only [next_set]; omega
theorem at_spec (L k : Nat) (hL : 10 < L) {σ : St} {g : Nat} (hg : σ.get g = some (.own [.bool true, .bool false, .bool false, .bool false, .slice none 0 0] 111)) (hlt : g < σ.next) (mark : Int) :
    ∃ ad z q σ', evCall Tryz.prog env L (k + 2) 61 [ptr g, .int .i64 mark] σ = some (.slice ad 1 z, σ') ∧ Row c1 1 3 σ' ad z q [0] ∧ (∀ x ∈ q, σ.next ≤ x) ∧ Same σ σ' [] := by
  obtain ⟨m, rfl⟩ : ∃ m, L = m + 6 := ⟨L - 6, by omega⟩
  rw [f61_eq, f61_l4, ld_at hg (0 + 4) _ rfl, asSl_s, decide_eq_false (by decide), br_false, f102_eq]
  have s1 : Same σ (σ.new (.own [.bool false, .bool false, .bool false, .bool false] 108)) [] := Same.new _ _ _
  have g1 : (σ.new (.own [.bool false, .bool false, .bool false, .bool false] 108)).get σ.next = some (.own [.bool false, .bool false, .bool false, .bool false] 108) := get_new_same _ _
  have n1 : (σ.new (.own [.bool false, .bool false, .bool false, .bool false] 108)).next = σ.next + 1 := rfl
  generalize σ.new (.own [.bool false, .bool false, .bool false, .bool false] 108) = σ1 at s1 g1 n1
  have hg1 : σ1.get g = _ := (s1.2 g hlt (by simp)).trans hg
  rw [lds_own (n := 4) _ hg1 (by simp)]
  show ∃ ad z q σ', bnd (uncons [Value.bool true, .bool false, .bool false, .bool false] _) _ = _ ∧ _
  rw [uncons_c, asB_b, uncons_c, asB_b, uncons_c, asB_b, uncons_c, asB_b, endl_n, tmp_put2 σ1 [.bool false, .bool false, .bool false, .bool false] [.bool true, .bool false, .bool false, .bool false] 108 rfl rfl]
  have s2 : Same σ1 (σ1.new (.own [.bool true, .bool false, .bool false, .bool false] 108)) [] := Same.new _ _ _
  have g2 : (σ1.new (.own [.bool true, .bool false, .bool false, .bool false] 108)).get σ1.next = some (.own [.bool true, .bool false, .bool false, .bool false] 108) := get_new_same _ _
  have n2 : (σ1.new (.own [.bool true, .bool false, .bool false, .bool false] 108)).next = σ1.next + 1 := rfl
  generalize σ1.new (.own [.bool true, .bool false, .bool false, .bool false] 108) = σ2 at s2 g2 n2
  have hg2 : σ2.get g = _ := (s2.2 g (by omega) (by simp)).trans hg1
  have hz : (Nat.beq 0 0 || Nat.beq 0 3) = true := rfl
  have hi : inRange 0 (((0 : Nat) : Int) + 1) = true := rfl
  have hh1 : σ2.get σ.next = _ := (s2.2 σ.next (by omega) (by simp)).trans g1
  rw [ld_at hg2 4 _ rfl, asSl_s, need_of hz, need_of hi, f102_l3, decide_eq_false (by decide), br_false, lds_all (n := 4) g2 rfl, uncons_c, asB_b, uncons_c, asB_b, uncons_c, asB_b, uncons_c, asB_b, endl_n, put_all (ws := [.bool true, .bool false, .bool false, .bool false]) hh1 rfl rfl]
  have s3 := Same.set σ2 σ.next (.own [.bool true, .bool false, .bool false, .bool false] 108)
  have g3 : (σ2.set σ.next (.own [.bool true, .bool false, .bool false, .bool false] 108)).get σ.next = some (.own [.bool true, .bool false, .bool false, .bool false] 108) := get_set_same _ _ _
  have s03 : Same σ (σ2.set σ.next (.own [.bool true, .bool false, .bool false, .bool false] 108)) [] := (s1.trans s2).fresh s3 (fun x hx => .inr (by simp at hx; subst hx; exact Nat.le_refl _))
  generalize σ2.set σ.next (.own [.bool true, .bool false, .bool false, .bool false] 108) = σ3 at s3 g3 s03
  rw [lds_all (n := 4) g3 rfl, uncons_c, asB_b, uncons_c, asB_b, uncons_c, asB_b, uncons_c, asB_b, endl_n, bnd_some]
  show ∃ ad z q σ', (asAgL (.agg [Value.bool true, .bool false, .bool false, .bool false].toArray) _) = _ ∧ _
  rw [asAgL_a]
  show ∃ ad z q σ', (uncons [Value.bool true, .bool false, .bool false, .bool false] _) = _ ∧ _
  rw [uncons_c, asB_b, uncons_c, asB_b, uncons_c, asB_b, uncons_c, asB_b, endl_n]
  have e103 := f103_eq (m + 6) k σ3 true false false false
  have s4 : Same σ3 (σ3.new (.own [.bool true, .bool false, .bool false, .bool false] 108)) [] := Same.new _ _ _
  have g4 : (σ3.new (.own [.bool true, .bool false, .bool false, .bool false] 108)).get σ3.next = some (.own [.bool true, .bool false, .bool false, .bool false] 108) := get_new_same _ _
  have n4 : (σ3.new (.own [.bool true, .bool false, .bool false, .bool false] 108)).next = σ3.next + 1 := rfl
  generalize σ3.new (.own [.bool true, .bool false, .bool false, .bool false] 108) = σ4 at s4 g4 n4 e103
  have i4 : ∀ x : Int, 0 ≤ x → x < 4 → inRange x 4 = true := fun x h1 h2 => by simp [inRange]; omega
  rw [lds_all (n := 4) g4 rfl, uncons_c, asB_b, uncons_c, asB_b, uncons_c, asB_b, uncons_c, asB_b, endl_n] at e103
  have l0 := f103_l3 (m + 6) k (m + 5) σ4 none 0 0 true false false false 0
  rw [decide_eq_true (by decide), br_true, need_of (i4 0 (by decide) (by decide)), show ∀ K : Value → Res, nth [Value.bool true, .bool false, .bool false, .bool false] (Int.toNat 0 * 1) K = K (.bool true) from fun _ => rfl, asB_b, br_true] at l0
  have s5 : Same σ4 (σ4.new (.own [.int .i64 0] 3)) [] := Same.new _ _ _
  have g5 : (σ4.new (.own [.int .i64 0] 3)).get σ4.next = some (.own [.int .i64 0] 3) := get_new_same _ _
  have n5 : (σ4.new (.own [.int .i64 0] 3)).next = σ4.next + 1 := rfl
  generalize σ4.new (.own [.int .i64 0] 3) = σ5 at s5 g5 n5 l0
  obtain ⟨ad, z, q, σ6, hgrow, hR, s6, hq⟩ := grow_row (by_ := 8) (Row.nil c1 1 3 σ5) (fun _ => rfl) (fun _ => rfl) (by omega) [(0 : Int)] [.int .i64 0] rfl 1 rfl (by simp; unfold roomTop; omega) (by simp; unfold sizeTop; omega)
  have hgrow' : ∀ K : Option Addr → Nat → Nat → St → Res, grow 3 1 8 none 0 0 1 [.int .i64 0] σ5 K = K ad 1 z σ6 := fun K => by have := hgrow K; simpa using this
  rw [row_one g5, hgrow', show IntKind.wrap .i64 ((0 : Int) + 1) = 1 from rfl] at l0
  have l1 := f103_l3 (m + 6) k (m + 4) σ6 ad 1 z true false false false 1
  rw [decide_eq_true (by decide), br_true, need_of (i4 1 (by decide) (by decide)), show ∀ K : Value → Res, nth [Value.bool true, .bool false, .bool false, .bool false] (Int.toNat 1 * 1) K = K (.bool false) from fun _ => rfl, asB_b, br_false, show IntKind.wrap .i64 ((1 : Int) + 1) = 2 from rfl] at l1
  have l2 := f103_l3 (m + 6) k (m + 3) σ6 ad 1 z true false false false 2
  rw [decide_eq_true (by decide), br_true, need_of (i4 2 (by decide) (by decide)), show ∀ K : Value → Res, nth [Value.bool true, .bool false, .bool false, .bool false] (Int.toNat 2 * 1) K = K (.bool false) from fun _ => rfl, asB_b, br_false, show IntKind.wrap .i64 ((2 : Int) + 1) = 3 from rfl] at l2
  have l3 := f103_l3 (m + 6) k (m + 2) σ6 ad 1 z true false false false 3
  rw [decide_eq_true (by decide), br_true, need_of (i4 3 (by decide) (by decide)), show ∀ K : Value → Res, nth [Value.bool true, .bool false, .bool false, .bool false] (Int.toNat 3 * 1) K = K (.bool false) from fun _ => rfl, asB_b, br_false, show IntKind.wrap .i64 ((3 : Int) + 1) = 4 from rfl] at l3
  have l4 := f103_l3 (m + 6) k (m + 1) σ6 ad 1 z true false false false 4
  rw [decide_eq_false (by decide), br_false] at l4
  have e : evCall Tryz.prog env (m + 6) (k + 1) 103 [.agg [.bool true, .bool false, .bool false, .bool false].toArray] σ3 = some (.slice ad 1 z, σ6) := e103.trans (l0.trans (l1.trans (l2.trans (l3.trans l4))))
  have e' : evCall Tryz.prog env (m + 6) (k + 1) 103 [.agg #[.bool true, .bool false, .bool false, .bool false]] σ3 = some (.slice ad 1 z, σ6) := e
  rw [e', bnd_some, asSl_s]
  have s36 : Same σ3 σ6 [] := (s4.trans s5).trans s6
  refine ⟨ad, z, q, σ6, rfl, by simpa using hR, fun x hx => ?_, s03.trans s36⟩
  rcases hq x hx with h | h
  · cases h
  · have := s03.1; have := s4.1; have := s5.1; omega
theorem stage_step (L k n : Nat) {σ0 σ : St} {m d nd i j : Nat} {s : IS} {R : List (List Nat)} {vs : List Value} (hI : ImS σ0 σ m d s R) (hw : s.work = none) (hj : R[j]? = some [nd]) (hn : σ.get nd = some (.own vs 121)) (hl : vs.length = 8) (hi : i < 4) :
    ∃ a σ', lpAt Tryz.prog env L (k + 1) 13 [true, true, true, true, false, true] [] (n + 1) [(8, ptr nd), (24, .int .i64 i)] σ = lpAt Tryz.prog env L (k + 1) 13 [true, true, true, true, false, true] [] n [(8, ptr nd), (24, .int .i64 ((i + 1 : Nat) : Int))] σ' ∧
      ImS σ0 σ' m d s ([a] :: R) ∧ σ'.get nd = some (.own (vs.set (2 + i) (ptr a)) 121) ∧ S.Stg σ' a [a] 1 [] 0 0 ∧ Same σ σ' [nd] ∧ σ.next ≤ a := by
  obtain ⟨σ1, g1, hS, s1⟩ := S.new_spec L k σ
  have hlt := hI.lt (List.mem_of_getElem? hj) nd (by simp)
  have hal := hS.lt σ.next (by simp)
  have hI1 := hI.push (X := [σ.next]) hw s1 (by simpa using hal)
  have hn1 : σ1.get nd = _ := (s1.2 nd hlt (by simp)).trans hn
  have hwr : IntKind.wrap .i64 ((i : Int) + 1) = ((i + 1 : Nat) : Int) := by rw [wrap_in _ (by omega) (by omega)]; omega
  rw [f13_l6, decide_eq_true (by omega), br_true, g1, bnd_some, asP_p, need_of (by simp [inRange]; omega), put_at hn1 (0 + 2 + Int.toNat (i : Int) * 1) (.pointer (some ⟨σ.next, 0, none⟩)) (by rw [hl]; simp; omega) rfl, hwr, show 0 + 2 + Int.toNat (i : Int) * 1 = 2 + i by simp]
  have s2 := Same.set σ1 nd (.own (vs.set (2 + i) (.pointer (some ⟨σ.next, 0, none⟩))) 121)
  have hT : Turn σ1 (σ1.set nd (.own (vs.set (2 + i) (.pointer (some ⟨σ.next, 0, none⟩))) 121)) [nd] [nd] := ⟨s2, fun q hq => ⟨.inl hq, by simp at hq ⊢; subst hq; have := s1.1; omega⟩⟩
  have hI2 := hI1.turned (j + 1) (by simpa using hj) hT
  have hset : ([σ.next] :: R).set (j + 1) [nd] = [σ.next] :: R := by
    rw [List.set_cons_succ]
    refine congrArg (List.cons [σ.next]) ?_
    apply List.ext_getElem?
    intro x
    rw [List.getElem?_set]
    split
    · rename_i h; subst h
      split
      · exact hj.symm
      · rename_i h; exact absurd (List.getElem?_eq_some_iff.1 hj).1 h
    · rfl
  rw [hset] at hI2
  exact ⟨σ.next, _, rfl, hI2, get_set_same _ _ _, hS.same s2 (by simp; omega), (s1.mono (by simp)).trans s2, Nat.le_refl _⟩
end Go.AM.Bk

namespace Go.AM.Bk
open Go.Proofs
def ndc (d m a0 a1 a2 a3 g : Nat) (mark : Int) : List Value := [ptr d, ptr m, ptr a0, ptr a1, ptr a2, ptr a3, ptr g, .int .i64 mark]
theorem bnew_img (L k : Nat) (hL : 100000 < L) {σ0 σ σ1 : St} {d g m : Nat} {s : IS} {R : List (List Nat)} (hw : s.work = none) (g1 : evCall Tryz.prog env L (k + 10) 45 [ptr d] σ = some (.tuple #[ptr m, .nilIface], σ1)) (hI1 : ImS σ0 σ1 m d s R) (k1 : ∀ H ∈ R, ∀ q ∈ H, σ1.get q = σ.get q) :
    ∃ nd a0 a1 a2 a3 σ', evCall Tryz.prog env L (k + 11) 13 [ptr d, ptr g] σ = some (.tuple #[ptr nd, .nilIface], σ') ∧ ImS σ0 σ' m d s ([a3] :: [a2] :: [a1] :: [a0] :: [nd] :: R) ∧ σ'.get nd = some (.own (ndc d m a0 a1 a2 a3 g 0) 121) ∧
      S.Stg σ' a0 [a0] 1 [] 0 0 ∧ S.Stg σ' a1 [a1] 1 [] 0 0 ∧ S.Stg σ' a2 [a2] 1 [] 0 0 ∧ S.Stg σ' a3 [a3] 1 [] 0 0 ∧ (∀ H ∈ R, ∀ q ∈ H, σ'.get q = σ.get q) := by
  obtain ⟨L', rfl⟩ : ∃ L', L = L' + 5 := ⟨L - 5, by omega⟩
  rw [f13_eq, g1, bnd_some, asT_t, toList2, uncons_c, asP_p, uncons_c, endl_n, eqNil_nil, not_true, br_false, need_true, need_true]
  have s2 : Same σ1 (σ1.new (.own [ptr d, ptr m, .pointer none, .pointer none, .pointer none, .pointer none, ptr g, .int .i64 0] 121)) [] := Same.new _ _ _
  have g2 : (σ1.new (.own [ptr d, ptr m, .pointer none, .pointer none, .pointer none, .pointer none, ptr g, .int .i64 0] 121)).get σ1.next = some (.own [ptr d, ptr m, .pointer none, .pointer none, .pointer none, .pointer none, ptr g, .int .i64 0] 121) := get_new_same _ _
  have n2 : (σ1.new (.own [ptr d, ptr m, .pointer none, .pointer none, .pointer none, .pointer none, ptr g, .int .i64 0] 121)).next = σ1.next + 1 := rfl
  have hI2 := hI1.push (X := [σ1.next]) hw s2 (by simp [n2])
  have e0 : ∀ K : Res → Res, K (lpAt Tryz.prog env (L' + 5) (k + 10) 13 [true, true, true, true, false, true] [] (L' + 5) [(8, .pointer (some ⟨σ1.next, 0, none⟩)), (24, .int .i64 0)] (σ1.new (.own [ptr d, ptr m, .pointer none, .pointer none, .pointer none, .pointer none, ptr g, .int .i64 0] 121))) = K (lpAt Tryz.prog env (L' + 5) (k + 10) 13 [true, true, true, true, false, true] [] (L' + 5) [(8, ptr σ1.next), (24, .int .i64 ((0 : Nat) : Int))] (σ1.new (.own [ptr d, ptr m, .pointer none, .pointer none, .pointer none, .pointer none, ptr g, .int .i64 0] 121))) := fun _ => rfl
  show ∃ nd a0 a1 a2 a3 σ', lpAt Tryz.prog env (L' + 5) (k + 10) 13 [true, true, true, true, false, true] [] (L' + 5) [(8, ptr σ1.next), (24, .int .i64 ((0 : Nat) : Int))] (σ1.new (.own [ptr d, ptr m, .pointer none, .pointer none, .pointer none, .pointer none, ptr g, .int .i64 0] 121)) = _ ∧ _
  clear e0
  generalize σ1.new (.own [ptr d, ptr m, .pointer none, .pointer none, .pointer none, .pointer none, ptr g, .int .i64 0] 121) = σ2 at s2 g2 n2 hI2
  obtain ⟨a0, σ3, e3, hI3, g3, hS0, t3, l3⟩ := stage_step (L' + 5) (k + 9) (L' + 4) (j := 0) (i := 0) hI2 hw rfl g2 rfl (by omega)
  obtain ⟨a1, σ4, e4, hI4, g4, hS1, t4, l4⟩ := stage_step (L' + 5) (k + 9) (L' + 3) (j := 1) (i := 1) hI3 hw rfl g3 rfl (by omega)
  obtain ⟨a2, σ5, e5, hI5, g5, hS2, t5, l5⟩ := stage_step (L' + 5) (k + 9) (L' + 2) (j := 2) (i := 2) hI4 hw rfl g4 rfl (by omega)
  obtain ⟨a3, σ6, e6, hI6, g6, hS3, t6, l6⟩ := stage_step (L' + 5) (k + 9) (L' + 1) (j := 3) (i := 3) hI5 hw rfl g5 rfl (by omega)
  have h3 := t3.1; have h4 := t4.1; have h5 := t5.1
  have e7 : lpAt Tryz.prog env (L' + 5) (k + 10) 13 [true, true, true, true, false, true] [] (L' + 1) [(8, ptr σ1.next), (24, .int .i64 ((3 + 1 : Nat) : Int))] σ6 = some (.tuple #[ptr σ1.next, .nilIface], σ6) := by
    rw [f13_l6, decide_eq_false (by decide), br_false]
  refine ⟨σ1.next, a0, a1, a2, a3, σ6, e3.trans (e4.trans (e5.trans (e6.trans e7))), hI6, g6, ((hS0.same t4 (by simp; omega)).same t5 (by simp; omega)).same t6 (by simp; omega), (hS1.same t5 (by simp; omega)).same t6 (by simp; omega), hS2.same t6 (by simp; omega), hS3, fun H hH q hq => ?_⟩
  have hq1 := hI1.lt hH q hq
  have ht : Same σ2 σ6 [σ1.next] := ((t3.trans t4).trans t5).trans t6
  rw [ht.2 q (by omega) (by simp; omega), s2.2 q hq1 (by simp)]
  exact k1 H hH q hq
theorem bnew_spec (L k : Nat) (hL : 100000 < L) {σ0 σ : St} {d g : Nat} {F : List Nat} {R : List (List Nat)} (hD : D.Disk σ d F fresh66 []) (hO : Owns σ0 σ (F :: R)) :
    ∃ nd m a0 a1 a2 a3 σ', evCall Tryz.prog env L (k + 11) 13 [ptr d, ptr g] σ = some (.tuple #[ptr nd, .nilIface], σ') ∧ ImS σ0 σ' m d ⟨fresh66, [], 0, 0, noBlocks, none⟩ ([a3] :: [a2] :: [a1] :: [a0] :: [nd] :: R) ∧ σ'.get nd = some (.own (ndc d m a0 a1 a2 a3 g 0) 121) ∧
      S.Stg σ' a0 [a0] 1 [] 0 0 ∧ S.Stg σ' a1 [a1] 1 [] 0 0 ∧ S.Stg σ' a2 [a2] 1 [] 0 0 ∧ S.Stg σ' a3 [a3] 1 [] 0 0 ∧ (∀ H ∈ R, ∀ q ∈ H, σ'.get q = σ.get q) := by
  obtain ⟨m, σ1, g1, hI1, k1, hinv⟩ := openGood hD hO (by unfold fresh66; simp) L k hL good66 (by omega)
  obtain ⟨nd, a0, a1, a2, a3, σ', h⟩ := bnew_img L k hL (g := g) rfl g1 hI1 k1
  exact ⟨nd, m, a0, a1, a2, a3, σ', h⟩
theorem btake_spec (L k : Nat) {σ : St} {d m a0 a1 a2 a3 g nd : Nat} (hn : σ.get nd = some (.own (ndc d m a0 a1 a2 a3 g 0) 121)) (hlt : nd < σ.next) (hS : S.Stg σ a0 [a0] 1 [] 0 0) (hne : nd ≠ a0) :
    ∃ F' σ', evCall Tryz.prog env L (k + 4) 21 [ptr nd, .int .i64 0, .agg #[.int .i64 1, .int .i64 2, .int .i64 0, .string ⟨#[]⟩, .int .i64 4]] σ = some (.tuple #[.int .i64 1, .nilIface], σ') ∧ S.Stg σ' a0 F' 1 [⟨1, 2, 0, ⟨#[]⟩, 4⟩] 1 0 ∧ Turn σ σ' [a0] F' := by
  have e := f21_eq L (k + 3) σ nd 0 1 2 0 ⟨#[]⟩ 4
  have s1 : Same σ (σ.new (.own [.int .i64 1, .int .i64 2, .int .i64 0, .string ⟨#[]⟩, .int .i64 4] 58)) [] := Same.new _ _ _
  have g1 : (σ.new (.own [.int .i64 1, .int .i64 2, .int .i64 0, .string ⟨#[]⟩, .int .i64 4] 58)).get σ.next = some (.own [.int .i64 1, .int .i64 2, .int .i64 0, .string ⟨#[]⟩, .int .i64 4] 58) := get_new_same _ _
  generalize σ.new (.own [.int .i64 1, .int .i64 2, .int .i64 0, .string ⟨#[]⟩, .int .i64 4] 58) = σ1 at s1 g1 e
  have hn1 : σ1.get nd = _ := (s1.2 nd hlt (by simp)).trans hn
  have i0 : inRange 0 4 = true := rfl
  obtain ⟨v, σ2, g2, F', rfl, hS2, hT2⟩ := S.take_mark (hS.idle s1) L k (by omega) (by omega) (by simp) (Nat.le_refl _) 4 (by omega) (by omega)
  have g2' : evCall Tryz.prog env L (k + 3) 59 [.pointer (some ⟨a0, 0, none⟩), .agg #[.int .i64 1, .int .i64 2, .int .i64 0, .string ⟨#[]⟩, .int .i64 4]] σ1 = some (.int .i64 1, σ2) := g2
  have hn2 : σ2.get nd = _ := (hT2.same.2 nd (by have := s1.1; omega) (by simpa using hne)).trans hn1
  obtain ⟨σ3, g3, hS3, hT3⟩ := S.sflush_spec hS2 L (k + 2)
  rw [decide_eq_false (by decide), br_false, decide_eq_false (by decide), br_false, need_of i0, ld_at hn1 (2 + Int.toNat 0 * 1) (ptr a0) rfl, asP_p, lds_all (n := 5) g1 rfl, uncons_c, asI_i, uncons_c, asI_i, uncons_c, asI_i, uncons_c, asS_s, uncons_c, asI_i, endl_n, g2', bnd_some, asI_i, need_of i0, ld_at hn2 (2 + Int.toNat 0 * 1) (ptr a0) rfl, asP_p, g3, bnd_some, asT_t, toList0, endl_n] at e
  exact ⟨F', σ3, e, hS3, (Turn.before s1 hT2 (fun q hq => hS.lt q hq)).trans hT3⟩
theorem can_spec (L k : Nat) (hL : 100000 < L) {σ : St} {d m a0 a1 a2 a3 g nd : Nat} {F0 : List Nat} {t : Int} {bl : List ByteArray} {w : Option Addr} (hn : σ.get nd = some (.own (ndc d m a0 a1 a2 a3 g 0) 121)) (hlt : nd < σ.next) (hg : σ.get g = some (.own [.bool true, .bool false, .bool false, .bool false, .slice none 0 0] 111)) (hgl : g < σ.next)
    (hS : S.Stg σ a0 F0 1 [⟨1, 2, 0, ⟨#[]⟩, 4⟩] 1 0) (hI : Img σ m d t 0 bl w) : ∃ σ', evCall Tryz.prog env L (k + 4) 58 [ptr nd, .int .i64 4] σ = some (.bool true, σ') ∧ Same σ σ' [] := by
  obtain ⟨L', rfl⟩ : ∃ L', L = L' + 2 := ⟨L - 2, by omega⟩
  obtain ⟨ad, z, q, σ1, g1, hR, hq, s1⟩ := at_spec (L' + 2) (k + 1) (by omega) hg hgl 4
  have hn1 : σ1.get nd = _ := (s1.2 nd hlt (by simp)).trans hn
  obtain ⟨p, e, hat⟩ := hR.at (fun _ => rfl) (i := 0) (a := (0 : Int)) rfl
  subst e
  have i1 : inRange 0 ((1 : Nat) : Int) = true := rfl
  have i4 : inRange 0 4 = true := rfl
  rw [f58_eq, ld_at hn 6 (ptr g) rfl, asP_p, g1, bnd_some, asSl_s, f58_l3, decide_eq_true (by decide), br_true, need_of i1, adr_some, hat 0 (.int .i64 0) (0 + Int.toNat 0 * 1) (by omega) rfl rfl, asI_i, need_of i4, ld_at hn1 (0 + 2 + Int.toNat 0 * 1) (ptr a0) rfl, asP_p]
  rcases S.upto_spec (hS.idle s1) (L' + 2) k (by omega) (by simp) (by simp) 4 with ⟨j, r, ad2, z2, q2, σ2, g2, _, s2, _⟩ | ⟨σ2, _, _, hno⟩
  rotate_left
  · exact absurd ⟨rfl, rfl⟩ (hno ⟨1, 2, 0, ⟨#[]⟩, 4⟩ (by simp))
  have s12 := s1.trans s2
  have hn2 : σ2.get nd = _ := (s2.2 nd (by have := s1.1; omega) (by simp)).trans hn1
  have hm := mark_spec (hI.same s12 (by simp)) (L' + 2) (k + 2)
  rw [g2, bnd_some, asT_t, toList2, uncons_c, asSl_s, uncons_c, asB_b, endl_n, not_true, br_false, show IntKind.wrap .i64 ((0 : Int) + 1) = 1 from rfl, f58_l3, decide_eq_false (by decide), br_false, ld_at hn2 (0 + 1) (ptr m) rfl, asP_p, hm, bnd_some, asI_i, decide_eq_true (by decide), br_true]
  exact ⟨σ2, rfl, s12⟩
theorem ready_none (L k n : Nat) (hL : 10 < L) {σ : St} {nd a : Nat} {s3 : Int} {p0 p1 p2 p3 : Option Addr} {i : Int} {F : List Nat} (hi : 0 ≤ i ∧ i < 4) (hnth : ∀ K : Value → Res, nth [Value.pointer p0, Value.pointer p1, Value.pointer p2, Value.pointer p3] (Int.toNat i * 1) K = K (ptr a)) (hS : S.Stg σ a F 1 [] 0 0) :
    ∃ σ', lpAt Tryz.prog env L (k + 2) 19 [true, true, true, false, true] [] (n + 1) [(0, ptr nd), (3, .int .i64 s3), (13, .agg [.pointer p0, .pointer p1, .pointer p2, .pointer p3].toArray), (14, .int .i64 i)] σ =
      lpAt Tryz.prog env L (k + 2) 19 [true, true, true, false, true] [] n [(0, ptr nd), (3, .int .i64 s3), (13, .agg [.pointer p0, .pointer p1, .pointer p2, .pointer p3].toArray), (14, .int .i64 (i + 1))] σ' ∧ Same σ σ' [] := by
  obtain ⟨L', rfl⟩ : ∃ L', L = L' + 1 := ⟨L - 1, by omega⟩
  obtain ⟨v, σ1, g1, ad, z, q, rfl, hR, s1, _⟩ := S.marks_spec hS (L' + 1) k (by simp) (by simp) (Nat.le_refl _)
  have hw : IntKind.wrap .i64 (i + 1) = i + 1 := wrap_in _ (by omega) (by omega)
  rw [f19_l5, decide_eq_true hi.2, br_true, need_of (by simp [inRange]; omega), hnth, asP_p, g1, bnd_some, asSl_s, f19_l8, decide_eq_false (by decide), br_false, hw]
  exact ⟨σ1, rfl, s1⟩
theorem awake_spec (L k : Nat) (hL : 100000 < L) (σ : St) : ∃ σ', evCall Tryz.prog env L (k + 12) 7 [] σ = some (.bool true, σ') ∧ Same σ σ' [] := by
  obtain ⟨L', rfl⟩ : ∃ L', L = L' + 6 := ⟨L - 6, by omega⟩
  have s1 : Same σ (σ.new (.own [.int .i64 0] 3)) [] := Same.new _ _ _
  have g1 : (σ.new (.own [.int .i64 0] 3)).get σ.next = some (.own [.int .i64 0] 3) := get_new_same _ _
  have n1 : (σ.new (.own [.int .i64 0] 3)).next = σ.next + 1 := rfl
  rw [f7_eq]
  generalize σ.new (.own [.int .i64 0] 3) = σ1 at s1 g1 n1
  obtain ⟨g, σ2, e2, hg2, s2, hgl, hgl2⟩ := zero_spec (L' + 6) (k + 9) (by omega) g1 (by omega)
  have hO2 : Owns σ σ2 [[g]] := ((Owns.start σ).idle s1).more s2 (by simp; omega)
  obtain ⟨d, F, σ3, e3, hD3, hO3, s3⟩ := new66 (L' + 6) (k + 10) hO2
  obtain ⟨nd, m, a0, a1, a2, a3, σ4, e4, hI4, hn4, hS0, hS1, hS2, hS3, k4⟩ := bnew_spec (L' + 6) k hL (g := g) hD3 hO3
  have hg4 : σ4.get g = _ := (k4 [g] (by simp) g (by simp)).trans ((s3.2 g hgl2 (by simp)).trans hg2)
  obtain ⟨FF, GG, ww, _, hImg, hO4, _, _⟩ := hI4.ex
  have hdis : ∀ i j : Nat, ∀ x y : Nat, i ≠ j → ([[a3], [a2], [a1], [a0], [nd], [g]] : List (List Nat))[i]? = some [x] → ([[a3], [a2], [a1], [a0], [nd], [g]] : List (List Nat))[j]? = some [y] → x ≠ y := fun i j x y hij hi hj h => by
    have := hO4.off (i + 2) (j + 2) (by omega) (by simpa using hi) (by simpa using hj) x (by simp)
    simp at this
    exact this h
  obtain ⟨F5, σ5, e5, hS5, hT5⟩ := btake_spec (L' + 6) (k + 7) hn4 (hI4.lt (H := [nd]) (by simp) nd (by simp)) hS0 (hdis 4 3 nd a0 (by omega) rfl rfl)
  have hI5 := hI4.turned 3 rfl hT5
  have hx5 : ∀ x, x < σ4.next → x ≠ a0 → σ5.get x = σ4.get x := fun x hx hne => hT5.same.2 x hx (by simpa using hne)
  have hndl := hI4.lt (H := [nd]) (by simp) nd (by simp)
  have hgl4 := hI4.lt (H := [g]) (by simp) g (by simp)
  have hn5 : σ5.get nd = _ := (hx5 nd hndl (hdis 4 3 nd a0 (by omega) rfl rfl)).trans hn4
  have hg5 : σ5.get g = _ := (hx5 g hgl4 (hdis 5 3 g a0 (by omega) rfl rfl)).trans hg4
  have n5 := hT5.same.1
  have hS15 := hS1.same hT5.same (by simp; exact hdis 2 3 a1 a0 (by omega) rfl rfl)
  have hS25 := hS2.same hT5.same (by simp; exact hdis 1 3 a2 a0 (by omega) rfl rfl)
  have hS35 := hS3.same hT5.same (by simp; exact hdis 0 3 a3 a0 (by omega) rfl rfl)
  obtain ⟨FF5, GG5, ww5, _, hImg5, _⟩ := hI5.ex
  -- Ready
  obtain ⟨v6, σ6, e6, ad6, z6, q6, rfl, hR6, s6, _⟩ := S.marks_spec hS5 (L' + 6) (k + 8) (by simp) (by simp) (Nat.le_refl _)
  obtain ⟨σ7, e7, s7⟩ := can_spec (L' + 6) (k + 6) hL ((s6.2 nd (by omega) (by simp)).trans hn5) (by have := s6.1; omega) ((s6.2 g (by omega) (by simp)).trans hg5) (by have := s6.1; omega) (hS5.idle s6) (hImg5.same s6 (by simp))
  have s57 := s6.trans s7
  obtain ⟨σ8, e8, s8⟩ := ready_none (L' + 6) (k + 8) (L' + 4) (by omega) (nd := nd) (s3 := 4) (p0 := some ⟨a0, 0, none⟩) (p1 := some ⟨a1, 0, none⟩) (p2 := some ⟨a2, 0, none⟩) (p3 := some ⟨a3, 0, none⟩) (i := 1) (by omega) (fun _ => rfl) (hS15.idle s57)
  obtain ⟨σ9, e9, s9⟩ := ready_none (L' + 6) (k + 8) (L' + 3) (by omega) (nd := nd) (s3 := 4) (p0 := some ⟨a0, 0, none⟩) (p1 := some ⟨a1, 0, none⟩) (p2 := some ⟨a2, 0, none⟩) (p3 := some ⟨a3, 0, none⟩) (i := 1 + 1) (by omega) (fun _ => rfl) ((hS25.idle s57).idle s8)
  obtain ⟨σ10, e10, s10⟩ := ready_none (L' + 6) (k + 8) (L' + 2) (by omega) (nd := nd) (s3 := 4) (p0 := some ⟨a0, 0, none⟩) (p1 := some ⟨a1, 0, none⟩) (p2 := some ⟨a2, 0, none⟩) (p3 := some ⟨a3, 0, none⟩) (i := 1 + 1 + 1) (by omega) (fun _ => rfl) (((hS35.idle s57).idle s8).idle s9)
  obtain ⟨p, ep, hat⟩ := hR6.at (fun _ => rfl) (i := 0) (a := (4 : Int)) rfl
  have hRdy : evCall Tryz.prog env (L' + 6) (k + 11) 19 [ptr nd] σ5 = some (.int .i64 4, σ10) := by
    have i1 : inRange 0 ((1 : Nat) : Int) = true := rfl
    have i4 : inRange 0 4 = true := rfl
    have hat7 : ∀ K : Value → Res, σ6.ld p (0 + Int.toNat 0 * 1) K = K (.int .i64 4) := fun K => hat 0 (.int .i64 4) _ (by omega) rfl rfl K
    have e6' : evCall Tryz.prog env (L' + 6) (k + 10) 57 [.pointer (some ⟨a0, 0, none⟩)] σ5 = some (.slice (some ⟨p, 0, none⟩) 1 z6, σ6) := by rw [← ep]; exact e6
    rw [f19_eq, lds_own (n := 4) _ hn5 (by simp [ndc])]
    show (uncons [ptr a0, ptr a1, ptr a2, ptr a3] _) = _
    rw [uncons_c, asP_p, uncons_c, asP_p, uncons_c, asP_p, uncons_c, asP_p, endl_n]
    have l0 := f19_l5 (L' + 6) (k + 10) (L' + 5) σ5 nd 0 0 (some ⟨a0, 0, none⟩) (some ⟨a1, 0, none⟩) (some ⟨a2, 0, none⟩) (some ⟨a3, 0, none⟩) 0
    rw [decide_eq_true (by decide), br_true, need_of i4, show ∀ K : Value → Res, nth [Value.pointer (some ⟨a0, 0, none⟩), Value.pointer (some ⟨a1, 0, none⟩), Value.pointer (some ⟨a2, 0, none⟩), Value.pointer (some ⟨a3, 0, none⟩)] (Int.toNat 0 * 1) K = K (ptr a0) from fun _ => rfl, asP_p, e6', bnd_some, asSl_s] at l0
    have l1 := f19_l8 (L' + 6) (k + 10) (L' + 5) (L' + 5) σ6 nd 0 0 (some ⟨a0, 0, none⟩) (some ⟨a1, 0, none⟩) (some ⟨a2, 0, none⟩) (some ⟨a3, 0, none⟩) 0 (some ⟨p, 0, none⟩) 1 z6 1 0
    rw [decide_eq_true (by decide), br_true, need_of i1, adr_some, hat7, asI_i, decide_eq_true (by decide), br_true, e7, bnd_some, asB_b, br_true, show IntKind.wrap .i64 ((0 : Int) + 1) = 1 from rfl] at l1
    have l2 := f19_l8 (L' + 6) (k + 10) (L' + 5) (L' + 4) σ7 nd 0 4 (some ⟨a0, 0, none⟩) (some ⟨a1, 0, none⟩) (some ⟨a2, 0, none⟩) (some ⟨a3, 0, none⟩) 0 (some ⟨p, 0, none⟩) 1 z6 1 1
    rw [decide_eq_false (by decide), br_false, show IntKind.wrap .i64 ((0 : Int) + 1) = 1 from rfl] at l2
    have l3 := f19_l5 (L' + 6) (k + 10) (L' + 1) σ10 nd 0 4 (some ⟨a0, 0, none⟩) (some ⟨a1, 0, none⟩) (some ⟨a2, 0, none⟩) (some ⟨a3, 0, none⟩) (1 + 1 + 1 + 1)
    rw [decide_eq_false (by decide), br_false] at l3
    exact l0.trans (l1.trans (l2.trans (e8.trans (e9.trans (e10.trans l3)))))
  have e5' : evCall Tryz.prog env (L' + 6) (k + 11) 21 [ptr nd, .int .i64 0, .agg #[.int .i64 1, .int .i64 2, .int .i64 0, .string ⟨#[]⟩, .int .i64 4]] σ4 = _ := e5
  rw [e2, bnd_some, asT_t, toList2, uncons_c, asP_p, uncons_c, endl_n, e3, bnd_some, asP_p, e4, bnd_some, asT_t, toList2, uncons_c, asP_p, uncons_c, endl_n, eqNil_nil, not_true, br_false, show Option.isNone (some (⟨nd, 0, none⟩ : Addr)) = false from rfl, br_false, e5', bnd_some, asT_t, toList2, uncons_c, asI_i, uncons_c, endl_n, show ((1 : Int) == 1) = true from rfl, br_true, eqNil_nil, br_true, hRdy, bnd_some, asI_i, show ((4 : Int) == 4) = true from rfl]
  refine ⟨σ10, rfl, ?_⟩
  obtain ⟨_, _, _, _, _, hO5, _⟩ := hI5.ex
  have hk5 := hO5.kept
  have s510 := ((s57.trans s8).trans s9).trans s10
  have n510 := s510.1
  exact ⟨by have := hk5.1; omega, fun x hx _ => by rw [s510.2 x (by have := hk5.1; omega) (by simp)]; exact hk5.2 x hx⟩
end Go.AM.Bk
