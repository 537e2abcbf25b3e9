/-
  FaultOther: the law.
-/
import Derived.Test.YtiiophkfecpbfaaDoorFwM
set_option linter.unusedVariables false
set_option linter.unusedSimpArgs false
set_option linter.unusedSectionVars false
namespace Go.AM.Fw
open Go.Proofs
theorem other_loop (L k : Nat) {σ0 : St} {ad : Option Addr} {l : List (ByteArray × Int)} (z : Nat) (hl : l.length ≤ 1000) (hH : Holds σ0 2 cP ad l) (s1 : ByteArray) (s5 : Value) {qo : Nat} {so : ByteArray} : ∀ (n i : Nat) (σ : St) (v : Value), i ≤ l.length → l.length - i < n → Kept' σ0.next σ0 σ → Co σ qo so v (l.take i).reverse →
    ∃ v' σ', lpAt Tryd.prog env L (k + 1) 7 [true, true, true, true, false, true] [] n [(0, .slice ad l.length z), (1, .string s1), (5, s5), (6, v), (28, .int .i64 l.length), (29, .int .i64 i)] σ =
      lpAt Tryd.prog env L (k + 1) 7 [true, true, true, true, false, true] [] 1 [(0, .slice ad l.length z), (1, .string s1), (5, s5), (6, v'), (28, .int .i64 l.length), (29, .int .i64 l.length)] σ' ∧ Same σ σ' [] ∧ Co σ' qo so v' l.reverse
  | 0, i, _, _, _, hn, _, _ => by omega
  | n + 1, i, σ, v, hi, hn, hk, hc => by
    by_cases hie : i = l.length
    · subst hie
      rw [List.take_length] at hc
      refine ⟨v, σ, ?_, Same.refl _ _, hc⟩
      rw [f7_l6, f7_l6, decide_eq_false (by omega), br_false, br_false]
    rw [f7_l6 L (k + 1) n σ]
    have hget : l[i]? = some l[i] := List.getElem?_eq_getElem (by omega)
    obtain ⟨q, e, hat⟩ := hH.ld hk hget
    have hw : IntKind.wrap .i64 ((i : Int) + 1) = ((i + 1 : Nat) : Int) := by rw [wrap_in _ (by omega) (by omega)]; omega
    obtain ⟨g1, h1, s1'⟩ := wrap_o L k hc l[i].1 l[i].2
    have ht : (l.take (i + 1)).reverse = (l[i].1, l[i].2) :: (l.take i).reverse := by
      rw [List.take_add_one, hget, List.reverse_append]; rfl
    obtain ⟨v', σ', e', s', h'⟩ := other_loop L k z hl hH s1 s5 n (i + 1) _ _ (by omega) (by omega) (hk.step s1' (by simp)) (by rw [ht]; exact h1)
    refine ⟨v', σ', ?_, s1'.trans s', h'⟩
    rw [decide_eq_true (by omega), br_true, need_of (by simp [inRange]; omega), e, adr_some, hat 0 (.string l[i].1) _ (by omega) rfl (by simp), asS_s, need_of (by simp [inRange]; omega), adr_some, hat 1 (.int .i64 l[i].2) _ (by omega) rfl (by simp), asI_i, g1, bnd_some, hw, ← e]
    exact e'

theorem cat_loop (L k : Nat) {σ : St} {ad : Option Addr} {z : Nat} {qb : List Nat} {A : List ByteArray} (h : Row cs 1 9 σ ad z qb A) (hl : A.length ≤ 1000) (hb : ∀ p ∈ A, p.size ≤ 1000) (s1 : ByteArray) (s5 s6 : Value) : ∀ (n i : Nat) (T : List UInt8), i ≤ A.length → A.length - i < n → T.length + 1100 * (A.length - i) ≤ 10000000 →
    lpAt Tryd.prog env L k 7 [true, true, true, true, true, true, true, false, true] [] n [(1, .string s1), (5, s5), (6, s6), (8, .string ⟨⟨T⟩⟩), (9, .slice ad A.length z), (48, .int .i64 A.length), (49, .int .i64 i)] σ =
      lpAt Tryd.prog env L k 7 [true, true, true, true, true, true, true, false, true] [] 1 [(1, .string s1), (5, s5), (6, s6), (8, .string ⟨⟨T ++ allT (A.drop i)⟩⟩), (9, .slice ad A.length z), (48, .int .i64 A.length), (49, .int .i64 A.length)] σ
  | 0, i, _, _, hn, _ => by omega
  | n + 1, i, T, hi, hn, hT => by
    by_cases hie : i = A.length
    · subst hie
      rw [f7_l13, f7_l13, decide_eq_false (by omega), br_false, br_false, List.drop_length, show allT [] = [] from rfl, List.append_nil]
    rw [f7_l13 L k n σ]
    have hget : A[i]? = some A[i] := List.getElem?_eq_getElem (by omega)
    have hbx : A[i].data.toList.length ≤ 1000 := hb A[i] (List.getElem_mem _)
    obtain ⟨q, e, hat⟩ := h.at (fun _ => rfl) hget
    have hw : IntKind.wrap .i64 ((i : Int) + 1) = ((i + 1 : Nat) : Int) := by rw [wrap_in _ (by omega) (by omega)]; omega
    have hd : T ++ allT (A.drop i) = (T ++ A[i].data.toList ++ [58, 32]) ++ allT (A.drop (i + 1)) := by
      rw [List.drop_eq_getElem_cons (by omega)]
      simp only [allT, List.flatMap_cons, List.append_assoc]
    have ih := cat_loop L k h hl hb s1 s5 s6 n (i + 1) (T ++ A[i].data.toList ++ [58, 32]) (by omega) (by omega) (by simp only [List.length_append, List.length_cons, List.length_nil]; omega)
    rw [hd, ← ih]
    rw [decide_eq_true (by omega), br_true, need_of (by simp [inRange]; omega), e, adr_some, hat 0 (.string A[i]) _ (by omega) rfl (by simp), asS_s, need_of (decide_eq_true (by show T.length + A[i].data.toList.length ≤ _; omega)), need_of (decide_eq_true (by show (T ++ A[i].data.toList).length + 2 ≤ _; rw [List.length_append]; omega)), hw]
    rfl

theorem allT_len : ∀ A : List ByteArray, (∀ p ∈ A, p.size ≤ 1000) → (allT A).length ≤ A.length * 1002
  | [], _ => Nat.le_refl _
  | x :: A, h => by
    have h1 := allT_len A (fun p hp => h p (List.mem_cons_of_mem _ hp))
    have h2 : x.data.toList.length ≤ 1000 := h x (by simp)
    simp only [allT, List.flatMap_cons, List.length_append, List.length_cons, List.length_nil] at h1 ⊢
    omega

theorem other_holds (L k : Nat) (hL : 100000 < L) {σ0 : St} {ad : Option Addr} {l : List PB} (hH0 : Holds σ0 2 cPB ad l) (s : ByteArray) :
    ∃ σ', evCall Tryd.prog env L (k + 100) 7 [.slice ad l.length 0, .string s] σ0 = some (.bool true, σ') := by
  have hH := holds_pb hH0
  have hbd := PB.bd (l := l)
  rw [show l.length = (l.map PB.pl).length by simp]
  generalize l.map PB.pl = l at hH hbd
  obtain ⟨σ1, g1, s1⟩ := awake_spec L (k + 93) σ0
  have hk1 : Kept' σ0.next σ0 σ1 := ⟨s1.1, fun q hq => s1.2 q hq (by simp)⟩
  obtain ⟨b, g2, hb⟩ := few_spec2 L (k + 98) hL hk1 0 hH
  obtain ⟨σa, ga, sa⟩ := awake_spec L (k + 93) σ1
  rw [f7_eq, g1, bnd_some, asB_b, not_true, br_false, g2, bnd_some, asB_b]
  cases b with
  | false => rw [not_false, br_true, ga, bnd_some, asB_b]; exact ⟨_, rfl⟩
  | true =>
  obtain ⟨hl, hsz⟩ := hb rfl
  rw [not_true, br_false]
  by_cases hop : ((s.size : Nat) : Int) > 200
  · rw [decide_eq_true hop, br_true, ga, bnd_some, asB_b]; exact ⟨_, rfl⟩
  rw [decide_eq_false hop, br_false, f25_eq, bnd_some]
  have hc0 : Co (σ1.new (.own [.string s] 79)) σ1.next s (.iface 77 (.pointer (some ⟨σ1.next, 0, none⟩))) [] := .own (get_new_same _ _) (by simp)
  have hs1 : Same σ1 (σ1.new (.own [.string s] 79)) [] := Same.new _ _ _
  generalize σ1.new (.own [.string s] 79) = σ2 at hc0 hs1
  generalize σ1.next = qo at hc0
  have hk2 := hk1.step hs1 (by simp)
  obtain ⟨v, σ3, g3, s3, h3⟩ := other_loop L (k + 98) 0 (by omega) hH s (.iface 77 (.pointer (some ⟨qo, 0, none⟩))) L 0 σ2 _ (by omega) (by omega) hk2 hc0
  have hk3 := hk2.step s3 (by simp)
  have hb2 : ∀ p ∈ l, p.1.size ≤ 10000 ∧ -9223372036854775808 ≤ p.2 ∧ p.2 ≤ 9223372036854775807 := fun p hp => ⟨by have := hsz p hp; omega, hbd p hp⟩
  have hb2r : ∀ p ∈ l.reverse, p.1.size ≤ 200 ∧ -9223372036854775808 ≤ p.2 ∧ p.2 ≤ 9223372036854775807 := fun p hp => ⟨hsz p (by simpa using hp), hbd p (by simpa using hp)⟩
  have hlr : l.reverse.length ≤ 50 := by simp; omega
  obtain ⟨ad4, z4, qb4, σ4, g4, s4, r4⟩ := refPath_spec L (k + 97) hL hk3 0 (by omega) hH hb2
  have h4 := h3.same s4
  have hplc : ∀ p ∈ l.reverse.map plc, p.size ≤ 1000 := by
    intro p hp
    obtain ⟨x, hx, rfl⟩ := List.mem_map.1 hp
    have hx := hb2r x hx
    have h1 : (dg x.2).data.toList.length ≤ 21 := Lib.itoa_length_le _ hx.2.1 hx.2.2
    have h2 : x.1.data.toList.length ≤ 200 := hx.1
    show (x.1.data.toList ++ [32] ++ (dg x.2).data.toList).length ≤ _
    simp only [List.length_append, List.length_cons, List.length_nil]; omega
  have hlm : l.length = (l.reverse.map plc).length := by simp
  have hlen : (allT (l.reverse.map plc)).length ≤ 50 * 1002 := Nat.le_trans (allT_len _ hplc) (Nat.mul_le_mul_right _ (by rw [List.length_map]; exact hlr))
  have g5 := cat_loop L (k + 99) r4 (by simp; omega) hplc s (.iface 77 (.pointer (some ⟨qo, 0, none⟩))) v L 0 [] (by omega) (by omega) (by simp; omega)
  rw [← hlm, List.nil_append, List.drop_zero] at g5
  obtain ⟨σ5, g6, s5⟩ := code_o L (k + 97) h4 (by omega)
  have h5 := h4.same s5
  obtain ⟨σ6, g7, s6⟩ := fis_o0 L (k + 96) h5 (by omega)
  have h6 := h5.same s6
  have g8 := fis_o6 L (k + 96) h6 (by omega)
  obtain ⟨ad7, z7, qb7, σ7, g9, r7, s7, q7⟩ := path_o L (k + 96) (by omega) h6 (by omega) (fun p hp => ⟨by have := hb2r p hp; omega, (hb2r p hp).2⟩)
  have h7 := h6.same s7
  have r4' := ((r4.same s5 (by simp)).same s6 (by simp)).same s7 (by simp)
  have g10 := same_spec2 L (k + 98) (by omega) (z := z7) (z2 := z4) (reads_row r7) (reads_row r4') (by simp; omega) (n := l.reverse.length) (n2 := l.length) (by simp) (by simp)
  have hss : s.data.toList.length ≤ 200 := by show s.size ≤ _; omega
  have g11 := err_o L h7 (fun p hp => (hb2r p hp).2) (by rw [List.length_append]; omega) (k + (97 - l.reverse.length))
  rw [show k + (97 - l.reverse.length) + l.reverse.length + 2 = k + 99 by omega] at g11
  have g12 := isOwn_o L (k + 98) h7 (by omega)
  refine ⟨σ7, ?_⟩
  rw [show ((0 : Int)) = ((0 : Nat) : Int) from rfl, g3, f7_l6, decide_eq_false (by omega), br_false, g4, bnd_some, asSl_s]
  refine g5.trans ?_
  rw [f7_l13, decide_eq_false (by omega), br_false, g6, bnd_some, asI_i, beq_self_eq_true, br_true, g7, bnd_some, asB_b, br_true, g8, bnd_some, asB_b, not_false, br_true, g9, bnd_some, asSl_s, g10, bnd_some, asB_b, br_true]
  refine (g11 _).trans ?_
  rw [asS_s, need_of (decide_eq_true (by show (allT (l.reverse.map plc)).length + s.data.toList.length ≤ _; omega)), beq_self_eq_true, br_true, g12, bnd_some, asB_b]
end Go.AM.Fw
