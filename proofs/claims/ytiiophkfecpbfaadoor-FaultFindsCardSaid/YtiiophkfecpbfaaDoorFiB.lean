/-
  FaultFinds: the library finds the number.
-/
import Derived.Test.YtiiophkfecpbfaaDoorFiA
set_option linter.unusedVariables false
set_option linter.unusedSimpArgs false
set_option linter.unusedSectionVars false
namespace Go.AM.Fi
open Go.Proofs

/-- A place. -/
def cP (p : ByteArray × Int) : List Value := [.string p.1, .int .i64 p.2]
theorem cP_len (p : ByteArray × Int) : (cP p).length = 2 := rfl

theorem few_loop (L k : Nat) {σ0 σ : St} (hk : Kept' σ0.next σ0 σ) {ad : Option Addr} {l : List (ByteArray × Int)} (z : Nat) (hl : l.length ≤ 1000) (hH : Holds σ0 2 cP ad l) : ∀ (n i : Nat), i ≤ l.length → l.length - i < n →
    ∃ b, lpAt Tryd.prog env L k 18 [true, true, false, true] [] n [(0, .slice ad l.length z), (8, .int .i64 l.length), (9, .int .i64 i)] σ = some (.bool b, σ)
  | 0, i, _, hn => by omega
  | n + 1, i, hi, hn => by
    rw [f18_l4]
    by_cases hie : i = l.length
    · rw [decide_eq_false (by omega), br_false]; exact ⟨true, rfl⟩
    have hget : l[i]? = some l[i] := List.getElem?_eq_getElem (by omega)
    obtain ⟨q, e, hat⟩ := hH.ld hk hget
    subst e
    have hw : IntKind.wrap .i64 ((i : Int) + 1) = ((i + 1 : Nat) : Int) := by rw [wrap_in _ (by omega) (by omega)]; omega
    rw [decide_eq_true (by omega), br_true, need_of (by simp [inRange]; omega), adr_some, hat 0 (.string l[i].1) _ (by omega) rfl (by simp), asS_s, hw]
    by_cases h : ((l[i].1.size : Nat) : Int) > 200
    · rw [decide_eq_true h, br_true]; exact ⟨false, rfl⟩
    · rw [decide_eq_false h, br_false]; exact few_loop L k hk z hl hH n (i + 1) (by omega) (by omega)
theorem few_spec (L k : Nat) (hL : 100000 < L) {σ0 σ : St} (hk : Kept' σ0.next σ0 σ) {ad : Option Addr} {l : List (ByteArray × Int)} (z : Nat) (hH : Holds σ0 2 cP ad l) :
    ∃ b, evCall Tryd.prog env L (k + 1) 18 [.slice ad l.length z] σ = some (.bool b, σ) ∧ (b = true → l.length ≤ 50) := by
  rw [f18_eq]
  by_cases h : ((l.length : Nat) : Int) > 50
  · rw [decide_eq_true h, br_true]; exact ⟨false, rfl, fun h => by cases h⟩
  · rw [decide_eq_false h, br_false]
    obtain ⟨b, e⟩ := few_loop L k hk z (by omega) hH L 0 (by omega) (by omega)
    exact ⟨b, e, fun _ => by omega⟩

theorem made_loop (L k : Nat) {σ0 : St} {ad : Option Addr} {l : List (ByteArray × Int)} (z : Nat) (hl : l.length ≤ 1000) (hH : Holds σ0 2 cP ad l) (c : Int) : ∀ (n i : Nat) (σ : St) (v : Value), i ≤ l.length → l.length - i < n → Kept' σ0.next σ0 σ → Ch σ v c (l.take i).reverse →
    ∃ v' σ', lpAt Tryd.prog env L (k + 1) 19 [true, true, true, false, true] [] n [(0, .slice ad l.length z), (5, v), (12, .int .i64 l.length), (13, .int .i64 i)] σ = some (v', σ') ∧ Same σ σ' [] ∧ Ch σ' v' c l.reverse
  | 0, i, _, _, _, hn, _, _ => by omega
  | n + 1, i, σ, v, hi, hn, hk, hc => by
    rw [f19_l5]
    by_cases hie : i = l.length
    · rw [decide_eq_false (by omega), br_false]
      subst hie
      rw [List.take_length] at hc
      exact ⟨v, σ, rfl, Same.refl _ _, hc⟩
    have hget : l[i]? = some l[i] := List.getElem?_eq_getElem (by omega)
    obtain ⟨q, e, hat⟩ := hH.ld hk hget
    subst e
    have hw : IntKind.wrap .i64 ((i : Int) + 1) = ((i + 1 : Nat) : Int) := by rw [wrap_in _ (by omega) (by omega)]; omega
    obtain ⟨g1, h1, s1⟩ := wrap_spec L k hc l[i].1 l[i].2
    rw [decide_eq_true (by omega), br_true, need_of (by simp [inRange]; omega), adr_some, hat 0 (.string l[i].1) _ (by omega) rfl (by simp), asS_s, need_of (by simp [inRange]; omega), adr_some, hat 1 (.int .i64 l[i].2) _ (by omega) rfl (by simp), asI_i, g1, bnd_some, hw]
    have ht : (l.take (i + 1)).reverse = (l[i].1, l[i].2) :: (l.take i).reverse := by
      rw [List.take_add_one, hget, List.reverse_append]; rfl
    obtain ⟨v', σ', e, s, h⟩ := made_loop L k z hl hH c n (i + 1) _ _ (by omega) (by omega) (hk.step s1 (by simp)) (by rw [ht]; exact h1)
    exact ⟨v', σ', e, s1.trans s, h⟩
theorem made_spec (L k : Nat) (hL : 100000 < L) {σ0 σ : St} (hk : Kept' σ0.next σ0 σ) {ad : Option Addr} {l : List (ByteArray × Int)} (z : Nat) (hl : l.length ≤ 1000) (hH : Holds σ0 2 cP ad l) (c : Int) (hc : c ≠ 0) :
    ∃ v' σ', evCall Tryd.prog env L (k + 2) 19 [.slice ad l.length z, .int .i64 c] σ = some (v', σ') ∧ Same σ σ' [] ∧ Ch σ' v' c l.reverse := by
  rw [f19_eq, show (c != 0) = true by simpa using hc, br_true]
  exact made_loop L k z hl hH c L 0 σ _ (by omega) (by omega) hk (.num c hc)

theorem eq_int {P : Program} {t t' : TypeId} {k : IntKind} {ms : Array (String × TypeId)} {i : TypeInfo} (h1 : P.underlying t = some (.interface ms)) (h2 : P.underlying t' = some (.int k)) (h3 : P.info? t' = some i) (h4 : i.comparable = true) (c : Int) (cy : Bool) (K : Value → Res) :
    aBin P .neq t cy (.iface t' (.int k c)) (.iface t' (.int k c)) K = K (.bool false) := by
  simp [aBin, h1, h2, h3, h4, need, isEq, eqErr, notIf]
theorem eq_ptr {P : Program} {t t' te : TypeId} {ms : Array (String × TypeId)} {i j : TypeInfo} (h1 : P.underlying t = some (.interface ms)) (h2 : P.underlying t' = some (.pointer te)) (h3 : P.info? t' = some i) (h4 : i.comparable = true) (h5 : P.info? te = some j) (q : Nat) (cy : Bool) (K : Value → Res) :
    aBin P .neq t cy (.iface t' (.pointer (some ⟨q, 0, none⟩))) (.iface t' (.pointer (some ⟨q, 0, none⟩))) K = K (.bool false) := by
  simp [aBin, h1, h2, h3, h4, h5, need, isEq, eqPtr, notIf]
theorem c23 : (Tryd.prog.info? 23).map (·.comparable) = some true := by kernel_rfl
theorem c30 : (Tryd.prog.info? 30).map (·.comparable) = some true := by kernel_rfl
theorem c32 : (Tryd.prog.info? 32).map (·.size) = some 3 := by kernel_rfl
theorem own_eq (x : Value) (hx : (∃ c, x = .iface 23 (.int .i64 c)) ∨ (∃ q, x = .iface 30 (.pointer (some ⟨q, 0, none⟩)))) (cy : Bool) (K : Value → Res) : aBin Tryd.prog .neq 27 cy x x K = K (.bool false) := by
  rcases hx with ⟨c, rfl⟩ | ⟨q, rfl⟩
  · obtain ⟨i, hi, hc⟩ := Option.map_eq_some_iff.1 c23
    exact eq_int Tryd.underlying27 Tryd.underlying23 hi hc _ _ _
  · obtain ⟨i, hi, hc⟩ := Option.map_eq_some_iff.1 c30
    obtain ⟨j, hj, _⟩ := Option.map_eq_some_iff.1 c32
    exact eq_ptr Tryd.underlying27 Tryd.underlying30 hi hc hj _ _ _

theorem Ch.ends {σ : St} {v : Value} {c : Int} {l : List (ByteArray × Int)} (h : Ch σ v c l) : (∃ c, v = .iface 23 (.int .i64 c)) ∨ (∃ q, v = .iface 30 (.pointer (some ⟨q, 0, none⟩))) := by
  cases h
  · exact .inl ⟨_, rfl⟩
  · exact .inr ⟨_, rfl⟩

theorem finds_holds (L k : Nat) (hL : 100000 < L) {σ0 : St} {ad : Option Addr} {l : List (ByteArray × Int)} (hH : Holds σ0 2 cP ad l) (c d : Int) :
    ∃ σ', evCall Tryd.prog env L (k + 10) 5 [.slice ad l.length 0, .int .i64 c, .int .i64 d] σ0 = some (.bool true, σ') := by
  obtain ⟨σ1, g1, s1⟩ := awake_spec L (k + 3) σ0
  have hk1 : Kept' σ0.next σ0 σ1 := ⟨s1.1, fun q hq => s1.2 q hq (by simp)⟩
  obtain ⟨b, g2, hb⟩ := few_spec L (k + 8) hL hk1 0 hH
  obtain ⟨σa, ga, sa⟩ := awake_spec L (k + 3) σ1
  rw [f5_eq, g1, bnd_some, asB_b, not_true, br_false, g2, bnd_some, asB_b]
  cases b with
  | false => rw [not_false, br_true, ga, bnd_some, asB_b]; exact ⟨_, rfl⟩
  | true =>
  have hl := hb rfl
  rw [not_true, br_false]
  by_cases hc : c = 0
  · subst hc
    rw [beq_self_eq_true, br_true, ga, bnd_some, asB_b]; exact ⟨_, rfl⟩
  rw [show (c == 0) = false by simpa using hc, br_false]
  obtain ⟨v, σ2, g3, s3, h2⟩ := made_spec L (k + 7) hL hk1 0 (by omega) hH c hc
  rw [g3, bnd_some]
  have hlr : l.reverse.length ≤ 64 := by simp; omega
  -- the two variables
  generalize hσ3 : σ2.new (Blk.own [Value.pointer none] 30) = σ3
  have t3 : Same σ2 σ3 [] := by rw [← hσ3]; exact Same.new _ _ _
  have n3 : σ3.next = σ2.next + 1 := by rw [← hσ3]; rfl
  have f3 : σ3.get σ2.next = some (.own [.pointer none] 30) := by rw [← hσ3, get_new_same]
  have h3 := h2.same t3
  rw [as_num L (k + 8) (h3.same (Same.new _ (Blk.own [Value.int .i64 0] 23) _)) hlr (get_new_same _ _), bnd_some, asB_b, not_true, br_false, ld_own _ (get_set_same _ _ _) (v := .int .i64 c) rfl, asI_i, show (c != c) = false by simp, br_false]
  generalize hσ4 : (σ3.new (Blk.own [Value.int .i64 0] 23)).set σ3.next (.own [.int .i64 c] 23) = σ4
  have t4 : Same σ3 σ4 [] := by rw [← hσ4]; exact ⟨by simp, fun q hq _ => by rw [get_set (by omega), get_new (by omega)]⟩
  have h4 := h3.same t4
  have f4 : σ4.get σ2.next = some (.own [.pointer none] 30) := by rw [t4.2 _ (by omega) (by simp)]; exact f3
  have hk4 : Kept' σ0.next σ0 σ4 := ((hk1.step s3 (by simp)).step t3 (by simp)).step t4 (by simp)
  rw [as_prim]
  by_cases hl0 : l = []
  · subst hl0
    have h4' := h4
    cases h4 with
    | num _ _ =>
    have ha : Td.asG [.iface 23 (.int .i64 c), .iface 43 (.pointer (some ⟨σ2.next, 0, none⟩))] σ4 = some (.bool false, σ4) := by
      simp only [Td.asG, f4]
      rw [if_pos (by simp), if_neg (by simp), if_pos (by simp)]
    rw [ha, bnd_some, asB_b, show (!(false == decide (((List.length ([] : List (ByteArray × Int)) : Nat) : Int) > 0))) = false from rfl, br_false, show decide (((List.length ([] : List (ByteArray × Int)) : Nat) : Int) > 0) = false from rfl, br_false, is_spec L (k + 8) h4' (by simp) d, bnd_some, asB_b, beq_self_eq_true, br_true]
    obtain ⟨σ5, g5, _⟩ := fis_spec L (k + 6) h4' (by simp) d
    rw [g5, bnd_some, asB_b, beq_self_eq_true]
    exact ⟨_, rfl⟩
  · have hpos : 0 < l.length := List.length_pos_iff.2 hl0
    obtain ⟨l', p, rfl⟩ : ∃ l' p, l = l' ++ [p] := ⟨l.dropLast, l.getLast hl0, (List.dropLast_concat_getLast hl0).symm⟩
    have hd : decide ((((l' ++ [p]).length : Nat) : Int) > 0) = true := decide_eq_true (by omega)
    have hlr' : (p :: l'.reverse).length ≤ 64 := by simpa using hlr
    rw [List.reverse_append] at h4
    have h4' : Ch σ4 v c ((p.1, p.2) :: l'.reverse) := h4
    have h4'' := h4'
    cases h4' with
    | flt q s n y _ _ hg hq hy =>
    have ha : Td.asG [.iface 30 (.pointer (some ⟨q, 0, none⟩)), .iface 43 (.pointer (some ⟨σ2.next, 0, none⟩))] σ4 = some (.bool true, σ4.set σ2.next (.own [.pointer (some ⟨q, 0, none⟩)] 30)) := by
      simp only [Td.asG, f4]
      rw [if_pos (by simp), if_pos (by simp)]
      exact put_own _ f4 (by simp) rfl
    have hqn : q ≠ σ2.next := by
      intro e; subst e; rw [f4] at hg; cases hg
    generalize hσ5 : σ4.set σ2.next (.own [.pointer (some ⟨q, 0, none⟩)] 30) = σ5 at ha
    have f5 : σ5.get σ2.next = some (.own [.pointer (some ⟨q, 0, none⟩)] 30) := by rw [← hσ5, get_set_same]
    have hg5 : σ5.get q = some (.own [.string p.1, .int .i64 p.2, y] 32) := by rw [← hσ5, get_set hqn]; exact hg
    have h25 : Same σ2 σ5 [] := by
      rw [← hσ5]
      exact ⟨by have := t3.1; have := t4.1; simp; omega, fun x hx _ => by rw [get_set (by omega), t4.2 x (by omega) (by simp), t3.2 x hx (by simp)]⟩
    have h5 : Ch σ5 (.iface 30 (.pointer (some ⟨q, 0, none⟩))) c ((p.1, p.2) :: l'.reverse) := by
      have := h2.same h25
      rw [List.reverse_append] at this
      exact this
    have hk5 : Kept' σ0.next σ0 σ5 := (hk1.step s3 (by simp)).step h25 (by simp)
    have hlast : (l' ++ [p])[l'.length]? = some p := by simp
    obtain ⟨qa, e, hat⟩ := hH.ld hk5 hlast
    subst e
    have hw : IntKind.wrap .i64 ((((l' ++ [p]).length : Nat) : Int) - 1) = (l'.length : Int) := by rw [wrap_in _ (by omega) (by omega)]; simp
    have hin : inRange (l'.length : Int) (((l' ++ [p]).length : Nat) : Int) = true := by simp [inRange]; omega
    rw [ha, bnd_some, asB_b, hd, show (!(true == true)) = false from rfl, br_false, br_true, ld_own _ f5 (v := .pointer (some ⟨q, 0, none⟩)) rfl, asP_p, adr_some, ld_own _ hg5 (v := .string p.1) rfl, asS_s, hw, need_of hin, adr_some,
      hat 0 (.string p.1) _ (by omega) rfl (by simp), asS_s, beq_self_eq_true, not_true, br_false,
      ld_own _ f5 (v := .pointer (some ⟨q, 0, none⟩)) rfl, asP_p, adr_some, ld_own _ hg5 (v := .int .i64 p.2) rfl, asI_i, need_of hin, adr_some, hat 1 (.int .i64 p.2) _ (by omega) rfl (by simp), asI_i, show (p.2 != p.2) = false by simp, br_false,
      ld_own _ f5 (v := .pointer (some ⟨q, 0, none⟩)) rfl, asP_p, f15_eq, ld_own _ hg5 (v := y) rfl]
    obtain ⟨σ6, g6, _⟩ := fis_spec L (k + 6) h5 hlr' d
    rw [bnd_some, ld_own _ f5 (v := .pointer (some ⟨q, 0, none⟩)) rfl, asP_p, ld_own _ f5 (v := .pointer (some ⟨q, 0, none⟩)) rfl, asP_p, chk_same, adr_some, ld_own _ hg5 (v := y) rfl, ld_own _ hg5 (v := y) rfl, chk_same, show pack [y] = y from rfl, own_eq y hy.ends, asB_b, br_false, is_spec L (k + 8) h5 hlr' d, bnd_some, asB_b, beq_self_eq_true, br_true, g6, bnd_some, asB_b, beq_self_eq_true]
    exact ⟨_, rfl⟩
end Go.AM.Fi
