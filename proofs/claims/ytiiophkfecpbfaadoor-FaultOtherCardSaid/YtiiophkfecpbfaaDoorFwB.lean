/-
  FaultFinds: the library finds the number.
-/
import Derived.Test.YtiiophkfecpbfaaDoorFwA
set_option linter.unusedVariables false
set_option linter.unusedSimpArgs false
set_option linter.unusedSectionVars false
namespace Go.AM.Fw
open Go.Proofs

/-- A place. -/
def cP (p : ByteArray × Int) : List Value := [.string p.1, .int .i64 p.2]
theorem cP_len (p : ByteArray × Int) : (cP p).length = 2 := rfl

theorem few_loop (L k : Nat) {σ0 σ : St} (hk : Kept' σ0.next σ0 σ) {ad : Option Addr} {l : List (ByteArray × Int)} (z : Nat) (hl : l.length ≤ 1000) (hH : Holds σ0 2 cP ad l) : ∀ (n i : Nat), i ≤ l.length → l.length - i < n →
    ∃ b, lpAt Tryd.prog env L k 18 [true, true, false, true] [] n [(0, .slice ad l.length z), (8, .int .i64 l.length), (9, .int .i64 i)] σ = some (.bool b, σ)
  | 0, i, _, hn => by omega
  | n + 1, i, hi, hn => by
    rw [f18_l4]
    by_cases hie : i = l.length
    · rw [decide_eq_false (by omega), br_false]; exact ⟨true, rfl⟩
    have hget : l[i]? = some l[i] := List.getElem?_eq_getElem (by omega)
    obtain ⟨q, e, hat⟩ := hH.ld hk hget
    subst e
    have hw : IntKind.wrap .i64 ((i : Int) + 1) = ((i + 1 : Nat) : Int) := by rw [wrap_in _ (by omega) (by omega)]; omega
    rw [decide_eq_true (by omega), br_true, need_of (by simp [inRange]; omega), adr_some, hat 0 (.string l[i].1) _ (by omega) rfl (by simp), asS_s, hw]
    by_cases h : ((l[i].1.size : Nat) : Int) > 200
    · rw [decide_eq_true h, br_true]; exact ⟨false, rfl⟩
    · rw [decide_eq_false h, br_false]; exact few_loop L k hk z hl hH n (i + 1) (by omega) (by omega)
theorem few_spec (L k : Nat) (hL : 100000 < L) {σ0 σ : St} (hk : Kept' σ0.next σ0 σ) {ad : Option Addr} {l : List (ByteArray × Int)} (z : Nat) (hH : Holds σ0 2 cP ad l) :
    ∃ b, evCall Tryd.prog env L (k + 1) 18 [.slice ad l.length z] σ = some (.bool b, σ) ∧ (b = true → l.length ≤ 50) := by
  rw [f18_eq]
  by_cases h : ((l.length : Nat) : Int) > 50
  · rw [decide_eq_true h, br_true]; exact ⟨false, rfl, fun h => by cases h⟩
  · rw [decide_eq_false h, br_false]
    obtain ⟨b, e⟩ := few_loop L k hk z (by omega) hH L 0 (by omega) (by omega)
    exact ⟨b, e, fun _ => by omega⟩

theorem made_loop (L k : Nat) {σ0 : St} {ad : Option Addr} {l : List (ByteArray × Int)} (z : Nat) (hl : l.length ≤ 1000) (hH : Holds σ0 2 cP ad l) (c : Int) : ∀ (n i : Nat) (σ : St) (v : Value), i ≤ l.length → l.length - i < n → Kept' σ0.next σ0 σ → Ch σ v c (l.take i).reverse →
    ∃ v' σ', lpAt Tryd.prog env L (k + 1) 19 [true, true, true, false, true] [] n [(0, .slice ad l.length z), (5, v), (12, .int .i64 l.length), (13, .int .i64 i)] σ = some (v', σ') ∧ Same σ σ' [] ∧ Ch σ' v' c l.reverse
  | 0, i, _, _, _, hn, _, _ => by omega
  | n + 1, i, σ, v, hi, hn, hk, hc => by
    rw [f19_l5]
    by_cases hie : i = l.length
    · rw [decide_eq_false (by omega), br_false]
      subst hie
      rw [List.take_length] at hc
      exact ⟨v, σ, rfl, Same.refl _ _, hc⟩
    have hget : l[i]? = some l[i] := List.getElem?_eq_getElem (by omega)
    obtain ⟨q, e, hat⟩ := hH.ld hk hget
    subst e
    have hw : IntKind.wrap .i64 ((i : Int) + 1) = ((i + 1 : Nat) : Int) := by rw [wrap_in _ (by omega) (by omega)]; omega
    obtain ⟨g1, h1, s1⟩ := wrap_spec L k hc l[i].1 l[i].2
    rw [decide_eq_true (by omega), br_true, need_of (by simp [inRange]; omega), adr_some, hat 0 (.string l[i].1) _ (by omega) rfl (by simp), asS_s, need_of (by simp [inRange]; omega), adr_some, hat 1 (.int .i64 l[i].2) _ (by omega) rfl (by simp), asI_i, g1, bnd_some, hw]
    have ht : (l.take (i + 1)).reverse = (l[i].1, l[i].2) :: (l.take i).reverse := by
      rw [List.take_add_one, hget, List.reverse_append]; rfl
    obtain ⟨v', σ', e, s, h⟩ := made_loop L k z hl hH c n (i + 1) _ _ (by omega) (by omega) (hk.step s1 (by simp)) (by rw [ht]; exact h1)
    exact ⟨v', σ', e, s1.trans s, h⟩
theorem made_spec (L k : Nat) (hL : 100000 < L) {σ0 σ : St} (hk : Kept' σ0.next σ0 σ) {ad : Option Addr} {l : List (ByteArray × Int)} (z : Nat) (hl : l.length ≤ 1000) (hH : Holds σ0 2 cP ad l) (c : Int) (hc : c ≠ 0) :
    ∃ v' σ', evCall Tryd.prog env L (k + 2) 19 [.slice ad l.length z, .int .i64 c] σ = some (v', σ') ∧ Same σ σ' [] ∧ Ch σ' v' c l.reverse := by
  rw [f19_eq, show (c != 0) = true by simpa using hc, br_true]
  exact made_loop L k z hl hH c L 0 σ _ (by omega) (by omega) hk (.num c hc)

theorem eq_int {P : Program} {t t' : TypeId} {k : IntKind} {ms : Array (String × TypeId)} {i : TypeInfo} (h1 : P.underlying t = some (.interface ms)) (h2 : P.underlying t' = some (.int k)) (h3 : P.info? t' = some i) (h4 : i.comparable = true) (c : Int) (cy : Bool) (K : Value → Res) :
    aBin P .neq t cy (.iface t' (.int k c)) (.iface t' (.int k c)) K = K (.bool false) := by
  simp [aBin, h1, h2, h3, h4, need, isEq, eqErr, notIf]
theorem eq_ptr {P : Program} {t t' te : TypeId} {ms : Array (String × TypeId)} {i j : TypeInfo} (h1 : P.underlying t = some (.interface ms)) (h2 : P.underlying t' = some (.pointer te)) (h3 : P.info? t' = some i) (h4 : i.comparable = true) (h5 : P.info? te = some j) (q : Nat) (cy : Bool) (K : Value → Res) :
    aBin P .neq t cy (.iface t' (.pointer (some ⟨q, 0, none⟩))) (.iface t' (.pointer (some ⟨q, 0, none⟩))) K = K (.bool false) := by
  simp [aBin, h1, h2, h3, h4, h5, need, isEq, eqPtr, notIf]
theorem c23 : (Tryd.prog.info? 23).map (·.comparable) = some true := by kernel_rfl
theorem c30 : (Tryd.prog.info? 30).map (·.comparable) = some true := by kernel_rfl
theorem c32 : (Tryd.prog.info? 32).map (·.size) = some 3 := by kernel_rfl
theorem own_eq (x : Value) (hx : (∃ c, x = .iface 23 (.int .i64 c)) ∨ (∃ q, x = .iface 30 (.pointer (some ⟨q, 0, none⟩)))) (cy : Bool) (K : Value → Res) : aBin Tryd.prog .neq 27 cy x x K = K (.bool false) := by
  rcases hx with ⟨c, rfl⟩ | ⟨q, rfl⟩
  · obtain ⟨i, hi, hc⟩ := Option.map_eq_some_iff.1 c23
    exact eq_int Tryd.underlying27 Tryd.underlying23 hi hc _ _ _
  · obtain ⟨i, hi, hc⟩ := Option.map_eq_some_iff.1 c30
    obtain ⟨j, hj, _⟩ := Option.map_eq_some_iff.1 c32
    exact eq_ptr Tryd.underlying27 Tryd.underlying30 hi hc hj _ _ _

theorem Ch.ends {σ : St} {v : Value} {c : Int} {l : List (ByteArray × Int)} (h : Ch σ v c l) : (∃ c, v = .iface 23 (.int .i64 c)) ∨ (∃ q, v = .iface 30 (.pointer (some ⟨q, 0, none⟩))) := by
  cases h
  · exact .inl ⟨_, rfl⟩
  · exact .inr ⟨_, rfl⟩

end Go.AM.Fw
