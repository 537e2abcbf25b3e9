/-
  THE STAGE, more: records up to a marker; what is dropped.
-/
import Derived.Test.YtacniifcgjcedaaDoorSpB
import Derived.Test.YtacniifcgjcedaaDoorSpE
set_option linter.unusedVariables false
set_option linter.unusedSimpArgs false
set_option linter.unusedSectionVars false
namespace Go.AM.Sp
open Go.Proofs

def Hit (mark : Int) (r : Rec) : Prop := r.kind = 2 ∧ r.number = mark
instance (mark : Int) (r : Rec) : Decidable (Hit mark r) := inferInstanceAs (Decidable (_ ∧ _))

theorem hit_spec (L k : Nat) (σ : St) (r : Rec) (mark : Int) {m : Nat} (hm : σ.get m = some (.own [.int .i64 mark] 3)) (hml : m < σ.next) : ∃ σ', evCall Tryd.prog env L (k + 1) 30 [r.agg, .pointer (some ⟨m, 0, none⟩)] σ = some (.bool (decide (Hit mark r)), σ') ∧ Same σ σ' [] := by
  unfold Rec.agg
  rw [f30_eq]
  generalize hσ1 : σ.new (Blk.own [Value.int IntKind.i64 r.seq, Value.int IntKind.i64 r.kind, Value.int IntKind.i64 r.block, Value.string r.data, Value.int IntKind.i64 r.number] 23) = σ1
  have hn : σ1.get σ.next = some (Blk.own [Value.int IntKind.i64 r.seq, Value.int IntKind.i64 r.kind, Value.int IntKind.i64 r.block, Value.string r.data, Value.int IntKind.i64 r.number] 23) := by rw [← hσ1, get_new_same]
  have hs1 : Same σ σ1 [] := by rw [← hσ1]; exact Same.new _ _ _
  have hm1 : σ1.get m = some (.own [.int .i64 mark] 3) := by rw [hs1.2 m hml (by simp)]; exact hm
  rw [ld_at hn 1 _ rfl, asI_i]
  by_cases hk : r.kind = 2
  · rw [show (r.kind == 2) = true by simpa using hk, br_true, ld_at hn 4 _ rfl, asI_i, asP_p, adr_some, ld_at hm1 0 _ rfl, asI_i]
    refine ⟨σ1, ?_, hs1⟩
    have : (r.number == mark) = decide (Hit mark r) := by
      by_cases h : r.number = mark
      · rw [decide_eq_true (show Hit mark r from ⟨hk, h⟩)]; simpa using h
      · rw [decide_eq_false (fun hh : Hit mark r => h hh.2)]; simpa using h
    rw [this]
  · rw [show (r.kind == 2) = false by simpa using hk, br_false, decide_eq_false (fun h : Hit mark r => hk h.1)]
    exact ⟨σ1, rfl, hs1⟩

theorem index_loop (L k : Nat) {σs : St} {mark : Int} {m : Nat} (hm : σs.get m = some (.own [.int .i64 mark] 3)) (hml : m < σs.next) {l : List Rec} {ad : Option Addr} {z : Nat} {qs : List Nat} (hl : l.length ≤ 100000) (hR : Row c5 5 23 σs ad z qs l) : ∀ (n i : Nat) (σ : St), i ≤ l.length → l.length - i < n → Same σs σ [] → (∀ j r, j < i → l[j]? = some r → ¬ Hit mark r) →
    Ends (fun v σ' => Same σs σ' [] ∧ ((∃ j r, v = .int .i64 (j : Nat) ∧ l[j]? = some r ∧ Hit mark r ∧ ∀ j' r', j' < j → l[j']? = some r' → ¬ Hit mark r') ∨ (v = .int .i64 (-1) ∧ ∀ r ∈ l, ¬ Hit mark r)))
      (lpAt Tryd.prog env L (k + 1) 28 [true, false, true] [] n [(0, .slice ad l.length z), (1, .func (Fn.func 30) #[] #[.pointer (some ⟨m, 0, none⟩)]), (7, .int .i64 l.length), (8, .int .i64 i)] σ)
  | 0, i, σ, _, h, _, _ => by omega
  | n + 1, i, σ, hi, h, hs, hno => by
    rw [f28_l2]
    by_cases hie : i = l.length
    · rw [decide_eq_false (by omega), br_false]
      refine .leaf ⟨hs, .inr ⟨rfl, fun r hr => ?_⟩⟩
      obtain ⟨j, hj, rfl⟩ := List.getElem_of_mem hr
      exact hno j _ (by omega) (List.getElem?_eq_getElem hj)
    · have hget : l[i]? = some l[i] := List.getElem?_eq_getElem (by omega)
      obtain ⟨q, e, hat⟩ := (hR.same hs (by simp)).lds c5_len hget
      generalize l[i] = r at hat hget
      obtain ⟨σ1, g1, hs1⟩ := hit_spec L k σ r mark (by rw [hs.2 m hml (by simp)]; exact hm) (by have := hs.1; omega)
      rw [decide_eq_true (by omega), br_true, need_of (by simp [inRange]; omega), e, adr_some, hat _ (by simp), show c5 r = [.int .i64 r.seq, .int .i64 r.kind, .int .i64 r.block, .string r.data, .int .i64 r.number] from rfl, uncons_c, asI_i, uncons_c, asI_i, uncons_c, asI_i, uncons_c, asS_s, uncons_c, asI_i, endl_n]
      have hF : ∀ K : FuncId → List Value → List Value → Res, asF (.func (Fn.func 30) #[] #[.pointer (some ⟨m, 0, none⟩)]) K = K 30 [] [.pointer (some ⟨m, 0, none⟩)] := fun K => rfl
      rw [hF, show (([] : List Value) ++ [Value.agg #[Value.int .i64 r.seq, .int .i64 r.kind, .int .i64 r.block, .string r.data, .int .i64 r.number]] ++ [Value.pointer (some ⟨m, 0, none⟩)]) = [r.agg, .pointer (some ⟨m, 0, none⟩)] from rfl, g1, bnd_some, asB_b]
      by_cases hh : Hit mark r
      · rw [decide_eq_true hh, br_true]
        exact .leaf ⟨hs.trans hs1, .inl ⟨i, r, rfl, hget, hh, hno⟩⟩
      · rw [decide_eq_false hh, br_false, wrap_in _ (by omega) (by omega), ← e]
        refine index_loop L k hm hml hl hR n (i + 1) σ1 (by omega) (by omega) (hs.trans hs1) (fun j r' hj hr' => ?_)
        by_cases hji : j = i
        · subst hji; rw [hget] at hr'; cases hr'; exact hh
        · exact hno j r' (by omega) hr'

theorem clone_spec (L k : Nat) {σ : St} {l : List Rec} {ad : Option Addr} {z : Nat} {qs : List Nat} (hl : l.length ≤ 100000) (hR : Row c5 5 23 σ ad z qs l) (i m : Nat) (him : i + m ≤ l.length) (a' : Option Addr) (ha : a' = subA ad (i * 5)) :
    ∃ ad' z' q' σ', evCall Tryd.prog env L (k + 1) 31 [.slice a' m z] σ = some (.slice ad' m z', σ') ∧ Row c5 5 23 σ' ad' z' q' ((l.drop i).take m) ∧ Same σ σ' [] ∧ ∀ q ∈ q', σ.next ≤ q := by
  subst ha
  rw [f31_eq]
  rcases hR.is with ⟨e1, e2, e3, e4⟩ | ⟨q, rest, e1, e2, e3, e4⟩
  · subst e1; subst e2
    have hm : m = 0 := by simp at him; exact him.2
    subst hm
    exact ⟨none, 0, [], σ, rfl, by simpa using Row.nil c5 5 23 σ, Same.refl _ _, by simp⟩
  · rw [show (subA ad (i * 5)).isNone = false by rw [e2]; rfl, br_false]
    generalize hσ2 : σ.new (Blk.own [] 23) = σ2
    have hs2 : Same σ σ2 [] := by rw [← hσ2]; exact Same.new _ _ _
    have hx2 : σ2.next = σ.next + 1 := by rw [← hσ2]; rfl
    have hR2 := hR.same hs2 (by simp)
    have hE2 : Row c5 5 23 σ2 (some ⟨σ.next, 0, none⟩) 5 [σ.next] [] := ⟨by rw [← hσ2]; simp, .inr ⟨σ.next, [], rfl, rfl, rfl, by rw [← hσ2, get_new_same]; rfl⟩⟩
    have hlen : ((l.drop i).take m).length = m := by rw [List.length_take, List.length_drop]; omega
    obtain ⟨ad3, z3, q3, σ3, hgrow3, hR3, hs3, hq3⟩ := grow_row (by_ := 48) hE2 c5_len c5_one (by omega) ((l.drop i).take m) (((l.drop i).take m).flatMap c5) rfl m hlen.symm (by unfold roomTop; simp; omega) (by unfold sizeTop; simp; omega)
    rw [hR2.part c5_len i m him (i * 5) (m * 5) rfl rfl]
    have hg := hgrow3
    rw [List.length_nil] at hg
    rw [hg, Nat.zero_add]
    rw [List.nil_append] at hR3
    exact ⟨ad3, z3, q3, σ3, rfl, hR3, hs2.fresh hs3 (fun x hx => .inr (by simp at hx; omega)), fun x hx => by rcases hq3 x hx with h | h; (simp at h; omega); omega⟩

section
variable {σ : St} {a : Nat} {F : List Nat} {first mark : Int} {rs : List Rec} {fast : Nat} (h : Stg σ a F first rs fast mark) (L k : Nat)
include h
theorem upto_spec (hL : 2000 < L) (hl : rs.length ≤ 1000) (hf : fast ≤ rs.length) (m : Int) :
    (∃ (j : Nat) (r : Rec) (ad : Option Addr) (z : Nat) (q : List Nat) (σ' : St), evCall Tryd.prog env L (k + 3) 10 [.pointer (some ⟨a, 0, none⟩), .int .i64 m] σ = some (.tuple #[.slice ad (j + 1) z, .bool true], σ') ∧ Row c5 5 23 σ' ad z q (rs.take (j + 1)) ∧ Same σ σ' [] ∧ (∀ x ∈ q, σ.next ≤ x) ∧ j < fast ∧ rs[j]? = some r ∧ Hit m r ∧ ∀ j' r', j' < j → rs[j']? = some r' → ¬ Hit m r') ∨
    (∃ σ', evCall Tryd.prog env L (k + 3) 10 [.pointer (some ⟨a, 0, none⟩), .int .i64 m] σ = some (.tuple #[.slice none 0 0, .bool false], σ') ∧ Same σ σ' [] ∧ ∀ r ∈ rs.take fast, ¬ Hit m r) := by
  rw [f10_eq]
  generalize hσ1 : σ.new (Blk.own [Value.int IntKind.i64 m] 3) = σ1
  have hn : σ1.get σ.next = some (Blk.own [Value.int IntKind.i64 m] 3) := by rw [← hσ1, get_new_same]
  have hs1 : Same σ σ1 [] := by rw [← hσ1]; exact Same.new _ _ _
  have hx1 : σ1.next = σ.next + 1 := by rw [← hσ1]; rfl
  have h1 := h.idle hs1
  obtain ⟨ad0, z0, qs0, g1, hrow, hq0⟩ := safe_spec h1 L (k + 1) (by omega) hf
  have htl : (rs.take fast).length ≤ rs.length := by rw [List.length_take]; omega
  have htf : (rs.take fast).length = fast := by rw [List.length_take]; omega
  rw [g1, bnd_some, asSl_s, f28_eq]
  obtain ⟨v, σ2, g2, hs2, hor⟩ := index_loop L k hn (by omega) (by omega) hrow L 0 σ1 (by omega) (by omega) (Same.refl _ _) (fun j r hj => by omega)
  rw [show ((0 : Nat) : Int) = 0 from rfl] at g2
  rw [g2, bnd_some]
  have hs12 := hs1.trans hs2
  rcases hor with ⟨j, r, rfl, hj, hh, hno⟩ | ⟨rfl, hno⟩
  · have hjf : j < fast := by have := (List.getElem?_eq_some_iff.1 hj).1; omega
    have htk : ∀ j', j' < fast → (rs.take fast)[j']? = rs[j']? := fun j' hj' => by rw [List.getElem?_take, if_pos hj']
    have h2 := h.idle hs12
    obtain ⟨qs, ad, z, rfl, hne, hg, hrow2⟩ := h2.ex
    rw [asI_i, decide_eq_false (by omega), br_false, ld_at hg 1 _ rfl, asSl_s, need_of (by rcases hrow2.z with e | e <;> rw [e] <;> rfl), wrap_in _ (by omega) (by omega), need_of (by simp [inRange]; omega)]
    obtain ⟨ad3, z3, q3, σ3, g3, hR3, hs3, hq3⟩ := clone_spec L (k + 1) (by omega) hrow2 0 (j + 1) (by omega) (subA ad 0) rfl
    rw [show Int.toNat ((j : Int) + 1) - 0 = j + 1 by omega, g3, bnd_some, asSl_s]
    rw [List.drop_zero] at hR3
    exact .inl ⟨j, r, ad3, z3, q3, σ3, rfl, hR3, hs12.trans hs3, fun x hx => by have := hq3 x hx; have := hs12.1; omega, hjf, by rw [← htk j hjf]; exact hj, hh, fun j' r' hj' hr' => hno j' r' hj' (by rw [htk j' (by omega)]; exact hr')⟩
  · rw [asI_i, show decide ((-1 : Int) < 0) = true from rfl, br_true]
    exact .inr ⟨σ2, rfl, hs12, hno⟩

theorem drop_spec (hL : 2000 < L) (hl : rs.length ≤ 1000) (hf : fast ≤ rs.length) (h0 : 1 ≤ first) (h1 : first ≤ 1152921504607846976) (m : Int) :
    (∃ (j : Nat) (r : Rec) (F' : List Nat) (σ' : St), evCall Tryd.prog env L (k + 4) 14 [.pointer (some ⟨a, 0, none⟩), .int .i64 m] σ = some (.nilIface, σ') ∧ Stg σ' a F' (first + (j + 1 : Nat)) (rs.drop (j + 1)) (fast - (j + 1)) m ∧ Turn σ σ' F F' ∧ j < fast ∧ rs[j]? = some r ∧ Hit m r ∧ ∀ j' r', j' < j → rs[j']? = some r' → ¬ Hit m r') ∨
    (∃ v σ', evCall Tryd.prog env L (k + 4) 14 [.pointer (some ⟨a, 0, none⟩), .int .i64 m] σ = some (v, σ') ∧ Err σ' v 8 m ∧ Same σ σ' [] ∧ ∀ r ∈ rs.take fast, ¬ Hit m r) := by
  rw [f14_eq]
  rcases upto_spec h L k hL hl hf m with ⟨j, r, ad, z, q, σ1, g1, hR1, hs1, hq1, hjf, hj, hh, hno⟩ | ⟨σ1, g1, hs1, hno⟩
  · have hS1 := h.idle hs1
    have hlt0 := h.lt
    obtain ⟨qs, ad0, z0, rfl, hne, hg, hrow⟩ := hS1.ex
    have hlt := hS1.lt
    have hal := hlt a (by simp)
    rw [g1, bnd_some, asT_t, toList2, uncons_c, asSl_s, uncons_c, asB_b, endl_n, not_true, br_false, ld_at hg 0 _ rfl, asI_i, wrap_in _ (by omega) (by omega), put_int hg 0 _ _ (by simp)]
    have g2 : (σ1.set a (.own (List.set [.int .i64 first, .slice ad0 rs.length z0, .int .i64 fast, .int .i64 mark] 0 (.int .i64 (first + ((j + 1 : Nat) : Int)))) 58)).get a = some (.own [.int .i64 (first + ((j + 1 : Nat) : Int)), .slice ad0 rs.length z0, .int .i64 fast, .int .i64 mark] 58) := by rw [get_set_same]; rfl
    have s2 := Same.set σ1 a (.own (List.set [.int .i64 first, .slice ad0 rs.length z0, .int .i64 fast, .int .i64 mark] 0 (.int .i64 (first + ((j + 1 : Nat) : Int)))) 58)
    generalize σ1.set a (.own (List.set [.int .i64 first, .slice ad0 rs.length z0, .int .i64 fast, .int .i64 mark] 0 (.int .i64 (first + ((j + 1 : Nat) : Int)))) 58) = σ2 at g2 s2
    rw [put_int g2 3 _ _ (by simp)]
    have g3 : (σ2.set a (.own (List.set [.int .i64 (first + ((j + 1 : Nat) : Int)), .slice ad0 rs.length z0, .int .i64 fast, .int .i64 mark] 3 (.int .i64 m)) 58)).get a = some (.own [.int .i64 (first + ((j + 1 : Nat) : Int)), .slice ad0 rs.length z0, .int .i64 fast, .int .i64 m] 58) := by rw [get_set_same]; rfl
    have s3 := Same.set σ2 a (.own (List.set [.int .i64 (first + ((j + 1 : Nat) : Int)), .slice ad0 rs.length z0, .int .i64 fast, .int .i64 mark] 3 (.int .i64 m)) 58)
    generalize σ2.set a (.own (List.set [.int .i64 (first + ((j + 1 : Nat) : Int)), .slice ad0 rs.length z0, .int .i64 fast, .int .i64 mark] 3 (.int .i64 m)) 58) = σ3 at g3 s3
    rw [ld_at g3 2 _ rfl, asI_i, wrap_in _ (by omega) (by omega), put_int g3 2 _ _ (by simp), show (fast : Int) - ((j + 1 : Nat) : Int) = ((fast - (j + 1) : Nat) : Int) by omega]
    have g4 : (σ3.set a (.own (List.set [.int .i64 (first + ((j + 1 : Nat) : Int)), .slice ad0 rs.length z0, .int .i64 fast, .int .i64 m] 2 (.int .i64 ((fast - (j + 1) : Nat) : Int))) 58)).get a = some (.own [.int .i64 (first + ((j + 1 : Nat) : Int)), .slice ad0 rs.length z0, .int .i64 ((fast - (j + 1) : Nat) : Int), .int .i64 m] 58) := by rw [get_set_same]; rfl
    have s4 := Same.set σ3 a (.own (List.set [.int .i64 (first + ((j + 1 : Nat) : Int)), .slice ad0 rs.length z0, .int .i64 fast, .int .i64 m] 2 (.int .i64 ((fast - (j + 1) : Nat) : Int))) 58)
    generalize σ3.set a (.own (List.set [.int .i64 (first + ((j + 1 : Nat) : Int)), .slice ad0 rs.length z0, .int .i64 fast, .int .i64 m] 2 (.int .i64 ((fast - (j + 1) : Nat) : Int))) 58) = σ4 at g4 s4
    have s14 := (s2.trans s3).trans s4
    have hrow4 := hrow.same s14 (fun q hq => by simp; rintro rfl; exact hne hq)
    have n14 := s14.1
    rw [ld_at g4 1 _ rfl, asSl_s, need_of (by rcases hrow.z with e | e <;> rw [e] <;> rfl), need_of (by simp [inRange]; omega)]
    obtain ⟨ad5, z5, q5, σ5, g5, hR5, hs5, hq5⟩ := clone_spec L (k + 2) (by omega) hrow4 (j + 1) (rs.length - (j + 1)) (by omega) (subA ad0 ((j + 1) * 5)) rfl
    rw [show Int.toNat ((j + 1 : Nat) : Int) = j + 1 from rfl, g5, bnd_some, asSl_s]
    have g5' : σ5.get a = _ := (hs5.2 a (by omega) (by simp)).trans g4
    have n5 := hs5.1
    rw [put_sl g5' 1 _ _ _ (by simp)]
    have hne5 : a ∉ q5 := fun hx => by have := hq5 a hx; omega
    have s6 := Same.set σ5 a (.own (List.set [.int .i64 (first + ((j + 1 : Nat) : Int)), .slice ad0 rs.length z0, .int .i64 ((fast - (j + 1) : Nat) : Int), .int .i64 m] 1 (.slice ad5 (rs.length - (j + 1)) z5)) 58)
    have hdl : (rs.drop (j + 1)).length = rs.length - (j + 1) := List.length_drop
    rw [List.take_of_length_le (by rw [hdl]; exact Nat.le_refl _)] at hR5
    refine .inl ⟨j, r, a :: q5, _, rfl, ⟨⟨q5, ad5, z5, rfl, hne5, by rw [get_set_same, hdl]; rfl, hR5.same s6 (fun q hq => by simp; rintro rfl; exact hne5 hq)⟩, fun q hq => ?_⟩, ⟨⟨by have := hs1.1; simp; omega, fun b hb hS => ?_⟩, fun q hq => ?_⟩, hjf, hj, hh, hno⟩
    · rcases List.mem_cons.1 hq with rfl | hq
      · simp; omega
      · have := hR5.lt q hq; simpa using this
    · simp only [List.mem_cons, not_or] at hS
      have := hs1.1
      rw [s6.2 b (by omega) (by simp; exact hS.1), hs5.2 b (by omega) (by simp), s14.2 b (by omega) (by simp; exact hS.1), hs1.2 b hb (by simp)]
    · rcases List.mem_cons.1 hq with rfl | hq
      · exact ⟨.inl (by simp), by simp; omega⟩
      · exact ⟨.inr (by have := hq5 q hq; have := hs1.1; omega), by have := hR5.lt q hq; simpa using this⟩
  · rw [g1, bnd_some, asT_t, toList2, uncons_c, asSl_s, uncons_c, asB_b, endl_n, not_false, br_true, f34_eq, eqNil_iface, br_false]
    have he : eqErr (.iface 35 (.int .i64 8)) 35 .i64 0 (fun v2 => br v2 (some (Value.nilIface, σ1)) (need true (need (oneCell (.iface 35 (.int .i64 8))) (need true (some (Value.iface 68 (Value.pointer (some ⟨σ1.next, 0, none⟩)), σ1.new (Blk.own [Value.string ⟨#[115, 116, 97, 103, 101]⟩, Value.int .i64 m, .iface 35 (.int .i64 8)] 70))))))) =
        some (Value.iface 68 (Value.pointer (some ⟨σ1.next, 0, none⟩)), σ1.new (Blk.own [Value.string ⟨#[115, 116, 97, 103, 101]⟩, Value.int .i64 m, .iface 35 (.int .i64 8)] 70)) := by
      simp [eqErr, oneCell]
    rw [he, bnd_some]
    exact .inr ⟨_, _, rfl, ⟨_, rfl, get_new_same _ _, by simp⟩, hs1.trans (Same.new _ _ _), hno⟩
end

end Go.AM.Sp
