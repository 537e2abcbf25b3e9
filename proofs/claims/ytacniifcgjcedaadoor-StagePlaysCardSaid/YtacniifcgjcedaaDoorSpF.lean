/-
  THE DOCUMENT'S STAGE, call by call; what a record must be, in both.
-/
import Derived.Test.YtacniifcgjcedaaDoorSpD
set_option linter.unusedVariables false
set_option linter.unusedSimpArgs false
set_option linter.unusedSectionVars false
namespace Go.AM.Sp
open Go.Proofs

/-! ### Records that can be -/
def Can (r : Rec) : Prop := (1 ≤ r.seq ∧ r.seq ≤ 1152921504606846975) ∧
  ((r.kind = 1 ∧ 0 ≤ r.block ∧ r.block ≤ 7 ∧ r.data.size ≤ 16 ∧ r.number = 0) ∨ (r.kind = 2 ∧ r.block = 0 ∧ r.data.size = 0 ∧ 1 ≤ r.number ∧ r.number ≤ 1152921504606846975))
instance (r : Rec) : Decidable (Can r) := inferInstanceAs (Decidable (_ ∧ _))
theorem empty_eq (s : ByteArray) : (s.toList == ByteArray.toList ⟨#[]⟩) = decide (s.size = 0) := by
  rw [ByteArray.toList_eq, ByteArray.toList_eq]
  have h : s.size = s.data.toList.length := by rw [Array.length_toList]; rfl
  rw [h]
  cases hl : s.data.toList with
  | nil => rfl
  | cons a l => rfl
theorem bq (a b : Int) : (a == b) = decide (a = b) := by
  by_cases h : a = b
  · rw [decide_eq_true h]; simpa using h
  · rw [decide_eq_false h]; simpa using h
theorem can_leaf {r : Rec} {b : Bool} {σ σ' : St} (h : (b = true) ↔ Can r) (hs : Same σ σ' []) : Ends (fun v σ' => v = .bool (decide (Can r)) ∧ Same σ σ' []) (some (.bool b, σ')) := by
  refine .leaf ⟨?_, hs⟩
  congr 1
  by_cases hc : Can r
  · rw [decide_eq_true hc]; exact h.2 hc
  · rw [decide_eq_false hc]
    cases b
    · rfl
    · exact absurd (h.1 rfl) hc

set_option maxRecDepth 4000 in
theorem right_is (L k : Nat) (σ : St) (r : Rec) : Ends (fun v σ' => v = .bool (decide (Can r)) ∧ Same σ σ' []) (evCall Tryd.prog env L (k + 2) 32 [r.agg] σ) := by
  unfold Rec.agg
  rw [f32_eq]
  generalize hσ1 : σ.new (Blk.own [Value.int IntKind.i64 r.seq, Value.int IntKind.i64 r.kind, Value.int IntKind.i64 r.block, Value.string r.data, Value.int IntKind.i64 r.number] 23) = σ1
  have hn : σ1.get σ.next = some (Blk.own [Value.int IntKind.i64 r.seq, Value.int IntKind.i64 r.kind, Value.int IntKind.i64 r.block, Value.string r.data, Value.int IntKind.i64 r.number] 23) := by rw [← hσ1, get_new_same]
  have hs1 : Same σ σ1 [] := by rw [← hσ1]; exact Same.new _ _ _
  have hx1 : σ1.next = σ.next + 1 := by rw [← hσ1]; rfl
  have hput := fun K => put_int hn 4 .i64 0 (by simp) K
  generalize hσ2 : σ1.set σ.next (.own (List.set [Value.int IntKind.i64 r.seq, Value.int IntKind.i64 r.kind, Value.int IntKind.i64 r.block, Value.string r.data, Value.int IntKind.i64 r.number] 4 (.int .i64 0)) 23) = σ2 at hput
  have hn2 : σ2.get σ.next = some (Blk.own [Value.int IntKind.i64 r.seq, Value.int IntKind.i64 r.kind, Value.int IntKind.i64 r.block, Value.string r.data, Value.int IntKind.i64 0] 23) := by rw [← hσ2, get_set_same]; rfl
  have hs2 : Same σ σ2 [] := ⟨by rw [← hσ2]; simp [hx1], fun k hk _ => by rw [← hσ2, get_set (by omega), hs1.2 k hk (by simp)]⟩
  have a0 := fun K => ld_at hn 0 _ rfl K
  have a1 := fun K => ld_at hn 1 _ rfl K
  have a2 := fun K => ld_at hn 2 _ rfl K
  have a3 := fun K => ld_at hn 3 _ rfl K
  have a4 := fun K => ld_at hn 4 _ rfl K
  have b1 := fun K => ld_at hn2 1 _ rfl K
  have b2 := fun K => ld_at hn2 2 _ rfl K
  have b3 := fun K => ld_at hn2 3 _ rfl K
  have b4 := fun K => ld_at hn2 4 _ rfl K
  simp only [a0, a1, a2, a3, a4, b1, b2, b3, b4, asI_i, asS_s, num_spec, bnd_some, asB_b, hput, empty_eq, bq]
  unfold Can
  repeat' first
    | refine can_leaf ?_ hs1
    | refine can_leaf ?_ hs2
    | refine Ends.br (fun h => ?_) (fun h => ?_)
  all_goals
    simp only [decide_eq_true_eq, decide_eq_false_iff_not, Bool.and_eq_true, Bool.and_eq_false_iff, Bool.false_eq_true, false_iff, true_iff, Can] at *
  all_goals first | omega | (exfalso; rename_i h; exact h trivial)

set_option maxRecDepth 4000 in
theorem rright_is (L k : Nat) (σ : St) (r : Rec) : Ends (fun v σ' => v = .bool (decide (Can r)) ∧ Same σ σ' []) (evCall Tryd.prog env L (k + 1) 35 [r.agg] σ) := by
  unfold Rec.agg
  rw [f35_eq]
  generalize hσ1 : σ.new (Blk.own [Value.int IntKind.i64 r.seq, Value.int IntKind.i64 r.kind, Value.int IntKind.i64 r.block, Value.string r.data, Value.int IntKind.i64 r.number] 23) = σ1
  have hn : σ1.get σ.next = some (Blk.own [Value.int IntKind.i64 r.seq, Value.int IntKind.i64 r.kind, Value.int IntKind.i64 r.block, Value.string r.data, Value.int IntKind.i64 r.number] 23) := by rw [← hσ1, get_new_same]
  have hs1 : Same σ σ1 [] := by rw [← hσ1]; exact Same.new _ _ _
  have a0 := fun K => ld_at hn 0 _ rfl K
  have a1 := fun K => ld_at hn 1 _ rfl K
  have a2 := fun K => ld_at hn 2 _ rfl K
  have a3 := fun K => ld_at hn 3 _ rfl K
  have a4 := fun K => ld_at hn 4 _ rfl K
  simp only [a0, a1, a2, a3, a4, asI_i, asS_s, bnd_some, asB_b, empty_eq, bq]
  repeat' first
    | refine can_leaf ?_ hs1
    | refine Ends.br (fun h => ?_) (fun h => ?_)
  all_goals
    simp only [decide_eq_true_eq, decide_eq_false_iff_not, Bool.and_eq_true, Bool.and_eq_false_iff, Bool.false_eq_true, false_iff, true_iff, Can] at *
  all_goals first | omega | (exfalso; rename_i h; exact h trivial)

/-! ### The document's stage -/
structure Ref (σ : St) (a : Nat) (F : List Nat) (first : Int) (rs : List Rec) (fast : Nat) (mark : Int) : Prop where
  ex : ∃ qs ad z, F = a :: qs ∧ a ∉ qs ∧ σ.get a = some (.own [.int .i64 first, .int .i64 fast, .int .i64 mark, .slice ad rs.length z] 50) ∧ Row c5 5 23 σ ad z qs rs
  lt : ∀ q ∈ F, q < σ.next
theorem Ref.same {σ σ' : St} {a : Nat} {F S : List Nat} {first mark : Int} {rs : List Rec} {fast : Nat} (h : Ref σ a F first rs fast mark) (hs : Same σ σ' S) (hF : ∀ q ∈ F, q ∉ S) : Ref σ' a F first rs fast mark := by
  obtain ⟨qs, ad, z, rfl, h1, h2, h3⟩ := h.ex
  exact ⟨⟨qs, ad, z, rfl, h1, by rw [hs.2 a (h.lt a (by simp)) (hF a (by simp))]; exact h2, h3.same hs (fun q hq => hF q (by simp [hq]))⟩, fun q hq => by have := h.lt q hq; have := hs.1; omega⟩
theorem Ref.idle {σ σ' : St} {a : Nat} {F : List Nat} {first mark : Int} {rs : List Rec} {fast : Nat} (h : Ref σ a F first rs fast mark) (hs : Same σ σ' []) : Ref σ' a F first rs fast mark := h.same hs (by simp)

def Small (first : Int) (n : Nat) : Prop := 1 ≤ first ∧ first ≤ 1152921504607846976 ∧ n ≤ 1000

section
variable {σ : St} {a : Nat} {F : List Nat} {first mark : Int} {rs : List Rec} {fast : Nat} (h : Ref σ a F first rs fast mark) (L k : Nat) (hb : Small first rs.length)
include h
include hb in
theorem taken_spec : evCall Tryd.prog env L (k + 1) 19 [.pointer (some ⟨a, 0, none⟩)] σ = some (.int .i64 (first + rs.length - 1), σ) := by
  obtain ⟨qs, ad, z, rfl, hne, hg, hrow⟩ := h.ex
  obtain ⟨h0, h1, h2⟩ := hb
  rw [f19_eq, ld_at hg 0 _ rfl, asI_i, ld_at hg 3 _ rfl, asSl_s, wrap_in (first + (rs.length : Int)) (by omega) (by omega), wrap_in _ (by omega) (by omega)]

include hb in
theorem rtake_spec (hl9 : rs.length ≤ 999) (r : Rec) : ∃ (rs' : List Rec) (F' : List Nat) (σ' : St), evCall Tryd.prog env L (k + 2) 20 [.pointer (some ⟨a, 0, none⟩), r.agg] σ = some (.int .i64 (first + rs'.length - 1), σ') ∧ Ref σ' a F' first rs' fast mark ∧ Turn σ σ' F F' ∧ rs' = if Can r ∧ r.seq = first + rs.length then rs ++ [r] else rs := by
  have hb' := hb
  obtain ⟨h0, h1, hl⟩ := hb
  have hagg : r.agg = .agg [.int .i64 r.seq, .int .i64 r.kind, .int .i64 r.block, .string r.data, .int .i64 r.number].toArray := rfl
  rw [hagg, f20_eq]
  generalize hσ1 : σ.new (Blk.own [Value.int IntKind.i64 r.seq, Value.int IntKind.i64 r.kind, Value.int IntKind.i64 r.block, Value.string r.data, Value.int IntKind.i64 r.number] 23) = σ1
  have hn1 : σ1.get σ.next = some (Blk.own [Value.int IntKind.i64 r.seq, Value.int IntKind.i64 r.kind, Value.int IntKind.i64 r.block, Value.string r.data, Value.int IntKind.i64 r.number] 23) := by rw [← hσ1, get_new_same]
  have hs1 : Same σ σ1 [] := by rw [← hσ1]; exact Same.new _ _ _
  have hx1 : σ1.next = σ.next + 1 := by rw [← hσ1]; rfl
  obtain ⟨v, σ2, g2, rfl, hs2⟩ := rright_is L k σ1 r
  have hs12 := hs1.trans hs2
  have hn2 : σ2.get σ.next = some (Blk.own [Value.int IntKind.i64 r.seq, Value.int IntKind.i64 r.kind, Value.int IntKind.i64 r.block, Value.string r.data, Value.int IntKind.i64 r.number] 23) := by rw [hs2.2 _ (by omega) (by simp)]; exact hn1
  have h2 := h.idle hs12
  rw [lds_all (n := 5) hn1 rfl, uncons_c, asI_i, uncons_c, asI_i, uncons_c, asI_i, uncons_c, asS_s, uncons_c, asI_i, endl_n, show Value.agg #[Value.int .i64 r.seq, .int .i64 r.kind, .int .i64 r.block, .string r.data, .int .i64 r.number] = r.agg from rfl, g2, bnd_some, asB_b]
  by_cases hc : Can r
  rotate_left
  · rw [decide_eq_false hc, br_false, taken_spec h2 L k hb', bnd_some, asI_i, if_neg (fun hh => hc hh.1)]
    exact ⟨rs, F, σ2, rfl, h2, .idle hs12 h.lt, rfl⟩
  have hq1 : r.seq ≤ 1152921504606846975 := hc.1.2
  rw [decide_eq_true hc, br_true, ld_at hn2 0 _ rfl, asI_i, taken_spec h2 L k hb', bnd_some, asI_i, ld_at hn2 0 _ rfl, asI_i, chk_same, wrap_in (first + (rs.length : Int) - 1 + 1) (by omega) (by omega)]
  by_cases hq : r.seq = first + rs.length
  rotate_left
  · rw [show (r.seq == first + (rs.length : Int) - 1 + 1) = false by rw [bq]; exact decide_eq_false (by omega), br_false, taken_spec h2 L k hb', bnd_some, asI_i, if_neg (fun hh => hq hh.2)]
    exact ⟨rs, F, σ2, rfl, h2, .idle hs12 h.lt, rfl⟩
  obtain ⟨qs, ad, z, rfl, hne, hg, hrow⟩ := h.ex
  have hlt := h.lt
  have hal := hlt a (by simp)
  have hg2 : σ2.get a = _ := (hs12.2 a hal (by simp)).trans hg
  rw [show (r.seq == first + (rs.length : Int) - 1 + 1) = true by rw [bq]; exact decide_eq_true (by omega), br_true, ld_at hg2 3 _ rfl, asSl_s, lds_all (n := 5) hn2 rfl, uncons_c, asI_i, uncons_c, asI_i, uncons_c, asI_i, uncons_c, asS_s, uncons_c, asI_i, endl_n]
  generalize hσ3 : σ2.new (Blk.own [Value.int IntKind.i64 r.seq, Value.int IntKind.i64 r.kind, Value.int IntKind.i64 r.block, Value.string r.data, Value.int IntKind.i64 r.number] 23) = σ3
  have hn3 : σ3.get σ2.next = some (Blk.own [Value.int IntKind.i64 r.seq, Value.int IntKind.i64 r.kind, Value.int IntKind.i64 r.block, Value.string r.data, Value.int IntKind.i64 r.number] 23) := by rw [← hσ3, get_new_same]
  have hs3 : Same σ2 σ3 [] := by rw [← hσ3]; exact Same.new _ _ _
  have hs13 := hs12.trans hs3
  have h3n := hs13.1
  have h3n' := hs3.1
  have hg3 : σ3.get a = _ := (hs13.2 a hal (by simp)).trans hg
  have hrow3 := hrow.same hs13 (fun _ _ => by simp)
  rw [ld_at hg3 3 _ rfl, asSl_s, chk_same, row_all (n := 5) hn3 rfl (by omega)]
  obtain ⟨ad', z', qs', σ4, hgrow, hrow4, hs4, hq4⟩ := grow_row (by_ := 48) hrow3 c5_len c5_one (by omega) [r] (c5 r) (by simp) 1 rfl (by unfold roomTop; omega) (by unfold sizeTop; omega)
  have hgr := hgrow
  rw [show c5 r = [Value.int IntKind.i64 r.seq, Value.int IntKind.i64 r.kind, Value.int IntKind.i64 r.block, Value.string r.data, Value.int IntKind.i64 r.number] from rfl] at hgr
  rw [hgr]
  have hg4 : σ4.get a = _ := (hs4.2 a (by omega) hne).trans hg3
  have h4n := hs4.1
  rw [put_sl hg4 3 _ _ _ (by simp)]
  have hs5 := Same.set σ4 a (.own (List.set [Value.int .i64 first, .int .i64 fast, .int .i64 mark, .slice ad rs.length z] 3 (.slice ad' (rs.length + 1) z')) 50)
  have hne' : a ∉ qs' := fun hx => by
    rcases hq4 a hx with hx | hx
    · exact hne hx
    · omega
  have hR5 : Ref (σ4.set a (.own (List.set [Value.int .i64 first, .int .i64 fast, .int .i64 mark, .slice ad rs.length z] 3 (.slice ad' (rs.length + 1) z')) 50)) a (a :: qs') first (rs ++ [r]) fast mark :=
    ⟨⟨qs', ad', z', rfl, hne', by rw [get_set_same, List.length_append]; rfl, hrow4.same hs5 (fun q hq => by simp; rintro rfl; exact hne' hq)⟩, fun q hq => by
      rcases List.mem_cons.1 hq with rfl | hq
      · simp; omega
      · have := hrow4.lt q hq; simpa using this⟩
  rw [taken_spec hR5 L k ⟨h0, h1, by simp; omega⟩, bnd_some, asI_i, if_pos ⟨hc, hq⟩]
  refine ⟨rs ++ [r], a :: qs', _, rfl, hR5, ⟨⟨by simp; omega, fun j hj hS => ?_⟩, fun q hq => ?_⟩, rfl⟩
  · simp only [List.mem_cons, not_or] at hS
    rw [hs5.2 j (by omega) (by simp; exact hS.1), hs4.2 j (by omega) hS.2, hs13.2 j hj (by simp)]
  · refine ⟨?_, hR5.lt q hq⟩
    rcases List.mem_cons.1 hq with rfl | hq
    · exact .inl (by simp)
    · rcases hq4 q hq with hq | hq
      · exact .inl (by simp [hq])
      · exact .inr (by omega)

theorem rcrash_spec (hf : fast ≤ rs.length) (hl : rs.length ≤ 1000) (keep : Int) : ∃ (n : Nat) (σ' : St), evCall Tryd.prog env L (k + 1) 21 [.pointer (some ⟨a, 0, none⟩), .int .i64 keep] σ = some (.tuple #[], σ') ∧ (n : Int) = fast + mx 0 (mn keep (rs.length - fast)) ∧ n ≤ rs.length ∧ Ref σ' a F first (rs.take n) n mark ∧ Turn σ σ' F F := by
  obtain ⟨qs, ad, z, rfl, hne, hg, hrow⟩ := h.ex
  have hlt := h.lt
  rw [f21_eq]
  simp only [ld_at hg 1 _ rfl, ld_at hg 3 _ rfl, asSl_s, asI_i, put_int hg 1 _ _ (by simp)]
  rw [wrap_in ((rs.length : Int) - fast) (by omega) (by omega)]
  obtain ⟨m, hm⟩ : ∃ m : Nat, mx 0 (mn keep ((rs.length : Int) - fast)) = m := Int.eq_ofNat_of_zero_le (by unfold mx mn; split <;> split <;> omega)
  have hm2 : fast + m ≤ rs.length := by revert hm; unfold mx mn; split <;> split <;> omega
  rw [hm, wrap_in ((fast : Int) + m) (by omega) (by omega), show ((fast : Int) + m) = ((fast + m : Nat) : Int) by omega]
  have hmn : ((fast + m : Nat) : Int) = fast + mx 0 (mn keep (rs.length - fast)) := by rw [hm]; omega
  generalize fast + m = n at hm2 hmn
  generalize hσ1 : σ.set a (.own (List.set [Value.int .i64 first, .int .i64 fast, .int .i64 mark, .slice ad rs.length z] 1 (.int .i64 (n : Int))) 50) = σ1
  have hg1 : σ1.get a = some (.own [Value.int .i64 first, .int .i64 n, .int .i64 mark, .slice ad rs.length z] 50) := by rw [← hσ1, get_set_same]; rfl
  have hs1 : Same σ σ1 [a] := by rw [← hσ1]; exact Same.set _ _ _
  have hz : (Nat.beq z 0 || Nat.beq z 5) = true := by rcases hrow.z with e | e <;> rw [e] <;> rfl
  simp only [ld_at hg1 1 _ rfl, ld_at hg1 3 _ rfl, asSl_s, asI_i]
  rw [need_of hz, need_of (by simp [inRange]; omega), put_sl hg1 3 _ _ _ (by simp)]
  rw [hrow.sub0, show Int.toNat ((n : Nat) : Int) - 0 = n by simp]
  have hs2 := Same.set σ1 a (.own (List.set [Value.int .i64 first, .int .i64 n, .int .i64 mark, .slice ad rs.length z] 3 (.slice ad n z)) 50)
  have hrow1 : Row c5 5 23 σ1 ad z qs rs := hrow.same hs1 (fun q hq => by simp; rintro rfl; exact hne hq)
  have hrow2 := (hrow1.same hs2 (fun q hq => by simp; rintro rfl; exact hne hq)).take n
  have htl : (rs.take n).length = n := by rw [List.length_take]; omega
  refine ⟨n, _, rfl, rfl, hm2, ⟨⟨qs, ad, z, rfl, hne, by rw [get_set_same, htl]; rfl, hrow2⟩, fun q hq => by have := hlt q hq; have := hs1.1; simp; omega⟩, (hs1.trans hs2).mono (by simp), fun q hq => ⟨.inl hq, by have := hlt q hq; have := hs1.1; simp; omega⟩⟩

/-- The first marker of a number: at which place. -/
theorem rupto_loop (hf : fast ≤ rs.length) (hl : rs.length ≤ 1000) (m : Int) : ∀ (n i : Nat), i ≤ fast → fast - i < n → (∀ j r, j < i → rs[j]? = some r → ¬ Hit m r) →
    (∃ (j : Nat) (r : Rec), lpAt Tryd.prog env L k 22 [true, false, true] [] n [(0, .pointer (some ⟨a, 0, none⟩)), (1, .int .i64 m), (5, .int .i64 i)] σ = some (.int .i64 (j + 1 : Nat), σ) ∧ j < fast ∧ rs[j]? = some r ∧ Hit m r ∧ ∀ j' r', j' < j → rs[j']? = some r' → ¬ Hit m r') ∨
    (lpAt Tryd.prog env L k 22 [true, false, true] [] n [(0, .pointer (some ⟨a, 0, none⟩)), (1, .int .i64 m), (5, .int .i64 i)] σ = some (.int .i64 (-1), σ) ∧ ∀ j r, j < fast → rs[j]? = some r → ¬ Hit m r)
  | 0, i, _, hn, _ => by omega
  | n + 1, i, hi, hn, hno => by
    obtain ⟨qs, ad, z, hF, hne, hg, hrow⟩ := h.ex
    rw [f22_l2, ld_at hg (0 + 1) _ rfl, asI_i]
    by_cases hie : i = fast
    · rw [decide_eq_false (by omega), br_false]
      exact .inr ⟨rfl, by rw [← hie]; exact hno⟩
    · have hget : rs[i]? = some rs[i] := List.getElem?_eq_getElem (by omega)
      obtain ⟨q, e, hat⟩ := hrow.at c5_len hget
      generalize rs[i] = r at hat hget
      have hw : IntKind.wrap .i64 ((i : Int) + 1) = ((i + 1 : Nat) : Int) := by rw [wrap_in _ (by omega) (by omega)]; omega
      rw [decide_eq_true (by omega), br_true, ld_at hg (0 + 3) _ rfl, asSl_s, need_of (by simp [inRange]; omega), e, adr_some, hat 1 (.int .i64 r.kind) _ (by omega) rfl (by simp), asI_i, bq]
      have next : ¬ Hit m r → _ := fun hh => rupto_loop hf hl m n (i + 1) (by omega) (by omega) (fun j r' hj hr' => by
        by_cases hji : j = i
        · subst hji; rw [hget] at hr'; cases hr'; exact hh
        · exact hno j r' (by omega) hr')
      by_cases hk : r.kind = 2
      · rw [decide_eq_true hk, br_true, ld_at hg (0 + 3) _ rfl, asSl_s, need_of (by simp [inRange]; omega), e, adr_some, hat 4 (.int .i64 r.number) _ (by omega) rfl (by simp), asI_i, hw, bq]
        by_cases hm : r.number = m
        · rw [decide_eq_true hm, br_true]
          exact .inl ⟨i, r, rfl, by omega, hget, ⟨hk, hm⟩, hno⟩
        · rw [decide_eq_false hm, br_false]
          exact next (fun hh => hm hh.2)
      · rw [decide_eq_false hk, br_false, hw]
        exact next (fun hh => hk hh.1)
theorem rupto_spec (hL : 1000 < L) (hf : fast ≤ rs.length) (hl : rs.length ≤ 1000) (m : Int) :
    (∃ (j : Nat) (r : Rec), evCall Tryd.prog env L (k + 1) 22 [.pointer (some ⟨a, 0, none⟩), .int .i64 m] σ = some (.int .i64 (j + 1 : Nat), σ) ∧ j < fast ∧ rs[j]? = some r ∧ Hit m r ∧ ∀ j' r', j' < j → rs[j']? = some r' → ¬ Hit m r') ∨
    (evCall Tryd.prog env L (k + 1) 22 [.pointer (some ⟨a, 0, none⟩), .int .i64 m] σ = some (.int .i64 (-1), σ) ∧ ∀ j r, j < fast → rs[j]? = some r → ¬ Hit m r) := by
  rw [f22_eq]
  exact rupto_loop h L k hf hl m L 0 (by omega) (by omega) (fun j r hj => by omega)

include hb in
theorem rdrop_spec (hL : 1000 < L) (hf : fast ≤ rs.length) (m : Int) :
    (∃ (j : Nat) (r : Rec) (F' : List Nat) (σ' : St), evCall Tryd.prog env L (k + 2) 25 [.pointer (some ⟨a, 0, none⟩), .int .i64 m] σ = some (.int .i64 0, σ') ∧ Ref σ' a F' (first + (j + 1 : Nat)) (rs.drop (j + 1)) (fast - (j + 1)) m ∧ Turn σ σ' F F' ∧ j < fast ∧ rs[j]? = some r ∧ Hit m r ∧ ∀ j' r', j' < j → rs[j']? = some r' → ¬ Hit m r') ∨
    (evCall Tryd.prog env L (k + 2) 25 [.pointer (some ⟨a, 0, none⟩), .int .i64 m] σ = some (.int .i64 8, σ) ∧ ∀ j r, j < fast → rs[j]? = some r → ¬ Hit m r) := by
  obtain ⟨h0, h1, hl⟩ := hb
  rw [f25_eq]
  rcases rupto_spec h L k hL hf hl m with ⟨j, r, g, hj, hr, hh, hno⟩ | ⟨g, hno⟩
  rotate_left
  · rw [g, bnd_some, asI_i, show decide ((-1 : Int) < 0) = true from rfl, br_true]
    exact .inr ⟨rfl, hno⟩
  obtain ⟨qs, ad, z, rfl, hne, hg, hrow⟩ := h.ex
  have hlt := h.lt
  have hal := hlt a (by simp)
  rw [g, bnd_some, asI_i, decide_eq_false (by omega), br_false, put_int hg 2 _ _ (by simp)]
  have g2 : (σ.set a (.own (List.set [.int .i64 first, .int .i64 fast, .int .i64 mark, .slice ad rs.length z] 2 (.int .i64 m)) 50)).get a = some (.own [.int .i64 first, .int .i64 fast, .int .i64 m, .slice ad rs.length z] 50) := by rw [get_set_same]; rfl
  have s2 := Same.set σ a (.own (List.set [.int .i64 first, .int .i64 fast, .int .i64 mark, .slice ad rs.length z] 2 (.int .i64 m)) 50)
  have e2 : (σ.set a (.own (List.set [.int .i64 first, .int .i64 fast, .int .i64 mark, .slice ad rs.length z] 2 (.int .i64 m)) 50)).next = σ.next := rfl
  generalize σ.set a (.own (List.set [.int .i64 first, .int .i64 fast, .int .i64 mark, .slice ad rs.length z] 2 (.int .i64 m)) 50) = σ2 at g2 s2 e2
  rw [ld_at g2 0 _ rfl, asI_i, wrap_in (first + ((j + 1 : Nat) : Int)) (by omega) (by omega), put_int g2 0 _ _ (by simp)]
  have g3 : (σ2.set a (.own (List.set [.int .i64 first, .int .i64 fast, .int .i64 m, .slice ad rs.length z] 0 (.int .i64 (first + ((j + 1 : Nat) : Int)))) 50)).get a = some (.own [.int .i64 (first + ((j + 1 : Nat) : Int)), .int .i64 fast, .int .i64 m, .slice ad rs.length z] 50) := by rw [get_set_same]; rfl
  have s3 := Same.set σ2 a (.own (List.set [.int .i64 first, .int .i64 fast, .int .i64 m, .slice ad rs.length z] 0 (.int .i64 (first + ((j + 1 : Nat) : Int)))) 50)
  have e3 : (σ2.set a (.own (List.set [.int .i64 first, .int .i64 fast, .int .i64 m, .slice ad rs.length z] 0 (.int .i64 (first + ((j + 1 : Nat) : Int)))) 50)).next = σ2.next := rfl
  generalize σ2.set a (.own (List.set [.int .i64 first, .int .i64 fast, .int .i64 m, .slice ad rs.length z] 0 (.int .i64 (first + ((j + 1 : Nat) : Int)))) 50) = σ3 at g3 s3 e3
  rw [ld_at g3 1 _ rfl, asI_i, wrap_in _ (by omega) (by omega), put_int g3 1 _ _ (by simp), show (fast : Int) - ((j + 1 : Nat) : Int) = ((fast - (j + 1) : Nat) : Int) by omega]
  have g4 : (σ3.set a (.own (List.set [.int .i64 (first + ((j + 1 : Nat) : Int)), .int .i64 fast, .int .i64 m, .slice ad rs.length z] 1 (.int .i64 ((fast - (j + 1) : Nat) : Int))) 50)).get a = some (.own [.int .i64 (first + ((j + 1 : Nat) : Int)), .int .i64 ((fast - (j + 1) : Nat) : Int), .int .i64 m, .slice ad rs.length z] 50) := by rw [get_set_same]; rfl
  have s4 := Same.set σ3 a (.own (List.set [.int .i64 (first + ((j + 1 : Nat) : Int)), .int .i64 fast, .int .i64 m, .slice ad rs.length z] 1 (.int .i64 ((fast - (j + 1) : Nat) : Int))) 50)
  have e4 : (σ3.set a (.own (List.set [.int .i64 (first + ((j + 1 : Nat) : Int)), .int .i64 fast, .int .i64 m, .slice ad rs.length z] 1 (.int .i64 ((fast - (j + 1) : Nat) : Int))) 50)).next = σ3.next := rfl
  generalize σ3.set a (.own (List.set [.int .i64 (first + ((j + 1 : Nat) : Int)), .int .i64 fast, .int .i64 m, .slice ad rs.length z] 1 (.int .i64 ((fast - (j + 1) : Nat) : Int))) 50) = σ4 at g4 s4 e4
  have s14 := (s2.trans s3).trans s4
  have hrow4 := hrow.same s14 (fun q hq => by simp; rintro rfl; exact hne hq)
  generalize hσ5 : σ4.new (Blk.own [] 23) = σ5
  have hs5 : Same σ4 σ5 [] := by rw [← hσ5]; exact Same.new _ _ _
  have n5 : σ5.next = σ4.next + 1 := by rw [← hσ5]; rfl
  have g5 : σ5.get a = _ := (hs5.2 a (by omega) (by simp)).trans g4
  have hE : Row c5 5 23 σ5 (some ⟨σ4.next, 0, none⟩) 5 [σ4.next] [] := ⟨by rw [← hσ5]; simp, .inr ⟨σ4.next, [], rfl, rfl, rfl, by rw [← hσ5, get_new_same]; rfl⟩⟩
  have hrow5 := hrow4.same hs5 (by simp)
  have hdl : (rs.drop (j + 1)).length = rs.length - (j + 1) := List.length_drop
  obtain ⟨ad6, z6, q6, σ6, hgrow, hR6, hs6, hq6⟩ := grow_row (by_ := 48) hE c5_len c5_one (by omega) (rs.drop (j + 1)) ((rs.drop (j + 1)).flatMap c5) rfl (rs.length - (j + 1)) hdl.symm (by unfold roomTop; simp; omega) (by unfold sizeTop; simp; omega)
  rw [ld_at g5 3 _ rfl, asSl_s, need_of (by rcases hrow.z with e | e <;> rw [e] <;> rfl), need_of (by simp [inRange]; omega), show Int.toNat ((j + 1 : Nat) : Int) = j + 1 from rfl, hrow5.part c5_len (j + 1) (rs.length - (j + 1)) (by omega) ((j + 1) * 5) ((rs.length - (j + 1)) * 5) rfl rfl, List.take_of_length_le (by rw [hdl]; exact Nat.le_refl _)]
  have hgr := hgrow
  rw [List.length_nil] at hgr
  rw [hgr, Nat.zero_add]
  rw [List.nil_append] at hR6
  have g6 : σ6.get a = _ := (hs6.2 a (by omega) (by simp; omega)).trans g5
  have n6 := hs6.1
  rw [put_sl g6 3 _ _ _ (by simp)]
  have hne6 : a ∉ q6 := fun hx => by
    rcases hq6 a hx with hx | hx
    · simp at hx; omega
    · omega
  have s7 := Same.set σ6 a (.own (List.set [.int .i64 (first + ((j + 1 : Nat) : Int)), .int .i64 ((fast - (j + 1) : Nat) : Int), .int .i64 m, .slice ad rs.length z] 3 (.slice ad6 (rs.length - (j + 1)) z6)) 50)
  refine .inl ⟨j, r, a :: q6, _, rfl, ⟨⟨q6, ad6, z6, rfl, hne6, by rw [get_set_same, hdl]; rfl, hR6.same s7 (fun q hq => by simp; rintro rfl; exact hne6 hq)⟩, fun q hq => ?_⟩, ⟨⟨by simp; omega, fun b hb hS => ?_⟩, fun q hq => ?_⟩, hj, hr, hh, hno⟩
  · rcases List.mem_cons.1 hq with rfl | hq
    · simp; omega
    · have := hR6.lt q hq; simpa using this
  · simp only [List.mem_cons, not_or] at hS
    rw [s7.2 b (by omega) (by simp; exact hS.1), hs6.2 b (by omega) (by simp; omega), hs5.2 b (by omega) (by simp), s14.2 b (by omega) (by simp; exact hS.1)]
  · rcases List.mem_cons.1 hq with rfl | hq
    · exact ⟨.inl (by simp), by simp; omega⟩
    · refine ⟨.inr ?_, by have := hR6.lt q hq; simpa using this⟩
      rcases hq6 q hq with hx | hx
      · simp at hx; omega
      · omega

theorem rmarks_loop (hf : fast ≤ rs.length) (hl : rs.length ≤ 1000) : ∀ (n i : Nat) (σ' : St) (adO : Option Addr) (zO : Nat) (qO : List Nat), i ≤ fast → fast - i < n → Row c1 1 3 σ' adO zO qO (marksOf (rs.take i)) → Same σ σ' [] → (∀ q ∈ qO, σ.next ≤ q) →
    Ends (fun v σ9 => ∃ adO zO qO, v = .slice adO (marksOf (rs.take fast)).length zO ∧ Row c1 1 3 σ9 adO zO qO (marksOf (rs.take fast)) ∧ Same σ σ9 [] ∧ ∀ q ∈ qO, σ.next ≤ q)
      (lpAt Tryd.prog env L k 27 [true, true, false, true] [] n [(0, .pointer (some ⟨a, 0, none⟩)), (3, .slice adO (marksOf (rs.take i)).length zO), (4, .int .i64 i)] σ')
  | 0, i, σ', adO, zO, qO, _, hn, _, _, _ => by omega
  | n + 1, i, σ', adO, zO, qO, hi, hn, hO, hs, hq => by
    obtain ⟨qs, ad, z, hF, hne, hg0, hrow0⟩ := h.ex
    have hal := h.lt a (by rw [hF]; simp)
    have hg : σ'.get a = _ := (hs.2 a hal (by simp)).trans hg0
    have hrow := hrow0.same hs (by simp)
    rw [f27_l3, ld_at hg (0 + 1) _ rfl, asI_i]
    by_cases hie : i = fast
    · subst hie
      rw [decide_eq_false (by omega), br_false]
      exact .leaf ⟨adO, zO, qO, rfl, hO, hs, hq⟩
    · have hget : rs[i]? = some rs[i] := List.getElem?_eq_getElem (by omega)
      obtain ⟨q, e, hat⟩ := hrow.at c5_len hget
      have htk : rs.take (i + 1) = rs.take i ++ [rs[i]] := by rw [List.take_add_one, hget]; rfl
      generalize rs[i] = r at hat hget htk
      have hw : IntKind.wrap .i64 ((i : Int) + 1) = ((i + 1 : Nat) : Int) := by rw [wrap_in _ (by omega) (by omega)]; omega
      have hsn := marksOf_snoc (rs.take i) r
      rw [← htk] at hsn
      rw [decide_eq_true (by omega), br_true, ld_at hg (0 + 3) _ rfl, asSl_s, need_of (by simp [inRange]; omega), e, adr_some, hat 1 (.int .i64 r.kind) _ (by omega) rfl (by simp), asI_i, bq]
      by_cases hk : r.kind = 2
      · rw [if_pos hk] at hsn
        rw [decide_eq_true hk, br_true, ld_at hg (0 + 3) _ rfl, asSl_s, need_of (by simp [inRange]; omega), e, adr_some, hat 4 (.int .i64 r.number) _ (by omega) rfl (by simp), asI_i, hw]
        generalize hσ2 : σ'.new (Blk.own [Value.int IntKind.i64 r.number] 3) = σ2
        have hnew : σ2.get σ'.next = some (Blk.own [Value.int IntKind.i64 r.number] 3) := by rw [← hσ2, get_new_same]
        have hs2 : Same σ' σ2 [] := by rw [← hσ2]; exact Same.new _ _ _
        have hml := marksOf_len (rs.take i)
        rw [List.length_take] at hml
        obtain ⟨ad', z', q', σ3, hgrow, hO3, hs3, hq3⟩ := grow_row (by_ := 8) (hO.same hs2 (by simp)) c1_len c1_one (by omega) [r.number] [Value.int .i64 r.number] rfl 1 rfl (by unfold roomTop; omega) (by unfold sizeTop; omega)
        rw [row_one hnew, hgrow]
        have hlen : (marksOf (rs.take i)).length + 1 = (marksOf (rs.take (i + 1))).length := by rw [hsn]; simp
        rw [hlen]
        rw [← hsn] at hO3
        have hs02 := hs.trans hs2
        exact rmarks_loop hf hl n (i + 1) σ3 ad' z' q' (by omega) (by omega) hO3 (hs02.fresh hs3 (fun x hx => .inr (hq x hx))) (fun x hx => by
          rcases hq3 x hx with h | h
          · exact hq x h
          · have := hs02.1; omega)
      · rw [if_neg hk] at hsn
        rw [decide_eq_false hk, br_false, hw]
        rw [← hsn] at hO ⊢
        exact rmarks_loop hf hl n (i + 1) σ' adO zO qO (by omega) (by omega) hO hs hq
theorem rmarks_spec (hL : 1000 < L) (hf : fast ≤ rs.length) (hl : rs.length ≤ 1000) :
    Ends (fun v σ' => ∃ adO zO qO, v = .slice adO (marksOf (rs.take fast)).length zO ∧ Row c1 1 3 σ' adO zO qO (marksOf (rs.take fast)) ∧ Same σ σ' [] ∧ ∀ q ∈ qO, σ.next ≤ q) (evCall Tryd.prog env L (k + 1) 27 [.pointer (some ⟨a, 0, none⟩)] σ) := by
  rw [f27_eq]
  exact rmarks_loop h L k hf hl L 0 σ none 0 [] (by omega) (by omega) (Row.nil _ _ _ _) (Same.refl _ _) (by simp)
end

/-! Lists that are the same. -/
theorem same_loop (L k : Nat) {σ : St} {l : List Int} {ad1 ad2 : Option Addr} {z1 z2 : Nat} {q1 q2 : List Nat} (h1 : Row c1 1 3 σ ad1 z1 q1 l) (h2 : Row c1 1 3 σ ad2 z2 q2 l) (hl : l.length ≤ 1000) : ∀ (n i : Nat), i ≤ l.length → l.length - i < n →
    lpAt Tryd.prog env L k 26 [true, true, false, true] [] n [(0, .slice ad1 l.length z1), (1, .slice ad2 l.length z2), (12, .int .i64 l.length), (13, .int .i64 i)] σ = some (.bool true, σ)
  | 0, i, _, h => by omega
  | n + 1, i, hi, h => by
    rw [f26_l4]
    by_cases hie : i = l.length
    · rw [decide_eq_false (by omega), br_false]
    · have hget : l[i]? = some l[i] := List.getElem?_eq_getElem (by omega)
      obtain ⟨r1, e1, a1⟩ := h1.at c1_len hget
      obtain ⟨r2, e2, a2⟩ := h2.at c1_len hget
      generalize l[i] = x at a1 a2
      have hw : IntKind.wrap .i64 ((i : Int) + 1) = ((i + 1 : Nat) : Int) := by rw [wrap_in _ (by omega) (by omega)]; omega
      rw [decide_eq_true (by omega), br_true, need_of (by simp [inRange]; omega), e1, adr_some, a1 0 (.int .i64 x) _ (by omega) rfl (by simp), asI_i, need_of (by simp [inRange]; omega), e2, adr_some, a2 0 (.int .i64 x) _ (by omega) rfl (by simp), asI_i, show (x != x) = false by simp, br_false, hw, ← e1, ← e2]
      exact same_loop L k h1 h2 hl n (i + 1) (by omega) (by omega)
theorem same_spec (L k : Nat) (hL : 1000 < L) {σ : St} {l : List Int} {ad1 ad2 : Option Addr} {z1 z2 : Nat} {q1 q2 : List Nat} (h1 : Row c1 1 3 σ ad1 z1 q1 l) (h2 : Row c1 1 3 σ ad2 z2 q2 l) (hl : l.length ≤ 1000) :
    evCall Tryd.prog env L (k + 1) 26 [.slice ad1 l.length z1, .slice ad2 l.length z2] σ = some (.bool true, σ) := by
  rw [f26_eq, show ((l.length : Int) != (l.length : Int)) = false by simp, br_false]
  exact same_loop L k h1 h2 hl L 0 (by omega) (by omega)
theorem same6_loop (L k : Nat) {σ : St} {l : List Rec} {ad1 ad2 : Option Addr} {z1 z2 : Nat} {q1 q2 : List Nat} (h1 : Row c5 5 23 σ ad1 z1 q1 l) (h2 : Row c5 5 23 σ ad2 z2 q2 l) (hl : l.length ≤ 1000) : ∀ (n i : Nat), i ≤ l.length → l.length - i < n →
    lpAt Tryd.prog env L k 23 [true, true, false, true] [] n [(0, .slice ad1 l.length z1), (1, .slice ad2 l.length z2), (12, .int .i64 l.length), (13, .int .i64 i)] σ = some (.bool true, σ)
  | 0, i, _, h => by omega
  | n + 1, i, hi, h => by
    rw [f23_l4]
    by_cases hie : i = l.length
    · rw [decide_eq_false (by omega), br_false]
    · have hget : l[i]? = some l[i] := List.getElem?_eq_getElem (by omega)
      obtain ⟨r1, e1, a1⟩ := h1.lds c5_len hget
      obtain ⟨r2, e2, a2⟩ := h2.lds c5_len hget
      generalize l[i] = r at a1 a2
      have hw : IntKind.wrap .i64 ((i : Int) + 1) = ((i + 1 : Nat) : Int) := by rw [wrap_in _ (by omega) (by omega)]; omega
      have hc : c5 r = [.int .i64 r.seq, .int .i64 r.kind, .int .i64 r.block, .string r.data, .int .i64 r.number] := rfl
      have hbb : (!(r.seq == r.seq && (r.kind == r.kind && (r.block == r.block && (r.data == r.data && (r.number == r.number && true)))))) = false := by
        rw [beq_toListBytes]; simp
      rw [decide_eq_true (by omega), br_true, need_of (by simp [inRange]; omega), e1, adr_some, a1 _ (by simp), hc, uncons_c, asI_i, uncons_c, asI_i, uncons_c, asI_i, uncons_c, asS_s, uncons_c, asI_i, endl_n, need_of (by simp [inRange]; omega), e2, adr_some, a2 _ (by simp), hc, uncons_c, asI_i, uncons_c, asI_i, uncons_c, asI_i, uncons_c, asS_s, uncons_c, asI_i, endl_n, hbb, br_false, hw, ← e1, ← e2]
      exact same6_loop L k h1 h2 hl n (i + 1) (by omega) (by omega)
theorem same6_spec (L k : Nat) (hL : 1000 < L) {σ : St} {l : List Rec} {ad1 ad2 : Option Addr} {z1 z2 : Nat} {q1 q2 : List Nat} (h1 : Row c5 5 23 σ ad1 z1 q1 l) (h2 : Row c5 5 23 σ ad2 z2 q2 l) (hl : l.length ≤ 1000) :
    evCall Tryd.prog env L (k + 1) 23 [.slice ad1 l.length z1, .slice ad2 l.length z2] σ = some (.bool true, σ) := by
  rw [f23_eq, show ((l.length : Int) != (l.length : Int)) = false by simp, br_false]
  exact same6_loop L k h1 h2 hl L 0 (by omega) (by omega)

end Go.AM.Sp
