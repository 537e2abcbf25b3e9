/-
  THE STAGE's calls, one by one.
-/
import Derived.Test.YtacniifcgjcedaaDoorAm20
import Derived.Test.YtacniifcgjcedaaDoorEqSp
set_option linter.unusedVariables false
set_option linter.unusedSimpArgs false
set_option linter.unusedSectionVars false
namespace Go.AM.Sp
open Go.Proofs

structure Rec where
  seq : Int
  kind : Int
  block : Int
  data : ByteArray
  number : Int
def c5 (r : Rec) : List Value := [.int .i64 r.seq, .int .i64 r.kind, .int .i64 r.block, .string r.data, .int .i64 r.number]
theorem c5_len (r : Rec) : (c5 r).length = 5 := rfl
theorem c5_one (r : Rec) : (c5 r).all oneCell = true := rfl
def Rec.agg (r : Rec) : Value := .agg [.int .i64 r.seq, .int .i64 r.kind, .int .i64 r.block, .string r.data, .int .i64 r.number].toArray

theorem num_spec (L k : Nat) (σ : St) (a b : Int) : evCall Tryd.prog env L (k + 1) 37 [.int .i64 a, .int .i64 b] σ = some (.bool (decide (a ≥ b) && decide (a ≤ 1152921504606846975)), σ) := by
  rw [f37_eq]
  by_cases h : a ≥ b
  · rw [decide_eq_true h]; rfl
  · rw [decide_eq_false h]; rfl

/-- Can a record be? Whatever is answered, nothing turns. -/
theorem right_spec (L k : Nat) (σ : St) (r : Rec) : Ends (fun v σ' => (∃ b, v = .bool b) ∧ Same σ σ' []) (evCall Tryd.prog env L (k + 2) 32 [r.agg] σ) := by
  unfold Rec.agg
  rw [f32_eq]
  generalize hσ1 : σ.new (Blk.own [Value.int IntKind.i64 r.seq, Value.int IntKind.i64 r.kind, Value.int IntKind.i64 r.block, Value.string r.data, Value.int IntKind.i64 r.number] 23) = σ1
  have hn : σ1.get σ.next = some (Blk.own [Value.int IntKind.i64 r.seq, Value.int IntKind.i64 r.kind, Value.int IntKind.i64 r.block, Value.string r.data, Value.int IntKind.i64 r.number] 23) := by rw [← hσ1, get_new_same]
  have hs1 : Same σ σ1 [] := by rw [← hσ1]; exact Same.new _ _ _
  have hx1 : σ1.next = σ.next + 1 := by rw [← hσ1]; rfl
  have hput := fun K => put_int hn 4 .i64 0 (by simp) K
  generalize hσ2 : σ1.set σ.next (.own (List.set [Value.int IntKind.i64 r.seq, Value.int IntKind.i64 r.kind, Value.int IntKind.i64 r.block, Value.string r.data, Value.int IntKind.i64 r.number] 4 (.int .i64 0)) 23) = σ2 at hput
  have hn2 : σ2.get σ.next = some (Blk.own [Value.int IntKind.i64 r.seq, Value.int IntKind.i64 r.kind, Value.int IntKind.i64 r.block, Value.string r.data, Value.int IntKind.i64 0] 23) := by rw [← hσ2, get_set_same]; rfl
  have hs2 : Same σ σ2 [] := ⟨by rw [← hσ2]; simp [hx1], fun k hk _ => by rw [← hσ2, get_set (by omega), hs1.2 k hk (by simp)]⟩
  have a0 := fun K => ld_at hn 0 _ rfl K
  have a1 := fun K => ld_at hn 1 _ rfl K
  have a2 := fun K => ld_at hn 2 _ rfl K
  have a3 := fun K => ld_at hn 3 _ rfl K
  have a4 := fun K => ld_at hn 4 _ rfl K
  have b1 := fun K => ld_at hn2 1 _ rfl K
  have b2 := fun K => ld_at hn2 2 _ rfl K
  have b3 := fun K => ld_at hn2 3 _ rfl K
  have b4 := fun K => ld_at hn2 4 _ rfl K
  have l1 : ∀ b, Ends (fun v σ' => (∃ b, v = Value.bool b) ∧ Same σ σ' []) (some (.bool b, σ1)) := fun b => .leaf ⟨⟨b, rfl⟩, hs1⟩
  have l2 : ∀ b, Ends (fun v σ' => (∃ b, v = Value.bool b) ∧ Same σ σ' []) (some (.bool b, σ2)) := fun b => .leaf ⟨⟨b, rfl⟩, hs2⟩
  simp only [a0, a1, a2, a3, a4, b1, b2, b3, b4, asI_i, asS_s, num_spec, bnd_some, asB_b, hput]
  repeat' first | exact l1 _ | exact l2 _ | refine Ends.br (fun _ => ?_) (fun _ => ?_)

/-- A marker can be. -/
theorem right_mark (L k : Nat) (σ : St) (s n : Int) (hs : 1 ≤ s) (hs' : s ≤ 1152921504606846975) (hn : 1 ≤ n) (hn' : n ≤ 1152921504606846975) :
    Ends (fun v σ' => v = .bool true ∧ Same σ σ' []) (evCall Tryd.prog env L (k + 2) 32 [Rec.agg ⟨s, 2, 0, ⟨#[]⟩, n⟩] σ) := by
  unfold Rec.agg
  rw [f32_eq]
  generalize hσ1 : σ.new (Blk.own [Value.int IntKind.i64 s, Value.int IntKind.i64 2, Value.int IntKind.i64 0, Value.string ⟨#[]⟩, Value.int IntKind.i64 n] 23) = σ1
  have hn : σ1.get σ.next = some (Blk.own [Value.int IntKind.i64 s, Value.int IntKind.i64 2, Value.int IntKind.i64 0, Value.string ⟨#[]⟩, Value.int IntKind.i64 n] 23) := by rw [← hσ1, get_new_same]
  have hs1 : Same σ σ1 [] := by rw [← hσ1]; exact Same.new _ _ _
  have hx1 : σ1.next = σ.next + 1 := by rw [← hσ1]; rfl
  have hput := fun K => put_int hn 4 .i64 0 (by simp) K
  generalize hσ2 : σ1.set σ.next (.own (List.set [Value.int IntKind.i64 s, Value.int IntKind.i64 2, Value.int IntKind.i64 0, Value.string ⟨#[]⟩, Value.int IntKind.i64 n] 4 (.int .i64 0)) 23) = σ2 at hput
  have hn2 : σ2.get σ.next = some (Blk.own [Value.int IntKind.i64 s, Value.int IntKind.i64 2, Value.int IntKind.i64 0, Value.string ⟨#[]⟩, Value.int IntKind.i64 0] 23) := by rw [← hσ2, get_set_same]; rfl
  have hs2 : Same σ σ2 [] := ⟨by rw [← hσ2]; simp [hx1], fun k hk _ => by rw [← hσ2, get_set (by omega), hs1.2 k hk (by simp)]⟩
  have a0 := fun K => ld_at hn 0 _ rfl K
  have a1 := fun K => ld_at hn 1 _ rfl K
  have a3 := fun K => ld_at hn 3 _ rfl K
  have a4 := fun K => ld_at hn 4 _ rfl K
  have b1 := fun K => ld_at hn2 1 _ rfl K
  have b2 := fun K => ld_at hn2 2 _ rfl K
  have b3 := fun K => ld_at hn2 3 _ rfl K
  have b4 := fun K => ld_at hn2 4 _ rfl K
  have t1 : (decide (s ≥ 1) && decide (s ≤ 1152921504606846975)) = true := by simp; omega
  have t2 : (decide (n ≥ 1) && decide (n ≤ 1152921504606846975)) = true := by simp; omega
  have t3 : ((2 : Int) == 2) = true := rfl
  have t4 : (ByteArray.toList ⟨#[]⟩ == ByteArray.toList ⟨#[]⟩) = true := by simp
  have t5 : decide ((0 : Int) ≥ 0) = true := rfl
  have t6 : decide ((0 : Int) < 8) = true := rfl
  have t7 : decide (((ByteArray.size ⟨#[]⟩ : Nat) : Int) ≤ 16) = true := rfl
  have t8 : ((0 : Int) == 0) = true := rfl
  have t9 : ((2 : Int) == 1) = false := rfl
  simp only [a0, a1, a3, a4, b1, b2, b3, b4, asI_i, asS_s, num_spec, bnd_some, asB_b, hput, t1, t2, t3, t4, t5, t6, t7, t8, t9, br_true, br_false]
  exact .leaf ⟨rfl, hs2⟩

/-- A stage: what it holds, of which blocks. -/
structure Stg (σ : St) (a : Nat) (F : List Nat) (first : Int) (rs : List Rec) (fast : Nat) (mark : Int) : Prop where
  ex : ∃ qs ad z, F = a :: qs ∧ a ∉ qs ∧ σ.get a = some (.own [.int .i64 first, .slice ad rs.length z, .int .i64 fast, .int .i64 mark] 58) ∧ Row c5 5 23 σ ad z qs rs
  lt : ∀ q ∈ F, q < σ.next
theorem Stg.same {σ σ' : St} {a : Nat} {F S : List Nat} {first mark : Int} {rs : List Rec} {fast : Nat} (h : Stg σ a F first rs fast mark) (hs : Same σ σ' S) (hF : ∀ q ∈ F, q ∉ S) : Stg σ' a F first rs fast mark := by
  obtain ⟨qs, ad, z, rfl, h1, h2, h3⟩ := h.ex
  exact ⟨⟨qs, ad, z, rfl, h1, by rw [hs.2 a (h.lt a (by simp)) (hF a (by simp))]; exact h2, h3.same hs (fun q hq => hF q (by simp [hq]))⟩, fun q hq => by have := h.lt q hq; have := hs.1; omega⟩
theorem Stg.idle {σ σ' : St} {a : Nat} {F : List Nat} {first mark : Int} {rs : List Rec} {fast : Nat} (h : Stg σ a F first rs fast mark) (hs : Same σ σ' []) : Stg σ' a F first rs fast mark := h.same hs (by simp)

theorem new_spec (L k : Nat) (σ : St) : ∃ σ', evCall Tryd.prog env L (k + 1) 17 [.int .i64 1] σ = some (.pointer (some ⟨σ.next, 0, none⟩), σ') ∧ Stg σ' σ.next [σ.next] 1 [] 0 0 ∧ Same σ σ' [] := by
  rw [f17_eq, show mx (1 : Int) (mn 1 1152921504606846975) = 1 from rfl]
  exact ⟨_, rfl, ⟨⟨[], none, 0, rfl, by simp, by rw [get_new_same]; rfl, ⟨by simp, .inl ⟨rfl, rfl, rfl, rfl⟩⟩⟩, by simp⟩, Same.new _ _ _⟩

section
variable {σ : St} {a : Nat} {F : List Nat} {first mark : Int} {rs : List Rec} {fast : Nat} (h : Stg σ a F first rs fast mark) (L k : Nat)
include h
theorem last_spec (h0 : 1 ≤ first) (h1 : first ≤ 1152921504607846976) (hl : rs.length ≤ 100000) (hf : fast ≤ rs.length) :
    evCall Tryd.prog env L (k + 1) 8 [.pointer (some ⟨a, 0, none⟩)] σ = some (.tuple #[.int .i64 (first + rs.length - 1), .int .i64 (first + fast - 1)], σ) := by
  obtain ⟨qs, ad, z, rfl, hne, hg, hrow⟩ := h.ex
  rw [f8_eq]
  simp only [ld_at hg 0 _ rfl, ld_at hg 1 _ rfl, ld_at hg 2 _ rfl, asI_i, asSl_s]
  rw [wrap_in (first + (rs.length : Int)) (by omega) (by omega), wrap_in (first + (fast : Int)) (by omega) (by omega), wrap_in _ (by omega) (by omega), wrap_in _ (by omega) (by omega)]

theorem dropped_spec (h0 : 1 ≤ first) (h1 : first ≤ 1152921504607846976) :
    evCall Tryd.prog env L (k + 1) 9 [.pointer (some ⟨a, 0, none⟩)] σ = some (.tuple #[.int .i64 (first - 1), .int .i64 mark], σ) := by
  obtain ⟨qs, ad, z, rfl, hne, hg, hrow⟩ := h.ex
  rw [f9_eq]
  simp only [ld_at hg 0 _ rfl, ld_at hg 3 _ rfl, asI_i]
  rw [wrap_in _ (by omega) (by omega)]

theorem flush_spec : ∃ σ', evCall Tryd.prog env L (k + 1) 6 [.pointer (some ⟨a, 0, none⟩)] σ = some (.tuple #[], σ') ∧ Stg σ' a F first rs rs.length mark ∧ Turn σ σ' F F := by
  obtain ⟨qs, ad, z, rfl, hne, hg, hrow⟩ := h.ex
  have hlt := h.lt
  rw [f6_eq]
  simp only [ld_at hg 1 _ rfl, asSl_s, put_int hg 2 _ _ (by simp)]
  have hs := Same.set σ a (.own (List.set [Value.int .i64 first, .slice ad rs.length z, .int .i64 fast, .int .i64 mark] 2 (.int .i64 rs.length)) 58)
  exact ⟨_, rfl, ⟨⟨qs, ad, z, rfl, hne, by rw [get_set_same]; rfl, hrow.same hs (fun q hq => by simp; rintro rfl; exact hne hq)⟩, by simpa using hlt⟩, hs.mono (by simp), fun q hq => ⟨.inl hq, by simpa using hlt q hq⟩⟩

theorem crash_spec (hf : fast ≤ rs.length) (hl : rs.length ≤ 100000) (keep : Int) : ∃ (n : Nat) (σ' : St), evCall Tryd.prog env L (k + 1) 7 [.pointer (some ⟨a, 0, none⟩), .int .i64 keep] σ = some (.tuple #[], σ') ∧ (n : Int) = fast + mx 0 (mn keep (rs.length - fast)) ∧ n ≤ rs.length ∧ Stg σ' a F first (rs.take n) n mark ∧ Turn σ σ' F F := by
  obtain ⟨qs, ad, z, rfl, hne, hg, hrow⟩ := h.ex
  have hlt := h.lt
  rw [f7_eq]
  simp only [ld_at hg 1 _ rfl, ld_at hg 2 _ rfl, asSl_s, asI_i, put_int hg 2 _ _ (by simp)]
  rw [wrap_in ((rs.length : Int) - fast) (by omega) (by omega)]
  obtain ⟨m, hm⟩ : ∃ m : Nat, mx 0 (mn keep ((rs.length : Int) - fast)) = m := Int.eq_ofNat_of_zero_le (by unfold mx mn; split <;> split <;> omega)
  have hm2 : fast + m ≤ rs.length := by revert hm; unfold mx mn; split <;> split <;> omega
  rw [hm, wrap_in ((fast : Int) + m) (by omega) (by omega), show ((fast : Int) + m) = ((fast + m : Nat) : Int) by omega]
  have hmn : ((fast + m : Nat) : Int) = fast + mx 0 (mn keep (rs.length - fast)) := by rw [hm]; omega
  generalize fast + m = n at hm2 hmn
  generalize hσ1 : σ.set a (.own (List.set [Value.int .i64 first, .slice ad rs.length z, .int .i64 fast, .int .i64 mark] 2 (.int .i64 (n : Int))) 58) = σ1
  have hg1 : σ1.get a = some (.own [Value.int .i64 first, .slice ad rs.length z, .int .i64 n, .int .i64 mark] 58) := by rw [← hσ1, get_set_same]; rfl
  have hs1 : Same σ σ1 [a] := by rw [← hσ1]; exact Same.set _ _ _
  have hz : (Nat.beq z 0 || Nat.beq z 5) = true := by rcases hrow.z with e | e <;> rw [e] <;> rfl
  simp only [ld_at hg1 1 _ rfl, ld_at hg1 2 _ rfl, asSl_s, asI_i]
  rw [need_of hz, need_of (by simp [inRange]; omega), need_of (by simp [inRange]; omega), put_sl hg1 1 _ _ _ (by simp)]
  rw [hrow.sub0, show Int.toNat ((n : Nat) : Int) - 0 = n by simp]
  have hs2 := Same.set σ1 a (.own (List.set [Value.int .i64 first, .slice ad rs.length z, .int .i64 n, .int .i64 mark] 1 (.slice ad n z)) 58)
  have hrow1 : Row c5 5 23 σ1 ad z qs rs := hrow.same hs1 (fun q hq => by simp; rintro rfl; exact hne hq)
  have hrow2 := (hrow1.same hs2 (fun q hq => by simp; rintro rfl; exact hne hq)).take n
  have htl : (rs.take n).length = n := by rw [List.length_take]; omega
  refine ⟨n, _, rfl, rfl, hm2, ⟨⟨qs, ad, z, rfl, hne, by rw [get_set_same, htl]; rfl, hrow2⟩, fun q hq => by have := hlt q hq; have := hs1.1; simp; omega⟩, (hs1.trans hs2).mono (by simp), fun q hq => ⟨.inl hq, by have := hlt q hq; have := hs1.1; simp; omega⟩⟩

theorem cut_spec : ∃ σ', evCall Tryd.prog env L (k + 1) 15 [.pointer (some ⟨a, 0, none⟩)] σ = some (.int .i64 rs.length, σ') ∧ Stg σ' a [a] first [] 0 mark ∧ Turn σ σ' F [a] := by
  obtain ⟨qs, ad, z, rfl, hne, hg, hrow⟩ := h.ex
  have hlt := h.lt
  rw [f15_eq]
  simp only [ld_at hg 1 _ rfl, asSl_s, put_sl hg 1 _ _ _ (by simp)]
  generalize hσ1 : σ.set a (.own (List.set [Value.int .i64 first, .slice ad rs.length z, .int .i64 fast, .int .i64 mark] 1 (.slice none 0 0)) 58) = σ1
  have hg1 : σ1.get a = some (.own [Value.int .i64 first, .slice none 0 0, .int .i64 fast, .int .i64 mark] 58) := by rw [← hσ1, get_set_same]; rfl
  have hs1 : Same σ σ1 [a] := by rw [← hσ1]; exact Same.set _ _ _
  have hal := hlt a (by simp)
  have h1n := hs1.1
  rw [put_int hg1 2 _ _ (by simp)]
  have hs2 := Same.set σ1 a (.own (List.set [Value.int .i64 first, .slice none 0 0, .int .i64 fast, .int .i64 mark] 2 (.int .i64 0)) 58)
  exact ⟨_, rfl, ⟨⟨[], none, 0, rfl, by simp, by rw [get_set_same]; rfl, Row.nil _ _ _ _⟩, by simp; omega⟩, (hs1.trans hs2).mono (by simp), fun q hq => ⟨.inl (by simp at hq; simp [hq]), by simp at hq; subst hq; simp; omega⟩⟩

/-- A record is taken, or it isn't; what is there already stays. -/
theorem take_gen (h0 : 1 ≤ first) (h1 : first ≤ 1152921504607846976) (hl : rs.length ≤ 100000) (hf : fast ≤ rs.length) (r : Rec) (P : Bool → Prop) (hP : ∀ σ, Ends (fun v σ' => (∃ b, v = .bool b ∧ P b) ∧ Same σ σ' []) (evCall Tryd.prog env L (k + 2) 32 [r.agg] σ)) :
    Ends (fun v σ' => ∃ rs' F', v = .int .i64 (first + rs'.length - 1) ∧ Stg σ' a F' first rs' fast mark ∧ Turn σ σ' F F' ∧ ((rs' = rs ∧ (r.seq ≠ first + rs.length ∨ P false)) ∨ (r.seq = first + rs.length ∧ P true ∧ rs' = rs ++ [r]))) (evCall Tryd.prog env L (k + 3) 11 [.pointer (some ⟨a, 0, none⟩), r.agg] σ) := by
  obtain ⟨qs, ad, z, rfl, hne, hg, hrow⟩ := h.ex
  have hlt := h.lt
  have hal := hlt a (by simp)
  unfold Rec.agg
  rw [f11_eq]
  generalize hσ1 : σ.new (Blk.own [Value.int IntKind.i64 r.seq, Value.int IntKind.i64 r.kind, Value.int IntKind.i64 r.block, Value.string r.data, Value.int IntKind.i64 r.number] 23) = σ1
  have hn1 : σ1.get σ.next = some (Blk.own [Value.int IntKind.i64 r.seq, Value.int IntKind.i64 r.kind, Value.int IntKind.i64 r.block, Value.string r.data, Value.int IntKind.i64 r.number] 23) := by rw [← hσ1, get_new_same]
  have hs1 : Same σ σ1 [] := by rw [← hσ1]; exact Same.new _ _ _
  have hx1 : σ1.next = σ.next + 1 := by rw [← hσ1]; rfl
  have h1s := h.idle hs1
  rw [last_spec h1s L (k + 1) h0 h1 hl hf, bnd_some, asT_t, show ∀ x y : Value, (#[x, y] : Array Value).toList = [x, y] from fun _ _ => rfl, uncons_c, asI_i, uncons_c, asI_i, endl_n, ld_at hn1 0 _ rfl, asI_i, wrap_in _ (by omega) (by omega)]
  by_cases hq : r.seq = first + rs.length - 1 + 1
  · rw [show (r.seq != first + (rs.length : Int) - 1 + 1) = false by simpa using hq, br_false, lds_all (n := 5) hn1 rfl]
    rw [uncons_c, asI_i, uncons_c, asI_i, uncons_c, asI_i, uncons_c, asS_s, uncons_c, asI_i, endl_n]
    obtain ⟨v, σ2, g1, ⟨b, rfl, hPb⟩, hs2⟩ := hP σ1
    rw [show Value.agg #[Value.int .i64 r.seq, .int .i64 r.kind, .int .i64 r.block, .string r.data, .int .i64 r.number] = r.agg from rfl, g1, bnd_some, asB_b]
    have hs12 := hs1.trans hs2
    have h2n := hs2.1
    have hn2 : σ2.get σ.next = some (Blk.own [Value.int IntKind.i64 r.seq, Value.int IntKind.i64 r.kind, Value.int IntKind.i64 r.block, Value.string r.data, Value.int IntKind.i64 r.number] 23) := by rw [hs2.2 _ (by omega) (by simp)]; exact hn1
    have hg2 : σ2.get a = _ := (hs12.2 a hal (by simp)).trans hg
    cases b with
    | false =>
      rw [show (!false) = true from rfl, br_true]
      exact .leaf ⟨rs, _, rfl, h.idle hs12, .idle hs12 hlt, .inl ⟨rfl, .inr hPb⟩⟩
    | true =>
      rw [show (!true) = false from rfl, br_false, ld_at hg2 1 _ rfl, asSl_s, lds_all (n := 5) hn2 rfl, uncons_c, asI_i, uncons_c, asI_i, uncons_c, asI_i, uncons_c, asS_s, uncons_c, asI_i, endl_n]
      generalize hσ3 : σ2.new (Blk.own [Value.int IntKind.i64 r.seq, Value.int IntKind.i64 r.kind, Value.int IntKind.i64 r.block, Value.string r.data, Value.int IntKind.i64 r.number] 23) = σ3
      have hn3 : σ3.get σ2.next = some (Blk.own [Value.int IntKind.i64 r.seq, Value.int IntKind.i64 r.kind, Value.int IntKind.i64 r.block, Value.string r.data, Value.int IntKind.i64 r.number] 23) := by rw [← hσ3, get_new_same]
      have hs3 : Same σ2 σ3 [] := by rw [← hσ3]; exact Same.new _ _ _
      have hs13 := hs12.trans hs3
      have h3n := hs13.1
      have h3n' := hs3.1
      have hg3 : σ3.get a = _ := (hs13.2 a hal (by simp)).trans hg
      have hrow3 := hrow.same hs13 (fun _ _ => by simp)
      rw [ld_at hg3 1 _ rfl, asSl_s, chk_same, row_all (n := 5) hn3 rfl (by omega)]
      obtain ⟨ad', z', qs', σ4, hgrow, hrow4, hs4, hq4⟩ := grow_row (by_ := 48) hrow3 c5_len c5_one (by omega) [r] (c5 r) (by simp) 1 rfl (by unfold roomTop; omega) (by unfold sizeTop; omega)
      have hgr := hgrow
      rw [show c5 r = [Value.int IntKind.i64 r.seq, Value.int IntKind.i64 r.kind, Value.int IntKind.i64 r.block, Value.string r.data, Value.int IntKind.i64 r.number] from rfl] at hgr
      rw [hgr]
      have hg4 : σ4.get a = _ := (hs4.2 a (by omega) hne).trans hg3
      have hnq : σ.next ∉ qs := fun hq => by have := hlt _ (List.mem_cons_of_mem _ hq); omega
      have hn4 : σ4.get σ.next = some (Blk.own [Value.int IntKind.i64 r.seq, Value.int IntKind.i64 r.kind, Value.int IntKind.i64 r.block, Value.string r.data, Value.int IntKind.i64 r.number] 23) := by rw [hs4.2 _ (by omega) hnq, hs3.2 _ (by omega) (by simp)]; exact hn2
      have h4n := hs4.1
      rw [put_sl hg4 1 _ _ _ (by simp)]
      have hs5 := Same.set σ4 a (.own (List.set [Value.int .i64 first, .slice ad rs.length z, .int .i64 fast, .int .i64 mark] 1 (.slice ad' (rs.length + 1) z')) 58)
      have hg5 : (σ4.set a (.own (List.set [Value.int .i64 first, .slice ad rs.length z, .int .i64 fast, .int .i64 mark] 1 (.slice ad' (rs.length + 1) z')) 58)).get a = some (.own [Value.int .i64 first, .slice ad' (rs ++ [r]).length z', .int .i64 fast, .int .i64 mark] 58) := by rw [get_set_same, List.length_append]; rfl
      generalize σ4.set a (.own (List.set [Value.int .i64 first, .slice ad rs.length z, .int .i64 fast, .int .i64 mark] 1 (.slice ad' (rs.length + 1) z')) 58) = σ5 at hs5 hg5
      have h5n := hs5.1
      have hn5 : σ5.get σ.next = _ := (hs5.2 _ (by omega) (by simp; omega)).trans hn4
      have hne' : a ∉ qs' := fun hx => by
        rcases hq4 a hx with hx | hx
        · exact hne hx
        · omega
      rw [ld_at hn5 0 _ rfl, asI_i]
      refine .leaf ⟨rs ++ [r], a :: qs', by simp; omega, ⟨⟨qs', ad', z', rfl, hne', hg5, hrow4.same hs5 (fun q hq => by simp; rintro rfl; exact hne' hq)⟩, fun q hq => ?_⟩, ⟨⟨by omega, fun j hj hS => ?_⟩, fun q hq => ?_⟩, .inr ⟨by omega, hPb, rfl⟩⟩
      · rcases List.mem_cons.1 hq with rfl | hq
        · omega
        · have := hrow4.lt q hq; omega
      · simp only [List.mem_cons, not_or] at hS
        rw [hs5.2 j (by omega) (by simp; exact hS.1), hs4.2 j (by omega) hS.2, hs13.2 j hj (by simp)]
      · rcases List.mem_cons.1 hq with rfl | hq
        · exact ⟨.inl (by simp), by omega⟩
        · refine ⟨?_, by have := hrow4.lt q hq; omega⟩
          rcases hq4 q hq with hq | hq
          · exact .inl (by simp [hq])
          · exact .inr (by omega)
  · rw [show (r.seq != first + (rs.length : Int) - 1 + 1) = true by simpa using hq, br_true]
    exact .leaf ⟨rs, _, rfl, h.idle hs1, .idle hs1 hlt, .inl ⟨rfl, .inl (by omega)⟩⟩
theorem take_spec (h0 : 1 ≤ first) (h1 : first ≤ 1152921504607846976) (hl : rs.length ≤ 100000) (hf : fast ≤ rs.length) (r : Rec) :
    Ends (fun v σ' => ∃ rs' F', v = .int .i64 (first + rs'.length - 1) ∧ Stg σ' a F' first rs' fast mark ∧ Turn σ σ' F F' ∧ ((rs' = rs) ∨ (r.seq = first + rs.length ∧ rs' = rs ++ [r]))) (evCall Tryd.prog env L (k + 3) 11 [.pointer (some ⟨a, 0, none⟩), r.agg] σ) := by
  obtain ⟨v, σ', g1, rs', F', e1, e2, e3, e4⟩ := take_gen h L k h0 h1 hl hf r (fun _ => True) (fun σ => by
    obtain ⟨v, σ', g1, ⟨b, e⟩, e2⟩ := right_spec L k σ r
    exact ⟨v, σ', g1, ⟨b, e, trivial⟩, e2⟩)
  exact ⟨v, σ', g1, rs', F', e1, e2, e3, e4.imp And.left (fun h => ⟨h.1, h.2.2⟩)⟩
/-- A marker of the next number is. -/
theorem take_mark (h0 : 1 ≤ first) (h1 : first ≤ 100000) (hl : rs.length ≤ 100000) (hf : fast ≤ rs.length) (n : Int) (hn : 1 ≤ n) (hn' : n ≤ 1152921504606846975) :
    Ends (fun v σ' => ∃ F', v = .int .i64 (first + rs.length) ∧ Stg σ' a F' first (rs ++ [⟨first + rs.length, 2, 0, ⟨#[]⟩, n⟩]) fast mark ∧ Turn σ σ' F F') (evCall Tryd.prog env L (k + 3) 11 [.pointer (some ⟨a, 0, none⟩), Rec.agg ⟨first + rs.length, 2, 0, ⟨#[]⟩, n⟩] σ) := by
  obtain ⟨v, σ', g1, rs', F', e1, e2, e3, e4⟩ := take_gen h L k h0 (by omega) hl hf ⟨first + rs.length, 2, 0, ⟨#[]⟩, n⟩ (fun b => b = true) (fun σ => by
    obtain ⟨v, σ', g1, e, e2⟩ := right_mark L k σ (first + rs.length) n (by omega) (by omega) hn hn'
    exact ⟨v, σ', g1, ⟨true, e, rfl⟩, e2⟩)
  rcases e4 with ⟨_, h | h⟩ | ⟨_, _, rfl⟩
  · exact absurd rfl h
  · exact absurd h (by decide)
  · exact ⟨v, σ', g1, F', by rw [e1]; simp; omega, e2, e3⟩
end
end Go.AM.Sp
