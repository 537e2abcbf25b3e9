/-
  StageOnce, in plain words: a record that was taken isn't taken once more, nor one that was dropped; one that is cut is.
-/
import Derived.Test.YtacniifcgjcedaaStE
set_option linter.unusedVariables false
set_option linter.unusedSimpArgs false
namespace Go.AM.St
open Go.Proofs

/-- What follows once all is dropped. -/
noncomputable def onceTail (L k a : Nat) (taken dropped : Int) (σ' : St) : Res :=
  bnd (evCall Try.prog env L k 13 [Value.pointer (some ⟨a, 0, none⟩)] σ') fun v67 v68 => asI .i64 v67 fun v69 => bnd (evCall Try.prog env L k 11 [Value.pointer (some ⟨a, 0, none⟩)] v68) fun v70 v71 => asT v70 fun v72 => uncons v72 fun v73 v74 => asI .i64 v73 fun v75 => uncons v74 fun v76 v77 => asI .i64 v76 fun v78 => endl v77 (br (v69 == IntKind.wrap .i64 (taken - dropped)) (br (v75 == dropped) (need true (need true (bnd (evCall Try.prog env L k 14 [Value.pointer (some ⟨a, 0, none⟩), Value.agg #[Value.int .i64 dropped, Value.int .i64 (2 : Int), Value.int .i64 (0 : Int), Value.string { data := #[] }, Value.int .i64 (1 : Int)]] v71) fun v79 v80 => asI .i64 v79 fun v81 => br (v81 == dropped) (need true (need true (bnd (evCall Try.prog env L k 14 [Value.pointer (some ⟨a, 0, none⟩), Value.agg #[Value.int .i64 (IntKind.wrap .i64 (dropped + (1 : Int))), Value.int .i64 (2 : Int), Value.int .i64 (0 : Int), Value.string { data := #[] }, Value.int .i64 (1 : Int)]] v80) fun v82 v83 => asI .i64 v82 fun v84 => some (Value.bool (v84 == IntKind.wrap .i64 (dropped + (1 : Int))), v83)))) (some (Value.bool false, v80))))) (some (Value.bool false, v71))) (some (Value.bool false, v71)))

theorem once_tail (L k : Nat) {σ : St} {a : Nat} {F : List Nat} {first mark : Int} {rs : List Rec} {fast : Nat} (hS : Stg σ a F first rs fast mark) (h0 : 1 ≤ first) (h1 : first ≤ 1000) (hl : rs.length ≤ 1000) :
    ∃ σ9, onceTail L (k + 4) a (first + rs.length - 1) (first - 1) σ = some (.bool true, σ9) := by
  unfold onceTail
  obtain ⟨σ1, g1, hS1, hT1⟩ := cut_spec hS L (k + 3)
  rw [g1, bnd_some, asI_i, last_spec hS1 L (k + 3) h0 (by omega) (by simp) (by simp), bnd_some, asT_t, toList2, uncons_c, asI_i, uncons_c, asI_i, endl_n, wrap_in (first + (rs.length : Int) - 1 - (first - 1)) (by omega) (by omega), show ((rs.length : Int) == first + (rs.length : Int) - 1 - (first - 1)) = true by simp; omega, br_true,
    show (first + ((([] : List Rec).length : Nat) : Int) - 1 == first - 1) = true by simp, br_true, need_true, need_true, show Value.agg #[Value.int .i64 (first - 1), .int .i64 2, .int .i64 0, .string ⟨#[]⟩, .int .i64 1] = Rec.agg ⟨first - 1, 2, 0, ⟨#[]⟩, 1⟩ from rfl]
  obtain ⟨v, σ2, g2, rs2, F2, rfl, hS2, hT2, hor⟩ := take_spec hS1 L (k + 1) h0 (by omega) (by simp) (by simp) ⟨first - 1, 2, 0, ⟨#[]⟩, 1⟩
  rcases hor with rfl | ⟨h, _⟩
  · rw [g2, bnd_some, asI_i, show (first + ((([] : List Rec).length : Nat) : Int) - 1 == first - 1) = true by simp, br_true, need_true, need_true, wrap_in (first - 1 + 1) (by omega) (by omega)]
    obtain ⟨v, σ3, g3, F3, rfl, hS3, hT3⟩ := take_mark hS2 L (k + 1) h0 (by omega) (by simp) (by simp) 1 (by omega) (by omega)
    rw [show Value.agg #[Value.int .i64 (first - 1 + 1), .int .i64 2, .int .i64 0, .string ⟨#[]⟩, .int .i64 1] = Rec.agg ⟨first + ((([] : List Rec).length : Nat) : Int), 2, 0, ⟨#[]⟩, 1⟩ by
      unfold Rec.agg; simp, g3, bnd_some, asI_i]
    exact ⟨σ3, by simp⟩
  · simp at h; omega

theorem once {σ0 : St} {ad0 : Option Addr} {l : List Op} (hH0 : Holds σ0 8 c8 ad0 l) (drop : Int) (c : Rec) : ∃ σ', evCall Try.prog env 10000 12 5 [.slice ad0 l.length 0, .int .i64 drop, c.agg] σ0 = some (.bool true, σ') := by
  unfold Rec.agg
  rw [f5_eq]
  generalize hσ1 : σ0.new (Blk.own [Value.int IntKind.i64 c.seq, Value.int IntKind.i64 c.kind, Value.int IntKind.i64 c.block, Value.string c.data, Value.int IntKind.i64 c.number] 34) = σ1
  have hn1 : σ1.get σ0.next = some (Blk.own [Value.int IntKind.i64 c.seq, Value.int IntKind.i64 c.kind, Value.int IntKind.i64 c.block, Value.string c.data, Value.int IntKind.i64 c.number] 34) := by rw [← hσ1, get_new_same]
  have hs1 : Same σ0 σ1 [] := by rw [← hσ1]; exact Same.new _ _ _
  have hx1 : σ1.next = σ0.next + 1 := by rw [← hσ1]; rfl
  have hO1 : Owns σ0 σ1 [[σ0.next]] := (Owns.start σ0).more hs1 (fun q hq => by simp at hq; omega)
  obtain ⟨σ2, g2, hs2⟩ := awake_spec 10000 7 (by omega) σ1
  have hO2 := hO1.idle hs2
  have h2n := hs2.1
  have hn2 : σ2.get σ0.next = _ := (hs2.2 _ (by omega) (by simp)).trans hn1
  have hend : ∃ σ', (bnd (evCall Try.prog env 10000 11 6 [] σ2) fun v10 v11 => asB v10 fun v12 => some (Value.bool v12, v11)) = some (.bool true, σ') := by
    obtain ⟨σ3, g3, _⟩ := awake_spec 10000 7 (by omega) σ2
    rw [g3, bnd_some, asB_b]; exact ⟨σ3, rfl⟩
  rw [g2, bnd_some, asB_b, not_true, br_false]
  obtain ⟨b, g3, hb⟩ := few_spec 10000 10 (by omega) hH0 hO2.kept
  rw [g3, bnd_some, asB_b]
  cases b with
  | false => rw [not_false, br_true]; exact hend
  | true =>
  have hl := hb rfl
  rw [not_true, br_false, ld_at hn2 3 _ rfl, asS_s]
  by_cases hd : (c.data.size : Int) > 100
  · rw [decide_eq_true hd, br_true]; exact hend
  obtain ⟨σ3, g4, hS3, hs3⟩ := new_spec 10000 10 σ2
  rw [decide_eq_false hd, br_false, g4, bnd_some, asP_p]
  have hO3 : Owns σ0 σ3 [[σ2.next], [σ0.next]] := hO2.more hs3 (fun q hq => by simp at hq; subst hq; exact ⟨Nat.le_refl _, hS3.lt _ (by simp)⟩)
  have hn3 : σ3.get σ0.next = _ := (hs3.2 _ (by omega) (by simp)).trans hn2
  obtain ⟨v, σ4, g5, rfl, F4, rs, hS4, _, hx4, _, hT4⟩ := put_spec 10000 7 (by omega) hl hH0 (by omega) (by omega) (N := 0) (by simp) (by omega) (by simp) hS3 (hO3.pick [0] (by decide)) (by intro i r h; simp at h)
  rw [List.nil_append] at hS4
  have hO4 := hO3.turned 0 rfl hT4
  have hoff : ∀ {σ : St} {F : List Nat}, Owns σ0 σ [F, [σ0.next]] → σ0.next ∉ F := fun h => h.off 1 0 (by omega) rfl rfl _ (by simp)
  have hlt' : ∀ {σ : St} {F : List Nat}, Owns σ0 σ [F, [σ0.next]] → σ0.next < σ.next := fun h => h.lt 1 rfl _ (by simp)
  have hn4 : σ4.get σ0.next = _ := (hT4.same.2 _ (hlt' hO3) (hoff hO3)).trans hn3
  obtain ⟨σ5, g6, hS5, hT5⟩ := flush_spec hS4 10000 10
  have hO5 : Owns σ0 σ5 [F4, [σ0.next]] := hO4.turned 0 rfl hT5
  have hn5 : σ5.get σ0.next = _ := (hT5.same.2 _ (hlt' hO4) (hoff hO4)).trans hn4
  rw [g5, bnd_some, asT_t, toList0, endl_n, g6, bnd_some, asT_t, toList0, endl_n]
  have key : ∃ (v : Value) (f m : Int) (rs' : List Rec) (F' : List Nat) (σ6 : St), evCall Try.prog env 10000 11 17 [.pointer (some ⟨σ2.next, 0, none⟩), .int .i64 drop] σ5 = some (v, σ6) ∧ Stg σ6 σ2.next F' f rs' rs'.length m ∧ Turn σ5 σ6 F4 F' ∧ 1 ≤ f ∧ f ≤ 1000 ∧ rs'.length ≤ 1000 := by
    rcases drop_spec hS5 10000 7 (by omega) (by omega) (Nat.le_refl _) (by omega) (by omega) drop with ⟨j, r, F', σ6, w1, w2, w3, w4, _⟩ | ⟨v, σ6, w1, w2, _⟩
    · have hdl : (rs.drop (j + 1)).length = rs.length - (j + 1) := List.length_drop
      exact ⟨_, _, _, _, F', σ6, w1, by rw [hdl]; exact w2, w3, by omega, by omega, by omega⟩
    · exact ⟨_, 1, _, rs, F4, σ6, w1, hS5.idle w2, .idle w2 hS5.lt, by omega, by omega, by omega⟩
  obtain ⟨v, f, m, rs', F6, σ6, g7, hS6, hT6, hf0, hf1, hl6⟩ := key
  have hO6 := hO5.turned 0 rfl hT6
  have hn6 : σ6.get σ0.next = _ := (hT6.same.2 _ (hlt' hO5) (hoff hO5)).trans hn5
  rw [g7, bnd_some, last_spec hS6 10000 10 hf0 (by omega) (by omega) (Nat.le_refl _), bnd_some, asT_t, toList2, uncons_c, asI_i, uncons_c, asI_i, endl_n, dropped_spec hS6 10000 10 hf0 (by omega), bnd_some, asT_t, toList2, uncons_c, asI_i, uncons_c, asI_i, endl_n, put_int hn6 0 _ _ (by simp)]
  have hw : IntKind.wrap .i64 ((1 : Int) + mx 0 (IntKind.wrap .i64 (f + (rs'.length : Int) - 1 - 1))) = max 1 (f + (rs'.length : Int) - 1) := by
    rw [wrap_in (f + (rs'.length : Int) - 1 - 1) (by omega) (by omega)]
    unfold mx
    split <;> rw [wrap_in _ (by omega) (by omega)] <;> omega
  rw [hw]
  have hs7 := Same.set σ6 σ0.next (.own (List.set [Value.int .i64 c.seq, .int .i64 c.kind, .int .i64 c.block, .string c.data, .int .i64 c.number] 0 (.int .i64 (max 1 (f + (rs'.length : Int) - 1)))) 34)
  have hn7 : (σ6.set σ0.next (.own (List.set [Value.int .i64 c.seq, .int .i64 c.kind, .int .i64 c.block, .string c.data, .int .i64 c.number] 0 (.int .i64 (max 1 (f + (rs'.length : Int) - 1)))) 34)).get σ0.next = some (.own [.int .i64 (max 1 (f + (rs'.length : Int) - 1)), .int .i64 c.kind, .int .i64 c.block, .string c.data, .int .i64 c.number] 34) := by rw [get_set_same]; rfl
  generalize σ6.set σ0.next (.own (List.set [Value.int .i64 c.seq, .int .i64 c.kind, .int .i64 c.block, .string c.data, .int .i64 c.number] 0 (.int .i64 (max 1 (f + (rs'.length : Int) - 1)))) 34) = σ7 at hs7 hn7
  have hS7 : Stg σ7 σ2.next F6 f rs' rs'.length m := hS6.same hs7 (hO6.off 0 1 (by omega) rfl rfl)
  by_cases ht : f + (rs'.length : Int) - 1 > 0
  · rw [decide_eq_true ht, br_true, lds_all (n := 5) hn7 rfl, uncons_c, asI_i, uncons_c, asI_i, uncons_c, asI_i, uncons_c, asS_s, uncons_c, asI_i, endl_n]
    obtain ⟨v, σ8, g8, rs8, F8, rfl, hS8, hT8, hor⟩ := take_spec hS7 10000 8 hf0 (by omega) (by omega) (Nat.le_refl _) ⟨max 1 (f + (rs'.length : Int) - 1), c.kind, c.block, c.data, c.number⟩
    rw [show Value.agg #[Value.int .i64 (max 1 (f + (rs'.length : Int) - 1)), .int .i64 c.kind, .int .i64 c.block, .string c.data, .int .i64 c.number] = Rec.agg ⟨max 1 (f + (rs'.length : Int) - 1), c.kind, c.block, c.data, c.number⟩ from rfl, g8, bnd_some, asI_i]
    rcases hor with rfl | ⟨h, _⟩
    · rw [show (f + (rs8.length : Int) - 1 != f + (rs8.length : Int) - 1) = false by simp, br_false]
      exact once_tail 10000 7 hS8 hf0 hf1 hl6
    · simp only at h; omega
  · rw [decide_eq_false ht, br_false]
    exact once_tail 10000 7 hS7 hf0 hf1 hl6

