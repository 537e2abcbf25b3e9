/-
  StageUpTo, in plain words: the records up to a marker end with it; dropped, they are gone.
-/
import Derived.Test.YtacniifcgjcedaaStD
import Derived.Test.YtacniifcgjcedaaAm17
set_option linter.unusedVariables false
set_option linter.unusedSimpArgs false
namespace Go.AM.St
open Go.Proofs

theorem mem_marksOf (l : List Rec) (m : Int) : m ∈ marksOf l ↔ ∃ r ∈ l, Hit m r := by
  unfold marksOf
  rw [List.mem_filterMap]
  constructor
  · rintro ⟨r, hr, h⟩
    by_cases hk : r.kind = 2
    · rw [if_pos hk] at h; exact ⟨r, hr, hk, by simpa using h⟩
    · rw [if_neg hk] at h; cases h
  · rintro ⟨r, hr, hk, rfl⟩
    exact ⟨r, hr, by rw [if_pos hk]⟩

/-- What UpTo answers of a list, all of it fast. -/
def Upto (m : Int) (rs out : List Rec) (ok : Bool) : Prop :=
  (ok = true ∧ ∃ (j : Nat) (r : Rec), out = rs.take (j + 1) ∧ rs[j]? = some r ∧ Hit m r ∧ ∀ j' r', j' < j → rs[j']? = some r' → ¬ Hit m r') ∨ (ok = false ∧ out = [] ∧ ∀ r ∈ rs, ¬ Hit m r)

theorem seq_loop (L k : Nat) (hL : 2000 < L) {σ : St} {a : Nat} {F : List Nat} {rs : List Rec} (hS : Stg σ a F 1 rs rs.length 0) (hnum : Numbered 1 rs) (hl : rs.length ≤ 200) {mark : Int} {out : List Rec} {ok : Bool} (hu : Upto mark rs out ok) {ad : Option Addr} {z : Nat} {q : List Nat} (hR : Row c5 5 34 σ ad z q out) : ∀ n i : Nat, i ≤ out.length → out.length - i < n →
    ∃ σ9, lpAt Try.prog env L (k + 4) 4 [true, true, true, true, true, true, true, true, true, true, false, true] [] n [(1, .int .i64 mark), (5, .pointer (some ⟨a, 0, none⟩)), (6, .slice ad out.length z), (7, .bool ok), (67, .int .i64 out.length), (68, .int .i64 i)] σ = some (.bool true, σ9)
  | 0, i, _, h => by omega
  | n + 1, i, hi, h => by
    have hol : out.length ≤ 200 := by
      rcases hu with ⟨_, j, r, rfl, _⟩ | ⟨_, rfl, _⟩
      · rw [List.length_take]; omega
      · simp
    rw [f4_l17]
    by_cases hie : i = out.length
    · rw [decide_eq_false (by omega), br_false, last_spec hS L (k + 3) (by omega) (by omega) (by omega) (Nat.le_refl _), bnd_some, asT_t, toList2, uncons_c, asI_i, uncons_c, asI_i, endl_n]
      rcases drop_spec hS L k hL (by omega) (Nat.le_refl _) (by omega) (by omega) mark with ⟨j, r, F', σ1, g1, hS1, hT1, hjf, hj, hh, hno⟩ | ⟨v, σ1, g1, hs1, hno⟩
      · rcases hu with ⟨rfl, j2, r2, rfl, hj2, hh2, hno2⟩ | ⟨rfl, rfl, hno2⟩
        · have hjj : j = j2 := by
            rcases Nat.lt_trichotomy j j2 with h | h | h
            · exact absurd hh (hno2 j r h hj)
            · exact h
            · exact absurd hh2 (hno j2 r2 h hj2)
          subst hjj
          have hdl : (rs.drop (j + 1)).length = rs.length - (j + 1) := List.length_drop
          have htl : (rs.take (j + 1)).length = j + 1 := by rw [List.length_take]; omega
          rw [g1, bnd_some, eqNil_nil, show (!(true == true)) = false from rfl, br_false, dropped_spec hS1 L (k + 3) (by omega) (by omega), bnd_some, asT_t, toList2, uncons_c, asI_i, uncons_c, asI_i, endl_n, last_spec hS1 L (k + 3) (by omega) (by omega) (by omega) (by omega), bnd_some, asT_t, toList2, uncons_c, asI_i, uncons_c, asI_i, endl_n,
            show ((1 + ((j + 1 : Nat) : Int) + ((rs.drop (j + 1)).length : Int) - 1) == 1 + (rs.length : Int) - 1) = true by simp; omega, br_true, show (1 + ((j + 1 : Nat) : Int) - 1 == ((rs.take (j + 1)).length : Int)) = true by rw [htl]; simp; omega, br_true, br_true]
          exact ⟨σ1, by simp⟩
        · exact absurd hh (hno2 r (List.mem_of_getElem? hj))
      · rcases hu with ⟨rfl, j2, r2, rfl, hj2, hh2, hno2⟩ | ⟨rfl, rfl, hno2⟩
        · exact absurd hh2 (hno r2 (by rw [List.take_length]; exact List.mem_of_getElem? hj2))
        · have hS1 := hS.idle hs1
          rw [g1, bnd_some, eqNil_iface, show (!(false == false)) = false from rfl, br_false, dropped_spec hS1 L (k + 3) (by omega) (by omega), bnd_some, asT_t, toList2, uncons_c, asI_i, uncons_c, asI_i, endl_n, last_spec hS1 L (k + 3) (by omega) (by omega) (by omega) (Nat.le_refl _), bnd_some, asT_t, toList2, uncons_c, asI_i, uncons_c, asI_i, endl_n,
            show (1 + (rs.length : Int) - 1 == 1 + (rs.length : Int) - 1) = true by simp, br_true, show ((1 : Int) - 1 == ((([] : List Rec).length : Nat) : Int)) = true from rfl, br_true, br_false]
          refine ⟨σ1, ?_⟩
          have : (((0 : Int) == mark) == (mark == 0)) = true := by
            by_cases h : mark = 0
            · subst h; rfl
            · rw [show (mark == 0) = false by simpa using h, show ((0 : Int) == mark) = false by simp; omega]; rfl
          rw [this]
    · rcases hu with ⟨rfl, j, r, rfl, hj, hh, hno⟩ | ⟨rfl, rfl, _⟩
      · have hjl := (List.getElem?_eq_some_iff.1 hj).1
        have htl : (rs.take (j + 1)).length = j + 1 := by rw [List.length_take]; omega
        rw [htl] at hi h hie hol
        have hget : (rs.take (j + 1))[i]? = some rs[i] := by rw [List.getElem?_take, if_pos (by omega)]; exact List.getElem?_eq_getElem (by omega)
        have hget0 : rs[i]? = some rs[i] := List.getElem?_eq_getElem (by omega)
        obtain ⟨q0, e0, hat⟩ := hR.at c5_len hget
        have hseq := hnum i _ hget0
        have hij : Hit mark rs[i] ↔ i = j := by
          constructor
          · intro h1
            rcases Nat.lt_or_ge i j with h2 | h2
            · exact absurd h1 (hno i _ h2 hget0)
            · omega
          · rintro rfl
            rw [hget0] at hj; cases hj; exact hh
        have hk1 := hat 1 (.int .i64 rs[i].kind) (0 + (i : Int).toNat * 5 + 1) (by omega) rfl (by omega)
        have hk4 := hat 4 (.int .i64 rs[i].number) (0 + (i : Int).toNat * 5 + 4) (by omega) rfl (by omega)
        have hk0 := hat 0 (.int .i64 rs[i].seq) (0 + (i : Int).toNat * 5 + 0) (by omega) rfl (by omega)
        rw [hseq] at hk0
        have ih := seq_loop L k hL hS hnum hl (.inl ⟨rfl, j, r, rfl, hj, hh, hno⟩) hR n (i + 1) (by rw [htl]; omega) (by rw [htl]; omega)
        have hw : IntKind.wrap .i64 ((i : Int) + 1) = ((i + 1 : Nat) : Int) := by rw [wrap_in _ (by omega) (by omega)]; omega
        have hs : ((1 + (i : Int)) != ((i + 1 : Nat) : Int)) = false := by simp; omega
        rw [htl, e0] at ih
        rw [htl, decide_eq_true (by omega), br_true, need_of (by simp [inRange]; omega), e0, adr_some, hk1, asI_i]
        by_cases hk : rs[i].kind = 2
        · have hb : (rs[i].number == mark) = ((i : Int) == (((j + 1 : Nat) : Int) - 1)) := by
            by_cases h1 : i = j
            · have h2 := (hij.2 h1).2
              rw [show (rs[i].number == mark) = true by simpa using h2]; symm; simp; omega
            · have h2 : ¬ rs[i].number = mark := fun h2 => h1 (hij.1 ⟨hk, h2⟩)
              rw [show (rs[i].number == mark) = false by simpa using h2]; symm; simp; omega
          rw [show (rs[i].kind == 2) = true by simpa using hk, br_true, need_of (by simp [inRange]; omega), adr_some, hk4, asI_i, wrap_in (((j + 1 : Nat) : Int) - 1) (by omega) (by omega), hb, show ∀ b : Bool, (!(b == b)) = false from fun b => by cases b <;> rfl, br_false, need_of (by simp [inRange]; omega), adr_some, hk0, asI_i, hw, hs, br_false]
          exact ih
        · have h1 : ¬ i = j := fun h1 => hk (hij.2 h1).1
          rw [show (rs[i].kind == 2) = false by simpa using hk, br_false, wrap_in (((j + 1 : Nat) : Int) - 1) (by omega) (by omega), show ((i : Int) == (((j + 1 : Nat) : Int) - 1)) = false by simp; omega, show (!(false == false)) = false from rfl, br_false, need_of (by simp [inRange]; omega), adr_some, hk0, asI_i, hw, hs, br_false]
          exact ih
      · simp at hi; simp at hie; omega

theorem has_loop (L k : Nat) {σ : St} {a : Nat} {mark : Int} {ok : Bool} {ad6 : Option Addr} {n6 z6 : Nat} {ad : Option Addr} {z : Nat} {q : List Nat} {ms : List Int} (hml : ms.length ≤ 1000) (hR : Row c1 1 3 σ ad z q ms) (hok : ok = decide (mark ∈ ms)) (hok6 : ok = decide ((n6 : Int) > 0))
    (go : ∃ σ9, lpAt Try.prog env L (k + 4) 4 [true, true, true, true, true, true, true, true, true, true, false, true] [] L [(1, .int .i64 mark), (5, .pointer (some ⟨a, 0, none⟩)), (6, .slice ad6 n6 z6), (7, .bool ok), (67, .int .i64 n6), (68, .int .i64 (0 : Int))] σ = some (.bool true, σ9)) : ∀ n i : Nat, i ≤ ms.length → ms.length - i < n →
    ∃ σ9, lpAt Try.prog env L (k + 4) 4 [true, true, true, true, true, true, true, true, false, true] [] n [(1, .int .i64 mark), (5, .pointer (some ⟨a, 0, none⟩)), (6, .slice ad6 n6 z6), (7, .bool ok), (8, .slice ad ms.length z), (9, .bool (decide (mark ∈ ms.take i))), (42, .int .i64 ms.length), (43, .int .i64 i)] σ = some (.bool true, σ9)
  | 0, i, _, h => by omega
  | n + 1, i, hi, h => by
    rw [f4_l10]
    by_cases hie : i = ms.length
    · subst hie
      rw [decide_eq_false (by omega), br_false, List.take_length, ← hok, show ∀ b : Bool, (!(b == b)) = false from fun b => by cases b <;> rfl, br_false, ← hok6, show ∀ b : Bool, (!(b == b)) = false from fun b => by cases b <;> rfl, br_false]
      exact go
    · have hget : ms[i]? = some ms[i] := List.getElem?_eq_getElem (by omega)
      obtain ⟨q0, e0, hat⟩ := hR.at c1_len hget
      have ih := has_loop L k hml hR hok hok6 go n (i + 1) (by omega) (by omega)
      have htk : ms.take (i + 1) = ms.take i ++ [ms[i]] := by rw [List.take_add_one, hget]; rfl
      rw [htk] at ih
      have hw : IntKind.wrap .i64 ((i : Int) + 1) = ((i + 1 : Nat) : Int) := by rw [wrap_in _ (by omega) (by omega)]; omega
      rw [decide_eq_true (by omega), br_true]
      by_cases hin : mark ∈ ms.take i
      · rw [decide_eq_true (List.mem_append.2 (.inl hin))] at ih
        rw [decide_eq_true hin, br_true, hw]
        exact ih
      · rw [decide_eq_false hin, br_false, need_of (by simp [inRange]; omega), e0, adr_some, hat 0 (.int .i64 ms[i]) _ (by omega) rfl (by simp), asI_i, hw, ← e0]
        have : decide (mark ∈ ms.take i ++ [ms[i]]) = (ms[i] == mark) := by
          by_cases h1 : ms[i] = mark
          · rw [show (ms[i] == mark) = true by simpa using h1, decide_eq_true (List.mem_append.2 (.inr (by simp [h1])))]
          · rw [show (ms[i] == mark) = false by simpa using h1, decide_eq_false (fun h => by
              rcases List.mem_append.1 h with h | h
              · exact hin h
              · simp at h; exact h1 h.symm)]
        rw [this] at ih
        exact ih

theorem upto {σ0 : St} {ad0 : Option Addr} {l : List Op} (hH0 : Holds σ0 8 c8 ad0 l) (mark : Int) : ∃ σ', evCall Try.prog env 10000 12 4 [.slice ad0 l.length 0, .int .i64 mark] σ0 = some (.bool true, σ') := by
  rw [f4_eq]
  obtain ⟨σ1, g1, hs1⟩ := awake_spec 10000 7 (by omega) σ0
  rw [g1, bnd_some, asB_b, not_true, br_false]
  have hO1 : Owns σ0 σ1 [] := (Owns.start σ0).idle hs1
  obtain ⟨b, g2, hb⟩ := few_spec 10000 10 (by omega) hH0 hO1.kept
  rw [g2, bnd_some, asB_b]
  cases b with
  | false =>
    obtain ⟨σ2, g3, _⟩ := awake_spec 10000 7 (by omega) σ1
    rw [not_false, br_true, g3, bnd_some, asB_b]; exact ⟨σ2, rfl⟩
  | true =>
  have hl := hb rfl
  obtain ⟨σ2, g4, hS2, hs2⟩ := new_spec 10000 10 σ1
  have hO2 : Owns σ0 σ2 [[σ1.next]] := hO1.more hs2 (fun q hq => ⟨by simp at hq; omega, hS2.lt q hq⟩)
  rw [not_true, br_false, g4, bnd_some, asP_p]
  obtain ⟨v, σ3, g5, rfl, F3, rs, hS3, hO3, hx3, hnum, hT3⟩ := put_spec 10000 7 (by omega) hl hH0 (by omega) (by omega) (N := 0) (by simp) (by omega) (by simp) hS2 hO2 (by intro i r h; simp at h)
  rw [List.nil_append] at hS3 hnum
  obtain ⟨σ4, g6, hS4, hT4⟩ := flush_spec hS3 10000 10
  rw [g5, bnd_some, asT_t, toList0, endl_n, g6, bnd_some, asT_t, toList0, endl_n]
  have key : ∃ out ok ad z q σ5, evCall Try.prog env 10000 11 15 [.pointer (some ⟨σ1.next, 0, none⟩), .int .i64 mark] σ4 = some (.tuple #[.slice ad out.length z, .bool ok], σ5) ∧ Row c5 5 34 σ5 ad z q out ∧ Same σ4 σ5 [] ∧ Upto mark rs out ok := by
    rcases upto_spec hS4 10000 8 (by omega) (by omega) (Nat.le_refl _) mark with ⟨j, r, ad, z, q, σ5, w1, w2, w3, w4, w5, w6, w7, w8⟩ | ⟨σ5, w1, w2, w3⟩
    · refine ⟨rs.take (j + 1), true, ad, z, q, σ5, ?_, w2, w3, .inl ⟨rfl, j, r, rfl, w6, w7, w8⟩⟩
      rw [w1, List.length_take, Nat.min_eq_left (by omega)]
    · exact ⟨[], false, none, 0, [], σ5, w1, Row.nil _ _ _ _, w2, .inr ⟨rfl, rfl, by rw [List.take_length] at w3; exact w3⟩⟩
  obtain ⟨out, ok, ad, z, q, σ5, g7, hR5, hs5, hu⟩ := key
  have hS5 := hS4.idle hs5
  rw [g7, bnd_some, asT_t, toList2, uncons_c, asSl_s, uncons_c, asB_b, endl_n]
  obtain ⟨v, σ6, g8, adM, zM, qM, rfl, hM, hs6, _⟩ := marks_spec hS5 10000 9 (by omega) (by omega) (Nat.le_refl _)
  rw [List.take_length] at hM g8
  have hS6 := hS5.idle hs6
  have hR6 := hR5.same hs6 (by simp)
  have hml := marksOf_len rs
  rw [g8, bnd_some, asSl_s]
  have hok : ok = decide (mark ∈ marksOf rs) := by
    rcases hu with ⟨rfl, j, r, _, hj, hh, _⟩ | ⟨rfl, _, hno⟩
    · exact (decide_eq_true ((mem_marksOf rs mark).2 ⟨r, List.mem_of_getElem? hj, hh⟩)).symm
    · exact (decide_eq_false (fun h => by obtain ⟨r, hr, hh⟩ := (mem_marksOf rs mark).1 h; exact hno r hr hh)).symm
  have hok6 : ok = decide ((out.length : Int) > 0) := by
    rcases hu with ⟨rfl, j, r, rfl, hj, hh, _⟩ | ⟨rfl, rfl, hno⟩
    · have := (List.getElem?_eq_some_iff.1 hj).1
      exact (decide_eq_true (by rw [List.length_take]; omega)).symm
    · rfl
  have hol : out.length ≤ 200 := by
    rcases hu with ⟨_, j, r, rfl, _⟩ | ⟨_, rfl, _⟩
    · rw [List.length_take]; omega
    · simp
  have := has_loop 10000 7 (by omega) hM hok hok6 (seq_loop 10000 7 (by omega) hS6 hnum (by omega) hu hR6 10000 0 (by omega) (by omega)) 10000 0 (by omega) (by omega)
  rw [List.take_zero, show decide (mark ∈ ([] : List Int)) = false from rfl] at this
  exact this

end Go.AM.St
