/-
  StageFast, in plain words: what was flushed outlasts any crash.
-/
import Derived.Test.YtacniifcgjcedaaStB
import Derived.Test.YtacniifcgjcedaaAm17
set_option linter.unusedVariables false
set_option linter.unusedSimpArgs false
namespace Go.AM.St
open Go.Proofs

theorem fast {σ0 : St} {ad0 ad1 : Option Addr} {l more : List Op} (hH0 : Holds σ0 8 c8 ad0 l) (hH1 : Holds σ0 8 c8 ad1 more) (keep : Int) : ∃ σ', evCall Try.prog env 10000 12 3 [.slice ad0 l.length 0, .slice ad1 more.length 0, .int .i64 keep] σ0 = some (.bool true, σ') := by
  rw [f3_eq]
  obtain ⟨σ1, g1, hs1⟩ := awake_spec 10000 7 (by omega) σ0
  rw [g1, bnd_some, asB_b, not_true, br_false]
  have hO1 : Owns σ0 σ1 [] := (Owns.start σ0).idle hs1
  have hend : ∃ σ', (bnd (evCall Try.prog env 10000 11 6 [] σ1) fun v10 v11 => asB v10 fun v12 => some (Value.bool v12, v11)) = some (.bool true, σ') := by
    obtain ⟨σ2, g3, _⟩ := awake_spec 10000 7 (by omega) σ1
    rw [g3, bnd_some, asB_b]; exact ⟨σ2, rfl⟩
  obtain ⟨b, g2, hb⟩ := few_spec 10000 10 (by omega) hH0 hO1.kept
  rw [g2, bnd_some, asB_b]
  cases b with
  | false => rw [not_false, br_true]; exact hend
  | true =>
  obtain ⟨b, g3, hb'⟩ := few_spec 10000 10 (by omega) hH1 hO1.kept
  rw [not_true, br_false, g3, bnd_some, asB_b]
  cases b with
  | false => rw [not_false, br_true]; exact hend
  | true =>
  have hl := hb rfl
  have hm := hb' rfl
  obtain ⟨σ2, g4, hS2, hs2⟩ := new_spec 10000 10 σ1
  have hO2 : Owns σ0 σ2 [[σ1.next]] := hO1.more hs2 (fun q hq => ⟨by simp at hq; omega, hS2.lt q hq⟩)
  rw [not_true, br_false, g4, bnd_some, asP_p]
  obtain ⟨v, σ3, g5, rfl, F3, ext, hS3, hO3, hx3, hnum3⟩ := put_spec 10000 7 (by omega) hl hH0 (by omega) (by omega) (N := 0) (by simp) (by omega) (by simp) hS2 hO2 (by intro i r h; simp at h)
  rw [g5, bnd_some, asT_t, toList0, endl_n]
  rw [List.nil_append] at hS3
  obtain ⟨σ4, g6, hS4, hT4⟩ := flush_spec hS3 10000 10
  have hO4 := hO3.turned 0 rfl hT4
  rw [g6, bnd_some, asT_t, toList0, endl_n, last_spec hS4 10000 10 (by omega) (by omega) (by omega) (Nat.le_refl _), bnd_some, asT_t, toList2, uncons_c, asI_i, uncons_c, asI_i, endl_n]
  obtain ⟨v, σ5, g7, rfl, F5, ext5, hS5, hO5, hx5, _⟩ := put_spec 10000 7 (by omega) hm hH1 (by omega) (by omega) (N := 200) (by omega) (by omega) (Nat.le_refl _) hS4 hO4 hnum3
  have hl5 : (ext ++ ext5).length = ext.length + ext5.length := List.length_append
  rw [g7, bnd_some, asT_t, toList0, endl_n, last_spec hS5 10000 10 (by omega) (by omega) (by omega) (by omega), bnd_some, asT_t, toList2, uncons_c, asI_i, uncons_c, asI_i, endl_n]
  obtain ⟨n, σ6, g8, hn, hn2, hS6, hT6⟩ := crash_spec hS5 10000 10 (by omega) (by omega) keep
  have htl : ((ext ++ ext5).take n).length = n := by rw [List.length_take]; omega
  rw [g8, bnd_some, asT_t, toList0, endl_n, last_spec hS6 10000 10 (by omega) (by omega) (by omega) (by omega), bnd_some, asT_t, toList2, uncons_c, asI_i, uncons_c, asI_i, endl_n, htl]
  have e1 : ((1 : Int) + (ext.length : Int) - 1 != 1 + (ext.length : Int) - 1) = false := by simp
  have e2 : ((1 : Int) + (n : Int) - 1 != 1 + (n : Int) - 1) = false := by simp
  rw [e1, br_false, e2, br_false]
  have hw1 : IntKind.wrap .i64 (1 + ((ext ++ ext5).length : Int) - 1 - (1 + (ext.length : Int) - 1)) = ((ext ++ ext5).length : Int) - ext.length := by rw [wrap_in _ (by omega) (by omega)]; omega
  rw [hw1]
  generalize mx 0 (mn keep (((ext ++ ext5).length : Int) - ext.length)) = M at hn ⊢
  rw [wrap_in (1 + (ext.length : Int) - 1 + M) (by omega) (by omega)]
  have e3 : (1 + (n : Int) - 1 != 1 + (ext.length : Int) - 1 + M) = false := by simp; omega
  rw [e3, br_false]
  obtain ⟨σ7, g9, hS7, hT7⟩ := cut_spec hS6 10000 10
  rw [g9, bnd_some, asI_i, last_spec hS7 10000 10 (by omega) (by omega) (by simp) (by simp), bnd_some, asT_t, toList2, uncons_c, asI_i, uncons_c, asI_i, endl_n, htl]
  have hw2 : IntKind.wrap .i64 (1 + (n : Int) - 1 - (1 + ((([] : List Rec).length : Nat) : Int) - 1)) = (n : Int) := by rw [wrap_in _ (by simp; omega) (by simp; omega)]; simp; omega
  have e4 : ((n : Int) == (n : Int)) = true := by simp
  have hw3 : IntKind.wrap .i64 (1 + ((([] : List Rec).length : Nat) : Int) - 1 + 1) = 1 + ((([] : List Rec).length : Nat) : Int) := by rw [wrap_in _ (by simp) (by simp)]; simp
  rw [hw2, e4, br_true, need_true, need_true, hw3]
  obtain ⟨v, σ8, g10, F8, rfl, _, _⟩ := take_mark hS7 10000 8 (by omega) (by omega) (by simp) (by simp) 1 (by omega) (by omega)
  rw [show Value.agg #[Value.int .i64 (1 + ((([] : List Rec).length : Nat) : Int)), .int .i64 2, .int .i64 0, .string ⟨#[]⟩, .int .i64 1] = Rec.agg ⟨1 + ((([] : List Rec).length : Nat) : Int), 2, 0, ⟨#[]⟩, 1⟩ from rfl, g10, bnd_some, asI_i]
  exact ⟨σ8, by simp⟩

end Go.AM.St
