/-
  THE STAGE, more: its markers; what a script puts there.
-/
import Derived.Test.YtacniifcgjcedaaDoorSpA
import Derived.Test.YtacniifcgjcedaaDoorAm18
set_option linter.unusedVariables false
set_option linter.unusedSimpArgs false
set_option linter.unusedSectionVars false
namespace Go.AM.Sp
open Go.Proofs

def marksOf (l : List Rec) : List Int := l.filterMap fun r => if r.kind = 2 then some r.number else none
theorem marksOf_snoc (l : List Rec) (r : Rec) : marksOf (l ++ [r]) = if r.kind = 2 then marksOf l ++ [r.number] else marksOf l := by
  unfold marksOf
  rw [List.filterMap_append]
  by_cases h : r.kind = 2 <;> simp [h]
theorem marksOf_len (l : List Rec) : (marksOf l).length ≤ l.length := List.length_filterMap_le _ _

theorem marks_loop (L k : Nat) {σs : St} {rl : List Rec} {ad : Option Addr} {z : Nat} {qs : List Nat} (hrl : rl.length ≤ 100000) (hqs : ∀ q ∈ qs, q < σs.next) : ∀ (n i : Nat) (σ : St) (adO : Option Addr) (zO : Nat) (qO : List Nat),
    i ≤ rl.length → rl.length - i < n → Row c5 5 23 σ ad z qs rl → Row c1 1 3 σ adO zO qO (marksOf (rl.take i)) → Same σs σ [] → (∀ q ∈ qO, σs.next ≤ q) →
    Ends (fun v σ' => ∃ adO zO qO, v = .slice adO (marksOf rl).length zO ∧ Row c1 1 3 σ' adO zO qO (marksOf rl) ∧ Same σs σ' [] ∧ ∀ q ∈ qO, σs.next ≤ q)
      (lpAt Tryd.prog env L k 12 [true, true, false, true] [] n [(3, .slice adO (marksOf (rl.take i)).length zO), (7, .slice ad rl.length z), (8, .int .i64 rl.length), (9, .int .i64 i)] σ)
  | 0, i, σ, adO, zO, qO, _, h, _, _, _, _ => by omega
  | n + 1, i, σ, adO, zO, qO, hi, h, hR, hO, hs, hq => by
    rw [f12_l3]
    by_cases hie : i = rl.length
    · rw [decide_eq_false (by omega), br_false]
      subst hie
      rw [List.take_length] at hO ⊢
      exact .leaf ⟨adO, zO, qO, rfl, hO, hs, hq⟩
    · have hget : rl[i]? = some rl[i] := List.getElem?_eq_getElem (by omega)
      obtain ⟨q, e, hat⟩ := hR.lds c5_len hget
      have htk : rl.take (i + 1) = rl.take i ++ [rl[i]] := by rw [List.take_add_one, hget]; rfl
      generalize rl[i] = r at hat htk
      obtain ⟨σ1, p1, p2, p3, p4⟩ := tmp_put σ [Value.int IntKind.i64 0, Value.int IntKind.i64 0, Value.int IntKind.i64 0, Value.string ⟨#[]⟩, Value.int IntKind.i64 0] [.int .i64 r.seq, .int .i64 r.kind, .int .i64 r.block, .string r.data, .int .i64 r.number] 23 rfl rfl
      rw [decide_eq_true (by omega), br_true, need_of (by simp [inRange]; omega), e, adr_some, hat _ (by simp), show c5 r = [.int .i64 r.seq, .int .i64 r.kind, .int .i64 r.block, .string r.data, .int .i64 r.number] from rfl, uncons_c, asI_i, uncons_c, asI_i, uncons_c, asI_i, uncons_c, asS_s, uncons_c, asI_i, endl_n, p1, ld_at p2 1 _ rfl, asI_i, ← e]
      have hw : IntKind.wrap .i64 ((i : Int) + 1) = ((i + 1 : Nat) : Int) := by rw [wrap_in _ (by omega) (by omega)]; omega
      have hs1 := hs.trans p3
      have hR1 : Row c5 5 23 σ1 ad z qs rl := hR.same p3 (by simp)
      have hO1 : Row c1 1 3 σ1 adO zO qO (marksOf (rl.take i)) := hO.same p3 (by simp)
      by_cases hk : r.kind = 2
      · rw [show (r.kind == 2) = true by simpa using hk, br_true, ld_at p2 4 _ rfl, asI_i]
        have hsn := marksOf_snoc (rl.take i) r
        rw [if_pos hk, ← htk] at hsn
        generalize hσ2 : σ1.new (Blk.own [Value.int IntKind.i64 r.number] 3) = σ2
        have hnew : σ2.get σ1.next = some (Blk.own [Value.int IntKind.i64 r.number] 3) := by rw [← hσ2, get_new_same]
        have hs2 : Same σ1 σ2 [] := by rw [← hσ2]; exact Same.new _ _ _
        have hO2 := hO1.same hs2 (by simp)
        have hR2 := hR1.same hs2 (by simp)
        have hml := marksOf_len (rl.take i)
        rw [List.length_take] at hml
        obtain ⟨ad', z', q', σ3, hgrow, hO3, hs3, hq3⟩ := grow_row (by_ := 8) hO2 c1_len c1_one (by omega) [r.number] [Value.int .i64 r.number] rfl 1 rfl (by unfold roomTop; omega) (by unfold sizeTop; omega)
        have hsn' : Same σs σ2 [] := hs1.trans hs2
        rw [row_one hnew, hgrow, hw]
        have hlen : (marksOf (rl.take i)).length + 1 = (marksOf (rl.take (i + 1))).length := by rw [hsn]; simp
        rw [hlen]
        rw [← hsn] at hO3
        have hR3 : Row c5 5 23 σ3 ad z qs rl := hR2.same hs3 (fun q h1 h2 => by have := hqs q h1; have := hq q h2; omega)
        exact marks_loop L k hrl hqs n (i + 1) σ3 ad' z' q' (by omega) (by omega) hR3 hO3 (hsn'.fresh hs3 (fun x hx => .inr (hq x hx))) (fun x hx => by
          rcases hq3 x hx with h | h
          · exact hq x h
          · have := hsn'.1; omega)
      · rw [show (r.kind == 2) = false by simpa using hk, br_false, hw]
        have hsn := marksOf_snoc (rl.take i) r
        rw [if_neg hk, ← htk] at hsn
        rw [← hsn] at hO1 ⊢
        exact marks_loop L k hrl hqs n (i + 1) σ1 adO zO qO (by omega) (by omega) hR1 hO1 hs1 hq

section
variable {σ : St} {a : Nat} {F : List Nat} {first mark : Int} {rs : List Rec} {fast : Nat} (h : Stg σ a F first rs fast mark) (L k : Nat)
include h
theorem safe_spec (hl : rs.length ≤ 100000) (hf : fast ≤ rs.length) : ∃ ad z qs, evCall Tryd.prog env L (k + 1) 29 [.pointer (some ⟨a, 0, none⟩)] σ = some (.slice ad (rs.take fast).length z, σ) ∧ Row c5 5 23 σ ad z qs (rs.take fast) ∧ ∀ q ∈ qs, q ∈ F := by
  obtain ⟨qs, ad, z, rfl, hne, hg, hrow⟩ := h.ex
  rw [f29_eq, ld_at hg 1 _ rfl, asSl_s, ld_at hg 2 _ rfl, asI_i, need_of (by rcases hrow.z with e | e <;> rw [e] <;> rfl), need_of (by simp [inRange]; omega), hrow.sub0]
  refine ⟨ad, z, qs, ?_, hrow.take fast, fun q hq => by simp [hq]⟩
  rw [List.length_take, Nat.min_eq_left hf]; rfl

theorem marks_spec (hL : rs.length < L) (hl : rs.length ≤ 100000) (hf : fast ≤ rs.length) :
    Ends (fun v σ' => ∃ adO zO qO, v = .slice adO (marksOf (rs.take fast)).length zO ∧ Row c1 1 3 σ' adO zO qO (marksOf (rs.take fast)) ∧ Same σ σ' [] ∧ ∀ q ∈ qO, σ.next ≤ q) (evCall Tryd.prog env L (k + 2) 12 [.pointer (some ⟨a, 0, none⟩)] σ) := by
  obtain ⟨ad, z, qs, g1, hrow, hq⟩ := safe_spec h L k hl hf
  rw [f12_eq, g1, bnd_some, asSl_s]
  have htl : (rs.take fast).length ≤ rs.length := by rw [List.length_take]; omega
  exact marks_loop L (k + 1) (by omega) (fun q hq' => h.lt q (hq q hq')) L 0 σ none 0 [] (by omega) (by omega) hrow (Row.nil _ _ _ _) (Same.refl _ _) (by simp)
end

/-- What a program that does nothing answers wrongly. -/
theorem awake_spec (L k : Nat) (hL : 10 < L) (σ : St) : ∃ σ', evCall Tryd.prog env L (k + 4) 5 [] σ = some (.bool true, σ') ∧ Same σ σ' [] := by
  rw [f5_eq]
  obtain ⟨σ1, g1, hS1, hs1⟩ := new_spec L (k + 2) σ
  rw [g1, bnd_some, asP_p, show (some (⟨σ.next, 0, none⟩ : Addr)).isNone = false from rfl, br_false]
  obtain ⟨v, σ2, g2, F2, rfl, hS2, hT2⟩ := take_mark hS1 L k (by omega) (by omega) (by simp) (by simp) 5 (by omega) (by omega)
  rw [show Value.agg #[Value.int .i64 1, .int .i64 2, .int .i64 0, .string ⟨#[]⟩, .int .i64 5] = Rec.agg ⟨1 + (([] : List Rec).length : Int), 2, 0, ⟨#[]⟩, 5⟩ from rfl, g2, bnd_some, asI_i, show ((1 + (([] : List Rec).length : Int)) != 1) = false from rfl, br_false]
  obtain ⟨σ3, g3, hS3, hT3⟩ := flush_spec hS2 L (k + 2)
  rw [g3, bnd_some, asT_t, toList0, endl_n]
  obtain ⟨v, σ4, g4, adO, zO, qO, rfl, hO, hs4, hq⟩ := marks_spec hS3 L (k + 1) (by simp; omega) (by simp) (Nat.le_refl _)
  rw [g4, bnd_some, asSl_s]
  have hm : marksOf (([] ++ [(⟨1 + (([] : List Rec).length : Int), 2, 0, ⟨#[]⟩, 5⟩ : Rec)]).take ([] ++ [(⟨1 + (([] : List Rec).length : Int), 2, 0, ⟨#[]⟩, 5⟩ : Rec)]).length) = [5] := rfl
  rw [hm] at hO ⊢
  obtain ⟨q, e, hat⟩ := hO.at c1_len (i := 0) (a := 5) rfl
  rw [show ((([5] : List Int).length : Int) == 1) = true from rfl, br_true, need_of (by rfl), e, adr_some, hat 0 (.int .i64 5) _ (by omega) rfl (by simp), asI_i]
  refine ⟨σ4, rfl, ?_⟩
  have h1n := hs1.1
  exact (hs1.fresh ((hT2.trans hT3).after hs4).same (fun x hx => .inr (by simp at hx; omega)))

end Go.AM.Sp
