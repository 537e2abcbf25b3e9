/-
  THE STAGE, more: its markers; what a script puts there.
-/
import Derived.Test.YtacniifcgjcedaaStA
import Derived.Test.YtacniifcgjcedaaAm18
set_option linter.unusedVariables false
set_option linter.unusedSimpArgs false
namespace Go.AM.St
open Go.Proofs

def marksOf (l : List Rec) : List Int := l.filterMap fun r => if r.kind = 2 then some r.number else none
theorem marksOf_snoc (l : List Rec) (r : Rec) : marksOf (l ++ [r]) = if r.kind = 2 then marksOf l ++ [r.number] else marksOf l := by
  unfold marksOf
  rw [List.filterMap_append]
  by_cases h : r.kind = 2 <;> simp [h]
theorem marksOf_len (l : List Rec) : (marksOf l).length ≤ l.length := List.length_filterMap_le _ _

theorem marks_loop (L k : Nat) {σs : St} {rl : List Rec} {ad : Option Addr} {z : Nat} {qs : List Nat} (hrl : rl.length ≤ 100000) (hqs : ∀ q ∈ qs, q < σs.next) : ∀ (n i : Nat) (σ : St) (adO : Option Addr) (zO : Nat) (qO : List Nat),
    i ≤ rl.length → rl.length - i < n → Row c5 5 34 σ ad z qs rl → Row c1 1 3 σ adO zO qO (marksOf (rl.take i)) → Same σs σ [] → (∀ q ∈ qO, σs.next ≤ q) →
    Ends (fun v σ' => ∃ adO zO qO, v = .slice adO (marksOf rl).length zO ∧ Row c1 1 3 σ' adO zO qO (marksOf rl) ∧ Same σs σ' [] ∧ ∀ q ∈ qO, σs.next ≤ q)
      (lpAt Try.prog env L k 16 [true, true, false, true] [] n [(3, .slice adO (marksOf (rl.take i)).length zO), (7, .slice ad rl.length z), (8, .int .i64 rl.length), (9, .int .i64 i)] σ)
  | 0, i, σ, adO, zO, qO, _, h, _, _, _, _ => by omega
  | n + 1, i, σ, adO, zO, qO, hi, h, hR, hO, hs, hq => by
    rw [f16_l3]
    by_cases hie : i = rl.length
    · rw [decide_eq_false (by omega), br_false]
      subst hie
      rw [List.take_length] at hO ⊢
      exact .leaf ⟨adO, zO, qO, rfl, hO, hs, hq⟩
    · have hget : rl[i]? = some rl[i] := List.getElem?_eq_getElem (by omega)
      obtain ⟨q, e, hat⟩ := hR.lds c5_len hget
      have htk : rl.take (i + 1) = rl.take i ++ [rl[i]] := by rw [List.take_add_one, hget]; rfl
      generalize rl[i] = r at hat htk
      obtain ⟨σ1, p1, p2, p3, p4⟩ := tmp_put σ [Value.int IntKind.i64 0, Value.int IntKind.i64 0, Value.int IntKind.i64 0, Value.string ⟨#[]⟩, Value.int IntKind.i64 0] [.int .i64 r.seq, .int .i64 r.kind, .int .i64 r.block, .string r.data, .int .i64 r.number] 34 rfl rfl
      rw [decide_eq_true (by omega), br_true, need_of (by simp [inRange]; omega), e, adr_some, hat _ (by simp), show c5 r = [.int .i64 r.seq, .int .i64 r.kind, .int .i64 r.block, .string r.data, .int .i64 r.number] from rfl, uncons_c, asI_i, uncons_c, asI_i, uncons_c, asI_i, uncons_c, asS_s, uncons_c, asI_i, endl_n, p1, ld_at p2 1 _ rfl, asI_i, ← e]
      have hw : IntKind.wrap .i64 ((i : Int) + 1) = ((i + 1 : Nat) : Int) := by rw [wrap_in _ (by omega) (by omega)]; omega
      have hs1 := hs.trans p3
      have hR1 : Row c5 5 34 σ1 ad z qs rl := hR.same p3 (by simp)
      have hO1 : Row c1 1 3 σ1 adO zO qO (marksOf (rl.take i)) := hO.same p3 (by simp)
      by_cases hk : r.kind = 2
      · rw [show (r.kind == 2) = true by simpa using hk, br_true, ld_at p2 4 _ rfl, asI_i]
        have hsn := marksOf_snoc (rl.take i) r
        rw [if_pos hk, ← htk] at hsn
        generalize hσ2 : σ1.new (Blk.own [Value.int IntKind.i64 r.number] 3) = σ2
        have hnew : σ2.get σ1.next = some (Blk.own [Value.int IntKind.i64 r.number] 3) := by rw [← hσ2, get_new_same]
        have hs2 : Same σ1 σ2 [] := by rw [← hσ2]; exact Same.new _ _ _
        have hO2 := hO1.same hs2 (by simp)
        have hR2 := hR1.same hs2 (by simp)
        have hml := marksOf_len (rl.take i)
        rw [List.length_take] at hml
        obtain ⟨ad', z', q', σ3, hgrow, hO3, hs3, hq3⟩ := grow_row (by_ := 8) hO2 c1_len c1_one (by omega) [r.number] [Value.int .i64 r.number] rfl 1 rfl (by unfold roomTop; omega) (by unfold sizeTop; omega)
        have hsn' : Same σs σ2 [] := hs1.trans hs2
        rw [row_one hnew, hgrow, hw]
        have hlen : (marksOf (rl.take i)).length + 1 = (marksOf (rl.take (i + 1))).length := by rw [hsn]; simp
        rw [hlen]
        rw [← hsn] at hO3
        have hR3 : Row c5 5 34 σ3 ad z qs rl := hR2.same hs3 (fun q h1 h2 => by have := hqs q h1; have := hq q h2; omega)
        exact marks_loop L k hrl hqs n (i + 1) σ3 ad' z' q' (by omega) (by omega) hR3 hO3 (hsn'.fresh hs3 (fun x hx => .inr (hq x hx))) (fun x hx => by
          rcases hq3 x hx with h | h
          · exact hq x h
          · have := hsn'.1; omega)
      · rw [show (r.kind == 2) = false by simpa using hk, br_false, hw]
        have hsn := marksOf_snoc (rl.take i) r
        rw [if_neg hk, ← htk] at hsn
        rw [← hsn] at hO1 ⊢
        exact marks_loop L k hrl hqs n (i + 1) σ1 adO zO qO (by omega) (by omega) hR1 hO1 hs1 hq

section
variable {σ : St} {a : Nat} {F : List Nat} {first mark : Int} {rs : List Rec} {fast : Nat} (h : Stg σ a F first rs fast mark) (L k : Nat)
include h
theorem safe_spec (hl : rs.length ≤ 100000) (hf : fast ≤ rs.length) : ∃ ad z qs, evCall Try.prog env L (k + 1) 21 [.pointer (some ⟨a, 0, none⟩)] σ = some (.slice ad (rs.take fast).length z, σ) ∧ Row c5 5 34 σ ad z qs (rs.take fast) ∧ ∀ q ∈ qs, q ∈ F := by
  obtain ⟨qs, ad, z, rfl, hne, hg, hrow⟩ := h.ex
  rw [f21_eq, ld_at hg 1 _ rfl, asSl_s, ld_at hg 2 _ rfl, asI_i, need_of (by rcases hrow.z with e | e <;> rw [e] <;> rfl), need_of (by simp [inRange]; omega), hrow.sub0]
  refine ⟨ad, z, qs, ?_, hrow.take fast, fun q hq => by simp [hq]⟩
  rw [List.length_take, Nat.min_eq_left hf]; rfl

theorem marks_spec (hL : rs.length < L) (hl : rs.length ≤ 100000) (hf : fast ≤ rs.length) :
    Ends (fun v σ' => ∃ adO zO qO, v = .slice adO (marksOf (rs.take fast)).length zO ∧ Row c1 1 3 σ' adO zO qO (marksOf (rs.take fast)) ∧ Same σ σ' [] ∧ ∀ q ∈ qO, σ.next ≤ q) (evCall Try.prog env L (k + 2) 16 [.pointer (some ⟨a, 0, none⟩)] σ) := by
  obtain ⟨ad, z, qs, g1, hrow, hq⟩ := safe_spec h L k hl hf
  rw [f16_eq, g1, bnd_some, asSl_s]
  have htl : (rs.take fast).length ≤ rs.length := by rw [List.length_take]; omega
  exact marks_loop L (k + 1) (by omega) (fun q hq' => h.lt q (hq q hq')) L 0 σ none 0 [] (by omega) (by omega) hrow (Row.nil _ _ _ _) (Same.refl _ _) (by simp)
end

/-- What a program that does nothing answers wrongly. -/
theorem awake_spec (L k : Nat) (hL : 10 < L) (σ : St) : ∃ σ', evCall Try.prog env L (k + 4) 6 [] σ = some (.bool true, σ') ∧ Same σ σ' [] := by
  rw [f6_eq]
  obtain ⟨σ1, g1, hS1, hs1⟩ := new_spec L (k + 2) σ
  rw [g1, bnd_some, asP_p, show (some (⟨σ.next, 0, none⟩ : Addr)).isNone = false from rfl, br_false]
  obtain ⟨v, σ2, g2, F2, rfl, hS2, hT2⟩ := take_mark hS1 L k (by omega) (by omega) (by simp) (by simp) 5 (by omega) (by omega)
  rw [show Value.agg #[Value.int .i64 1, .int .i64 2, .int .i64 0, .string ⟨#[]⟩, .int .i64 5] = Rec.agg ⟨1 + (([] : List Rec).length : Int), 2, 0, ⟨#[]⟩, 5⟩ from rfl, g2, bnd_some, asI_i, show ((1 + (([] : List Rec).length : Int)) != 1) = false from rfl, br_false]
  obtain ⟨σ3, g3, hS3, hT3⟩ := flush_spec hS2 L (k + 2)
  rw [g3, bnd_some, asT_t, toList0, endl_n]
  obtain ⟨v, σ4, g4, adO, zO, qO, rfl, hO, hs4, hq⟩ := marks_spec hS3 L (k + 1) (by simp; omega) (by simp) (Nat.le_refl _)
  rw [g4, bnd_some, asSl_s]
  have hm : marksOf (([] ++ [(⟨1 + (([] : List Rec).length : Int), 2, 0, ⟨#[]⟩, 5⟩ : Rec)]).take ([] ++ [(⟨1 + (([] : List Rec).length : Int), 2, 0, ⟨#[]⟩, 5⟩ : Rec)]).length) = [5] := rfl
  rw [hm] at hO ⊢
  obtain ⟨q, e, hat⟩ := hO.at c1_len (i := 0) (a := 5) rfl
  rw [show ((([5] : List Int).length : Int) == 1) = true from rfl, br_true, need_of (by rfl), e, adr_some, hat 0 (.int .i64 5) _ (by omega) rfl (by simp), asI_i]
  refine ⟨σ4, rfl, ?_⟩
  have h1n := hs1.1
  exact (hs1.fresh ((hT2.trans hT3).after hs4).same (fun x hx => .inr (by simp at hx; omega)))

structure Op where
  kind : Small
  n : Small
  r : Small × Small × Small × { s : ByteArray // s.size ≤ maxLen } × Small
  next : Bool
def c8 (o : Op) : List Value := [.int .i64 o.kind.1, .int .i64 o.n.1, .int .i64 o.r.1.1, .int .i64 o.r.2.1.1, .int .i64 o.r.2.2.1.1, .string o.r.2.2.2.1.1, .int .i64 o.r.2.2.2.2.1, .bool o.next]

theorem few_loop (L k : Nat) {σ0 σ : St} {ad : Option Addr} {l : List Op} (hl : l.length ≤ 200) (hH : Holds σ0 8 c8 ad l) (hK : Kept' σ0.next σ0 σ) : ∀ (n i : Nat), i ≤ l.length → l.length - i < n →
    ∃ b, lpAt Try.prog env L k 7 [true, true, false, true] [] n [(0, .slice ad l.length 0), (8, .int .i64 l.length), (9, .int .i64 i)] σ = some (.bool b, σ)
  | 0, i, _, h => by omega
  | n + 1, i, h1, h2 => by
    rw [f7_l4]
    by_cases hi : i = l.length
    · rw [decide_eq_false (by omega), br_false]; exact ⟨true, rfl⟩
    · have hget : l[i]? = some l[i] := List.getElem?_eq_getElem (by omega)
      obtain ⟨q0, e0, hat⟩ := hH.ld hK hget
      generalize l[i] = o at hat
      rw [decide_eq_true (by omega), br_true, need_of (by simp [inRange]; omega), e0, adr_some, hat 5 (.string o.r.2.2.2.1.1) _ (by omega) rfl (by omega), asS_s]
      by_cases hc : ((o.r.2.2.2.1.1.size : Int)) > 100
      · rw [decide_eq_true hc, br_true]; exact ⟨false, rfl⟩
      · rw [decide_eq_false hc, br_false, wrap_in _ (by omega) (by omega), ← e0]
        exact few_loop L k hl hH hK n (i + 1) (by omega) (by omega)

theorem few_spec (L k : Nat) (hL : 400 < L) {σ0 σ : St} {ad : Option Addr} {l : List Op} (hH : Holds σ0 8 c8 ad l) (hK : Kept' σ0.next σ0 σ) :
    ∃ b, evCall Try.prog env L (k + 1) 7 [.slice ad l.length 0] σ = some (.bool b, σ) ∧ (b = true → l.length ≤ 200) := by
  rw [f7_eq]
  by_cases h : (l.length : Int) > 200
  · rw [decide_eq_true h, br_true]; exact ⟨false, rfl, by simp⟩
  · rw [decide_eq_false h, br_false]
    obtain ⟨b, hb⟩ := few_loop L k (by omega) hH hK L 0 (by omega) (by omega)
    exact ⟨b, hb, fun _ => by omega⟩

/-- Each record has the next number. -/
def Numbered (first : Int) (rs : List Rec) : Prop := ∀ (i : Nat) (r : Rec), rs[i]? = some r → r.seq = first + i

theorem put_loop (L k : Nat) {σ0 : St} {ad : Option Addr} {l : List Op} (hl : l.length ≤ 200) (hH : Holds σ0 8 c8 ad l) {a : Nat} {first mark : Int} {fast N : Nat} {old : List Rec} (h0 : 1 ≤ first) (h1 : first ≤ 100000) (hN : old.length ≤ N) (hN2 : N ≤ 1000) (hf : fast ≤ old.length) : ∀ (n i : Nat) (σ : St) (F : List Nat) (ext : List Rec),
    i ≤ l.length → l.length - i < n → Stg σ a F first (old ++ ext) fast mark → Owns σ0 σ [F] → ext.length ≤ i → Numbered first (old ++ ext) →
    Ends (fun v σ' => v = .tuple #[] ∧ ∃ F' ext', Stg σ' a F' first (old ++ ext') fast mark ∧ Owns σ0 σ' [F'] ∧ ext'.length ≤ l.length ∧ Numbered first (old ++ ext') ∧ Turn σ σ' F F')
      (lpAt Try.prog env L (k + 3) 9 [true] [] n [(0, .pointer (some ⟨a, 0, none⟩)), (1, .slice ad l.length 0), (9, .int .i64 l.length), (10, .int .i64 i)] σ)
  | 0, i, σ, F, ext, _, h, _, _, _, _ => by omega
  | n + 1, i, σ, F, ext, hi, h, hS, hO, he, hnum => by
    rw [f9_l1]
    by_cases hie : i = l.length
    · rw [decide_eq_false (by omega), br_false]
      exact .leaf ⟨rfl, F, ext, hS, hO, by omega, hnum, .idle (Same.refl _ _) hS.lt⟩
    · have hget : l[i]? = some l[i] := List.getElem?_eq_getElem (by omega)
      obtain ⟨q0, vs, e0, hc0, hq0, hv0, hat⟩ := hH (List.ne_nil_of_length_pos (by omega))
      have hat := hat i _ hget
      generalize l[i] = o at hat
      have hcs : σ.cells q0 = some vs := by
        unfold St.cells at hc0 ⊢
        rw [hO.kept.2 q0 hq0]; exact hc0
      have hlds : ∀ K : List Value → Res, σ.lds q0 (0 + (i : Int).toNat * 8 + 2) 5 K = K [.int .i64 o.r.1.1, .int .i64 o.r.2.1.1, .int .i64 o.r.2.2.1.1, .string o.r.2.2.2.1.1, .int .i64 o.r.2.2.2.2.1] := by
        intro K
        rw [lds_cells K hcs (by have : (i + 1) * 8 ≤ l.length * 8 := Nat.mul_le_mul_right _ (by omega); simp; omega)]
        congr 1
        apply List.ext_getElem?
        intro j
        rw [List.getElem?_take]
        by_cases hj : j < 5
        · rw [if_pos hj, List.getElem?_drop]
          have h2 : (c8 o)[2 + j]? = [Value.int .i64 o.r.1.1, .int .i64 o.r.2.1.1, .int .i64 o.r.2.2.1.1, .string o.r.2.2.2.1.1, .int .i64 o.r.2.2.2.2.1][j]? := by
            match j, hj with
            | 0, _ => rfl
            | 1, _ => rfl
            | 2, _ => rfl
            | 3, _ => rfl
            | 4, _ => rfl
          obtain ⟨v, hv⟩ : ∃ v, [Value.int .i64 o.r.1.1, .int .i64 o.r.2.1.1, .int .i64 o.r.2.2.1.1, .string o.r.2.2.2.1.1, .int .i64 o.r.2.2.2.2.1][j]? = some v := ⟨_, List.getElem?_eq_getElem (by simpa using hj)⟩
          rw [hv]
          have := hat (2 + j) v (by omega) (by rw [h2, hv])
          rw [show 0 + (i : Int).toNat * 8 + 2 + j = i * 8 + (2 + j) by simp; omega]
          exact this
        · rw [if_neg hj, List.getElem?_eq_none (by simp; omega)]
      obtain ⟨σ1, p1, p2, p3, p4⟩ := tmp_put σ [Value.int IntKind.i64 0, Value.int IntKind.i64 0, Value.int IntKind.i64 0, Value.string ⟨#[]⟩, Value.int IntKind.i64 0] [.int .i64 o.r.1.1, .int .i64 o.r.2.1.1, .int .i64 o.r.2.2.1.1, .string o.r.2.2.2.1.1, .int .i64 o.r.2.2.2.2.1] 34 rfl rfl
      have hS1 := hS.idle p3
      have hll : (old ++ ext).length ≤ 100000 := by rw [List.length_append]; omega
      have hff : fast ≤ (old ++ ext).length := by rw [List.length_append]; omega
      rw [decide_eq_true (by omega), br_true, need_of (by simp [inRange]; omega), e0, adr_some, hlds, uncons_c, asI_i, uncons_c, asI_i, uncons_c, asI_i, uncons_c, asS_s, uncons_c, asI_i, endl_n, p1, last_spec hS1 L (k + 2) h0 h1 hll hff, bnd_some, asT_t, toList2, uncons_c, asI_i, uncons_c, asI_i, endl_n, put_int p2 0 _ _ (by simp)]
      have hs2 := Same.set σ1 σ.next (.own (List.set [Value.int .i64 o.r.1.1, .int .i64 o.r.2.1.1, .int .i64 o.r.2.2.1.1, .string o.r.2.2.2.1.1, .int .i64 o.r.2.2.2.2.1] 0 (.int .i64 (IntKind.wrap .i64 (first + ((old ++ ext).length : Int) - 1 + 1)))) 34)
      have hg2 : (σ1.set σ.next (.own (List.set [Value.int .i64 o.r.1.1, .int .i64 o.r.2.1.1, .int .i64 o.r.2.2.1.1, .string o.r.2.2.2.1.1, .int .i64 o.r.2.2.2.2.1] 0 (.int .i64 (IntKind.wrap .i64 (first + ((old ++ ext).length : Int) - 1 + 1)))) 34)).get σ.next = some (.own [.int .i64 (IntKind.wrap .i64 (first + ((old ++ ext).length : Int) - 1 + 1)), .int .i64 o.r.2.1.1, .int .i64 o.r.2.2.1.1, .string o.r.2.2.2.1.1, .int .i64 o.r.2.2.2.2.1] 34) := by rw [get_set_same]; rfl
      generalize σ1.set σ.next (.own (List.set [Value.int .i64 o.r.1.1, .int .i64 o.r.2.1.1, .int .i64 o.r.2.2.1.1, .string o.r.2.2.2.1.1, .int .i64 o.r.2.2.2.2.1] 0 (.int .i64 (IntKind.wrap .i64 (first + ((old ++ ext).length : Int) - 1 + 1)))) 34) = σ2 at hs2 hg2
      have hs02 : Same σ σ2 [] := ⟨by have := hs2.1; omega, fun j hj _ => by rw [hs2.2 j (by omega) (by simp; omega), p3.2 j hj (by simp)]⟩
      have hS2 := hS.idle hs02
      rw [lds_all (n := 5) hg2 rfl, uncons_c, asI_i, uncons_c, asI_i, uncons_c, asI_i, uncons_c, asS_s, uncons_c, asI_i, endl_n]
      obtain ⟨v, σ3, g3, rs', F', rfl, hS3, hT3, hor⟩ := take_spec hS2 L k h0 h1 hll hff ⟨IntKind.wrap .i64 (first + ((old ++ ext).length : Int) - 1 + 1), o.r.2.1.1, o.r.2.2.1.1, o.r.2.2.2.1.1, o.r.2.2.2.2.1⟩
      rw [show Value.agg #[Value.int .i64 (IntKind.wrap .i64 (first + ((old ++ ext).length : Int) - 1 + 1)), .int .i64 o.r.2.1.1, .int .i64 o.r.2.2.1.1, .string o.r.2.2.2.1.1, .int .i64 o.r.2.2.2.2.1] = Rec.agg ⟨IntKind.wrap .i64 (first + ((old ++ ext).length : Int) - 1 + 1), o.r.2.1.1, o.r.2.2.1.1, o.r.2.2.2.1.1, o.r.2.2.2.2.1⟩ from rfl, g3, bnd_some, asI_i, wrap_in ((i : Int) + 1) (by omega) (by omega), ← e0]
      have hT03 : Turn σ σ3 F F' := (Turn.idle hs02 hS.lt).trans hT3
      have hO3 : Owns σ0 σ3 [F'] := (hO.idle hs02).turned 0 rfl hT3
      rcases hor with rfl | ⟨hseq, rfl⟩
      · obtain ⟨v, σ9, g9, e9, F9, ext9, k1, k2, k3, k4, k5⟩ := put_loop L k hl hH h0 h1 hN hN2 hf n (i + 1) σ3 F' ext (by omega) (by omega) hS3 hO3 (by omega) hnum
        exact ⟨v, σ9, g9, e9, F9, ext9, k1, k2, k3, k4, hT03.trans k5⟩
      · rw [List.append_assoc] at hS3
        have hnum' : Numbered first (old ++ (ext ++ [⟨IntKind.wrap .i64 (first + ((old ++ ext).length : Int) - 1 + 1), o.r.2.1.1, o.r.2.2.1.1, o.r.2.2.2.1.1, o.r.2.2.2.2.1⟩])) := by
          intro j r hj
          rw [← List.append_assoc] at hj
          by_cases hjl : j < (old ++ ext).length
          · rw [List.getElem?_append_left hjl] at hj; exact hnum j r hj
          · rw [List.getElem?_append_right (by omega)] at hj
            obtain ⟨hj2, rfl⟩ := List.getElem?_eq_some_iff.1 hj
            simp only [List.length_singleton] at hj2
            have hjj : j = (old ++ ext).length := by omega
            subst hjj
            simp only [Nat.sub_self, List.getElem_cons_zero]
            exact hseq
        obtain ⟨v, σ9, g9, e9, F9, ext9, k1, k2, k3, k4, k5⟩ := put_loop L k hl hH h0 h1 hN hN2 hf n (i + 1) σ3 F' _ (by omega) (by omega) hS3 hO3 (by simp; omega) hnum'
        exact ⟨v, σ9, g9, e9, F9, ext9, k1, k2, k3, k4, hT03.trans k5⟩

theorem put_spec (L k : Nat) (hL : 300 < L) {σ0 : St} {ad : Option Addr} {l : List Op} (hl : l.length ≤ 200) (hH : Holds σ0 8 c8 ad l) {a : Nat} {first mark : Int} {fast N : Nat} {old : List Rec} (h0 : 1 ≤ first) (h1 : first ≤ 100000) (hN : old.length ≤ N) (hN2 : N ≤ 1000) (hf : fast ≤ old.length) {σ : St} {F : List Nat}
    (hS : Stg σ a F first old fast mark) (hO : Owns σ0 σ [F]) (hnum : Numbered first old) :
    Ends (fun v σ' => v = .tuple #[] ∧ ∃ F' ext', Stg σ' a F' first (old ++ ext') fast mark ∧ Owns σ0 σ' [F'] ∧ ext'.length ≤ l.length ∧ Numbered first (old ++ ext') ∧ Turn σ σ' F F')
      (evCall Try.prog env L (k + 4) 9 [.pointer (some ⟨a, 0, none⟩), .slice ad l.length 0] σ) := by
  rw [f9_eq]
  exact put_loop L k hl hH h0 h1 hN hN2 hf L 0 σ F [] (by omega) (by omega) (by simpa using hS) hO (by simp) (by simpa using hnum)

end Go.AM.St
