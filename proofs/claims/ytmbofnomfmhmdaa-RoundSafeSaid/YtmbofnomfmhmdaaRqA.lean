/-
  THE ROUND's calls, one by one: what each answers, what it leaves.
-/
import Derived.Test.YtmbofnomfmhmdaaAm20
import Derived.Test.YtmbofnomfmhmdaaEqRq
set_option linter.unusedVariables false
set_option linter.unusedSimpArgs false
set_option linter.unusedSectionVars false
namespace Go.AM.Rq
open Go.Proofs

/-! ### Sets of whole numbers, as maps -/
def asMap (an : List Int) : List (Int × Value) := an.map fun n => (n, .bool true)
theorem kvGet_asMap (n : Int) : ∀ an : List Int, kvGet n (asMap an) = if n ∈ an then some (.bool true) else none
  | [] => rfl
  | k :: an => by
    show (if n = k then some (.bool true) else kvGet n (asMap an)) = _
    rw [kvGet_asMap n an]
    by_cases h : n = k
    · simp [h]
    · simp [h]
def addTo (n : Int) (an : List Int) : List Int := if n ∈ an then an else an ++ [n]
theorem kvPut_asMap (n : Int) : ∀ an : List Int, kvPut n (.bool true) (asMap an) = asMap (addTo n an)
  | [] => rfl
  | k :: an => by
    show (if n = k then (k, .bool true) :: asMap an else (k, .bool true) :: kvPut n (.bool true) (asMap an)) = _
    rw [kvPut_asMap n an]
    unfold addTo
    by_cases h : n = k
    · simp [h, asMap]
    · by_cases h2 : n ∈ an
      · simp [h, h2, asMap]
      · simp [h, h2, asMap]
theorem look_map {σ : St} {b : Nat} {an : List Int} (h : σ.get b = some (.mp (asMap an))) (n : Int) (K : Value → Res) : σ.look (some b) n (.bool false) K = K (.bool (decide (n ∈ an))) := by
  simp only [St.look, h, kvGet_asMap]
  by_cases hn : n ∈ an <;> simp [hn]
theorem upd_map {σ : St} {b : Nat} {an : List Int} (h : σ.get b = some (.mp (asMap an))) (n : Int) (K : St → Res) : σ.upd (some b) n (.bool true) K = K (σ.set b (.mp (asMap (addTo n an)))) := by
  simp only [St.upd, h, kvPut_asMap]

theorem putf {σ : St} {a : Nat} {vs : List Value} {e : TypeId} (h : σ.get a = some (.own vs e)) (o : Nat) (v : Value) (ho : o < vs.length) (h1 : oneCell v = true) :
    ∃ σ', (∀ K : St → Res, σ.put a o [v] K = K σ') ∧ σ'.get a = some (.own (vs.set o v) e) ∧ Same σ σ' [a] ∧ σ'.next = σ.next :=
  ⟨_, fun K => put_at h o v ho h1 K, get_set_same _ _ _, Same.set _ _ _, rfl⟩

/-- A slice of whole numbers, wherever it lies. -/
structure Src (σ : St) (ad : Option Addr) (q : Nat) (l : List Int) : Prop where
  is : l ≠ [] → q < σ.next ∧ ad = some ⟨q, 0, none⟩ ∧ ∃ vs, σ.cells q = some vs ∧ l.length ≤ vs.length ∧ ∀ (i : Nat) (x : Int), l[i]? = some x → vs[i]? = some (.int .i64 x)
theorem Src.same {σ σ' : St} {ad : Option Addr} {q : Nat} {l : List Int} {S : List Nat} (h : Src σ ad q l) (hs : Same σ σ' S) (hq : q ∉ S) : Src σ' ad q l :=
  ⟨fun hl => by
    obtain ⟨h1, h2, vs, h3, h4⟩ := h.is hl
    refine ⟨by have := hs.1; omega, h2, vs, ?_, h4⟩
    unfold St.cells at h3 ⊢
    rw [hs.2 q h1 hq]; exact h3⟩
theorem Src.idle {σ σ' : St} {ad : Option Addr} {q : Nat} {l : List Int} (h : Src σ ad q l) (hs : Same σ σ' []) : Src σ' ad q l := h.same hs (by simp)
theorem Src.at {σ : St} {ad : Option Addr} {q : Nat} {l : List Int} (h : Src σ ad q l) {i : Nat} {x : Int} (hi : l[i]? = some x) : ad = some ⟨q, 0, none⟩ ∧ ∀ (o : Nat), o = i → ∀ K : Value → Res, σ.ld q o K = K (.int .i64 x) := by
  obtain ⟨hl, _⟩ := List.getElem?_eq_some_iff.1 hi
  obtain ⟨h1, h2, vs, h3, h4, h5⟩ := h.is (List.ne_nil_of_length_pos (by omega))
  exact ⟨h2, fun o ho K => by subst ho; exact ld_cells K h3 (h5 _ _ hi)⟩
theorem Src.row {σ : St} {ad : Option Addr} {q : Nat} {l : List Int} (h : Src σ ad q l) (n : Nat) (hn : n = l.length) (K : List Value → Res) : σ.row ad n K = K (l.flatMap c1) := by
  subst hn
  unfold St.row
  split
  · rename_i h0
    rw [List.eq_nil_of_length_eq_zero h0]; rfl
  · rename_i h0
    obtain ⟨h1, h2, vs, h3, h4, h5⟩ := h.is (List.ne_nil_of_length_pos (by omega))
    subst h2
    rw [adr_some, lds_cells K h3 (by omega), List.drop_zero]
    congr 1
    have hf : l.flatMap c1 = l.map (Value.int .i64) := by
      clear h h0 h4 h5
      induction l with
      | nil => rfl
      | cons x l ih => rw [List.flatMap_cons, ih]; rfl
    rw [hf]
    apply List.ext_getElem?
    intro j
    rw [List.getElem?_take, List.getElem?_map]
    by_cases hj : j < l.length
    · rw [if_pos hj, List.getElem?_eq_getElem hj, h5 j _ (List.getElem?_eq_getElem hj)]; rfl
    · rw [if_neg hj, List.getElem?_eq_none (by omega)]; rfl
theorem src_of {σ0 σ : St} {ad : Option Addr} {l : List Int} (h : Holds σ0 1 c1 ad l) (hk : Kept' σ0.next σ0 σ) : ∃ q, Src σ ad q l ∧ (l ≠ [] → q < σ0.next) := by
  by_cases hl : l = []
  · exact ⟨0, ⟨fun h => absurd hl h⟩, fun h => absurd hl h⟩
  · obtain ⟨q, vs, e, hc, hq, hv, hg⟩ := h hl
    refine ⟨q, ⟨fun _ => ⟨by have := hk.1; omega, e, vs, ?_, by simpa using hv, fun i x hi => ?_⟩⟩, fun _ => hq⟩
    · unfold St.cells at hc ⊢
      rw [hk.2 q hq]; exact hc
    · have := hg i x hi 0 (.int .i64 x) (by omega) rfl
      simpa using this

/-! ### A round -/
structure RS where
  number : Int
  latest : Int
  vols : List Int
  phase : Int
  an : List Int
  left : Int
  marked : Bool
  done : Int
  complete : Bool
  live : Bool
def RS.lack (s : RS) : List Int := s.vols.filter fun v => decide (v ∉ s.an)
def hd (s : RS) (ad : Option Addr) (z : Nat) (m : Option Nat) : List Value :=
  [.int .i64 s.number, .int .i64 s.latest, .slice ad s.vols.length z, .int .i64 s.phase, .map m, .int .i64 s.left, .bool s.marked, .int .i64 s.done, .bool s.complete]

structure Rnd (σ : St) (a : Nat) (F : List Nat) (s : RS) : Prop where
  ex : ∃ qs ad z mq m, F = a :: (qs ++ mq) ∧ a ∉ qs ∧ a ∉ mq ∧ (∀ q ∈ qs, q ∉ mq) ∧ σ.get a = some (.own (hd s ad z m) 28) ∧ Row c1 1 3 σ ad z qs s.vols ∧
    ((m = none ∧ mq = [] ∧ s.an = [] ∧ s.live = false) ∨ ∃ b, m = some b ∧ mq = [b] ∧ σ.get b = some (.mp (asMap s.an)))
  lt : ∀ q ∈ F, q < σ.next
theorem Rnd.same {σ σ' : St} {a : Nat} {F S : List Nat} {s : RS} (h : Rnd σ a F s) (hs : Same σ σ' S) (hF : ∀ q ∈ F, q ∉ S) : Rnd σ' a F s := by
  obtain ⟨qs, ad, z, mq, m, rfl, h1, h2, h3, h4, h5, h6⟩ := h.ex
  refine ⟨⟨qs, ad, z, mq, m, rfl, h1, h2, h3, by rw [hs.2 a (h.lt a (by simp)) (hF a (by simp))]; exact h4, h5.same hs (fun q hq => hF q (by simp [hq])), h6.imp id ?_⟩, fun q hq => by have := h.lt q hq; have := hs.1; omega⟩
  rintro ⟨b, rfl, rfl, hb⟩
  exact ⟨b, rfl, rfl, by rw [hs.2 b (h.lt b (by simp)) (hF b (by simp))]; exact hb⟩
theorem Rnd.idle {σ σ' : St} {a : Nat} {F : List Nat} {s : RS} (h : Rnd σ a F s) (hs : Same σ σ' []) : Rnd σ' a F s := h.same hs (by simp)

theorem wrong_spec (L k : Nat) (σ : St) (at_ : Int) (e : Int) (he : e ≠ 0) : ∃ v σ', evCall Try.prog env L (k + 2) 15 [.int .i64 at_, .int .i64 e] σ = some (.iface 62 v, σ') ∧ Same σ σ' [] := by
  rw [f15_eq, f22_eq, eqNil_iface, br_false]
  have h : eqErr (.iface 55 (.int .i64 e)) 55 .i64 0 (fun v2 => br v2 (some (Value.nilIface, σ)) (need true (need (oneCell (.iface 55 (.int .i64 e))) (need true (some (Value.iface 62 (Value.pointer (some ⟨σ.next, 0, none⟩)), σ.new (Blk.own [Value.string ⟨#[114, 111, 117, 110, 100]⟩, Value.int .i64 at_, .iface 55 (.int .i64 e)] 64))))))) =
      some (Value.iface 62 (Value.pointer (some ⟨σ.next, 0, none⟩)), σ.new (Blk.own [Value.string ⟨#[114, 111, 117, 110, 100]⟩, Value.int .i64 at_, .iface 55 (.int .i64 e)] 64)) := by
    have hb : (e == 0) = false := by simpa using he
    simp [eqErr, hb, oneCell]
  rw [h, bnd_some]
  exact ⟨_, _, rfl, Same.new _ _ _⟩

theorem clone_spec (L k : Nat) {σ : St} {l : List Int} {ad : Option Addr} {q : Nat} {z : Nat} (hl : l.length ≤ 100000) (hR : Src σ ad q l) :
    ∃ ad' z' q' σ', evCall Try.prog env L (k + 1) 17 [.slice ad l.length z] σ = some (.slice ad' l.length z', σ') ∧ Row c1 1 3 σ' ad' z' q' l ∧ Same σ σ' [] ∧ ∀ q ∈ q', σ.next ≤ q := by
  rw [f17_eq]
  by_cases hn : ad = none
  · subst hn
    have hle : l = [] := by
      by_cases h : l = []
      · exact h
      · obtain ⟨_, h2, _⟩ := hR.is h; cases h2
    subst hle
    exact ⟨none, 0, [], σ, rfl, Row.nil c1 1 3 σ, Same.refl _ _, by simp⟩
  · have hne : ad.isNone = false := by cases ad with | none => exact absurd rfl hn | some _ => rfl
    rw [hne, br_false]
    generalize hσ2 : σ.new (Blk.own [] 3) = σ2
    have hs2 : Same σ σ2 [] := by rw [← hσ2]; exact Same.new _ _ _
    have hx2 : σ2.next = σ.next + 1 := by rw [← hσ2]; rfl
    have hE2 : Row c1 1 3 σ2 (some ⟨σ.next, 0, none⟩) 1 [σ.next] [] := ⟨by rw [← hσ2]; simp, .inr ⟨σ.next, [], rfl, rfl, rfl, by rw [← hσ2, get_new_same]; rfl⟩⟩
    obtain ⟨ad3, z3, q3, σ3, hgrow3, hR3, hs3, hq3⟩ := grow_row (by_ := 8) hE2 c1_len c1_one (by omega) l (l.flatMap c1) rfl l.length rfl (by unfold roomTop; simp; omega) (by unfold sizeTop; simp; omega)
    rw [(hR.idle hs2).row _ (by omega)]
    have hg := hgrow3
    rw [List.length_nil] at hg
    rw [hg, Nat.zero_add]
    rw [List.nil_append] at hR3
    exact ⟨ad3, z3, q3, σ3, rfl, hR3, hs2.fresh hs3 (fun x hx => .inr (by simp at hx; omega)), fun x hx => by rcases hq3 x hx with h | h; (simp at h; omega); omega⟩

/-- Can a round have some volumes? -/
def Good (l : List Int) : Prop := (∀ v ∈ l, 0 ≤ v ∧ v < 4) ∧ l.Nodup ∧ l ≠ []
theorem right_loop (L k : Nat) {σs : St} {l : List Int} {ad : Option Addr} {q z : Nat} (hl : l.length ≤ 1000) {m : Nat} (hm : σs.next ≤ m) : ∀ (n i : Nat) (σ : St), i ≤ l.length → l.length - i < n → Src σ ad q l → q < m ∨ l = [] → σ.get m = some (.mp (asMap (l.take i))) → m < σ.next → Same σs σ [] → (∀ v ∈ l.take i, 0 ≤ v ∧ v < 4) → (l.take i).Nodup →
    Ends (fun v σ' => (∃ b, v = .bool b ∧ (b = true ↔ Good l)) ∧ Same σs σ' []) (lpAt Try.prog env L k 16 [true, true, false, true] [] n [(0, .slice ad l.length z), (3, .map (some m)), (7, .slice ad l.length z), (8, .int .i64 l.length), (9, .int .i64 i)] σ)
  | 0, i, σ, _, h, _, _, _, _, _, _, _ => by omega
  | n + 1, i, σ, hi, h, hR, hqm, hg, hml, hs, hin, hnd => by
    rw [f16_l3]
    by_cases hie : i = l.length
    · rw [decide_eq_false (by omega), br_false]
      subst hie
      rw [List.take_length] at hin hnd
      exact .leaf ⟨⟨_, rfl, ⟨fun hb => ⟨hin, hnd, by intro h0; subst h0; simp at hb⟩, fun hg => decide_eq_true (by have := List.length_pos_iff.2 hg.2.2; omega)⟩⟩, hs⟩
    · have hget : l[i]? = some l[i] := List.getElem?_eq_getElem (by omega)
      obtain ⟨e0, hat⟩ := hR.at hget
      have htk : l.take (i + 1) = l.take i ++ [l[i]] := by rw [List.take_add_one, hget]; rfl
      have hmem := List.mem_of_getElem? hget
      generalize l[i] = v at hat htk hmem
      rw [decide_eq_true (by omega), br_true, need_of (by simp [inRange]; omega), e0, adr_some, hat _ (by simp), asI_i]
      by_cases h0 : v < 0
      · rw [decide_eq_true h0, br_true]; exact .leaf ⟨⟨false, rfl, ⟨fun h => (by cases h), fun hg => absurd (hg.1 v hmem).1 (by omega)⟩⟩, hs⟩
      rw [decide_eq_false h0, br_false]
      by_cases h4 : v ≥ 4
      · rw [decide_eq_true h4, br_true]; exact .leaf ⟨⟨false, rfl, ⟨fun h => (by cases h), fun hg => absurd (hg.1 v hmem).2 (by omega)⟩⟩, hs⟩
      rw [decide_eq_false h4, br_false, look_map hg, asB_b]
      by_cases hv : v ∈ l.take i
      · rw [decide_eq_true hv, br_true]
        refine .leaf ⟨⟨false, rfl, ⟨fun h => (by cases h), fun hg => ?_⟩⟩, hs⟩
        have h9 := hg.2.1.sublist (List.take_sublist (i + 1) l)
        rw [htk, List.nodup_append] at h9
        exact absurd rfl (h9.2.2 v hv v (by simp))
      · rw [decide_eq_false hv, br_false, upd_map hg, wrap_in _ (by omega) (by omega)]
        have hs1 := show Same σ (σ.set m (.mp (asMap (addTo v (l.take i))))) [m] from Same.set _ _ _
        have hadd : addTo v (l.take i) = l.take (i + 1) := by unfold addTo; rw [if_neg hv, htk]
        have hqne : q < m := by
          rcases hqm with h | h
          · exact h
          · rw [h] at hie hi; simp at hi hie; omega
        rw [hadd] at hs1 ⊢
        have := right_loop L k hl hm (z := z) n (i + 1) (σ.set m (.mp (asMap (l.take (i + 1))))) (by omega) (by omega) (hR.same hs1 (by simp; omega)) hqm (get_set_same _ _ _) hml (hs.fresh hs1 (fun x hx => .inr (by simp at hx; omega))) (by
          rw [htk]; intro x hx
          rcases List.mem_append.1 hx with hx | hx
          · exact hin x hx
          · simp at hx; omega) (by
          rw [htk, List.nodup_append]
          exact ⟨hnd, by simp, fun x hx y hy => by simp at hy; subst hy; rintro rfl; exact hv hx⟩)
        rw [e0] at this
        exact this

theorem right_spec (L k : Nat) (hL : 2000 < L) {σ : St} {l : List Int} {ad : Option Addr} {q z : Nat} (hl : l.length ≤ 1000) (hR : Src σ ad q l) :
    Ends (fun v σ' => (∃ b, v = .bool b ∧ (b = true ↔ Good l)) ∧ Same σ σ' []) (evCall Try.prog env L (k + 1) 16 [.slice ad l.length z] σ) := by
  rw [f16_eq]
  have hs : Same σ (σ.new (.mp [])) [] := Same.new _ _ _
  refine right_loop L k hl (Nat.le_refl _) L 0 _ (by omega) (by omega) (hR.idle hs) ?_ (get_new_same _ _) (by simp) hs (by simp) (by simp)
  by_cases h : l = []
  · exact .inr h
  · exact .inl (hR.is h).1

section
variable {σ : St} {a : Nat} {F : List Nat} {s : RS} (h : Rnd σ a F s) (L k : Nat)
include h
theorem number_spec : evCall Try.prog env L (k + 1) 9 [.pointer (some ⟨a, 0, none⟩)] σ = some (.int .i64 s.number, σ) := by
  obtain ⟨qs, ad, z, mq, m, rfl, h1, h2, h3, hg, h5, h6⟩ := h.ex
  rw [f9_eq, ld_at hg 0 _ rfl, asI_i]
theorem done_spec : evCall Try.prog env L (k + 1) 11 [.pointer (some ⟨a, 0, none⟩)] σ = some (.tuple #[.int .i64 s.done, .bool s.complete], σ) := by
  obtain ⟨qs, ad, z, mq, m, rfl, h1, h2, h3, hg, h5, h6⟩ := h.ex
  rw [f11_eq, ld_at hg 7 _ rfl, asI_i, ld_at hg 8 _ rfl, asB_b]
end

theorem lack_snoc {s : RS} {i : Nat} {v : Int} (hg : s.vols[i]? = some v) : (s.vols.take (i + 1)).filter (fun v => decide (v ∉ s.an)) = if v ∈ s.an then (s.vols.take i).filter (fun v => decide (v ∉ s.an)) else (s.vols.take i).filter (fun v => decide (v ∉ s.an)) ++ [v] := by
  have htk : s.vols.take (i + 1) = s.vols.take i ++ [v] := by rw [List.take_add_one, hg]; rfl
  rw [htk, List.filter_append]
  by_cases h : v ∈ s.an <;> simp [h]

theorem lacks_loop (L k : Nat) {σs : St} {a : Nat} {F : List Nat} {s : RS} (hS : Rnd σs a F s) (hl : s.vols.length ≤ 1000) {qs : List Nat} {ad : Option Addr} {z : Nat} (hR0 : Row c1 1 3 σs ad z qs s.vols) : ∀ (n i : Nat) (σ : St) (adO : Option Addr) (zO : Nat) (qO : List Nat),
    i ≤ s.vols.length → s.vols.length - i < n → Row c1 1 3 σ adO zO qO ((s.vols.take i).filter fun v => decide (v ∉ s.an)) → Same σs σ [] → (∀ q ∈ qO, σs.next ≤ q) →
    Ends (fun v σ' => ∃ adO zO qO, v = .slice adO s.lack.length zO ∧ Row c1 1 3 σ' adO zO qO s.lack ∧ Same σs σ' [] ∧ ∀ q ∈ qO, σs.next ≤ q)
      (lpAt Try.prog env L k 12 [true, true, true, false, true] [] n [(0, .pointer (some ⟨a, 0, none⟩)), (3, .slice adO ((s.vols.take i).filter fun v => decide (v ∉ s.an)).length zO), (11, .slice ad s.vols.length z), (12, .int .i64 s.vols.length), (13, .int .i64 i)] σ)
  | 0, i, σ, adO, zO, qO, _, h, _, _, _ => by omega
  | n + 1, i, σ, adO, zO, qO, hi, h, hO, hs, hq => by
    rw [f12_l5]
    by_cases hie : i = s.vols.length
    · rw [decide_eq_false (by omega), br_false]
      subst hie
      rw [List.take_length] at hO ⊢
      exact .leaf ⟨adO, zO, qO, rfl, hO, hs, hq⟩
    · have hget : s.vols[i]? = some s.vols[i] := List.getElem?_eq_getElem (by omega)
      obtain ⟨q, e, hat⟩ := (hR0.same hs (by simp)).at c1_len hget
      have hsn := lack_snoc hget
      generalize s.vols[i] = v at hat hget hsn
      have hw : IntKind.wrap .i64 ((i : Int) + 1) = ((i + 1 : Nat) : Int) := by rw [wrap_in _ (by omega) (by omega)]; omega
      have hSσ := hS.idle hs
      have hfl : ((s.vols.take i).filter fun v => decide (v ∉ s.an)).length ≤ 1000 := by
        have := List.length_filter_le (fun v => decide (v ∉ s.an)) (s.vols.take i)
        rw [List.length_take] at this; omega
      obtain ⟨qs', ad', z', mq, m, rfl, h1, h2, h3, hg, h5, h6⟩ := hSσ.ex
      have hlook : ∀ K : Value → Res, σ.look m v (.bool false) K = K (.bool (decide (v ∈ s.an))) := by
        intro K
        rcases h6 with ⟨rfl, _, han, _⟩ | ⟨b, rfl, _, hb⟩
        · rw [han]; rfl
        · exact look_map hb v K
      have hM : ∀ K : Option Nat → Res, asM (.map m) K = K m := fun K => rfl
      rw [decide_eq_true (by omega), br_true, need_of (by simp [inRange]; omega), e, adr_some, hat 0 (.int .i64 v) _ (by omega) rfl (by simp), asI_i, ld_at hg (0 + 4) _ rfl, hM, hlook, asB_b, ← e]
      by_cases hv : v ∈ s.an
      · rw [decide_eq_true hv, not_true, br_false, hw]
        rw [if_pos hv] at hsn
        rw [← hsn] at hO ⊢
        exact lacks_loop L k hS hl hR0 n (i + 1) σ adO zO qO (by omega) (by omega) hO hs hq
      · rw [decide_eq_false hv, not_false, br_true]
        rw [if_neg hv] at hsn
        generalize hσ2 : σ.new (Blk.own [Value.int IntKind.i64 v] 3) = σ2
        have hnew : σ2.get σ.next = some (Blk.own [Value.int IntKind.i64 v] 3) := by rw [← hσ2, get_new_same]
        have hs2 : Same σ σ2 [] := by rw [← hσ2]; exact Same.new _ _ _
        have hO2 := hO.same hs2 (by simp)
        obtain ⟨ad3, z3, q3, σ3, hgrow, hO3, hs3, hq3⟩ := grow_row (by_ := 8) hO2 c1_len c1_one (by omega) [v] [Value.int .i64 v] rfl 1 rfl (by unfold roomTop; omega) (by unfold sizeTop; omega)
        have hsn' : Same σs σ2 [] := hs.trans hs2
        have hlen : ((s.vols.take i).filter fun v => decide (v ∉ s.an)).length + 1 = ((s.vols.take (i + 1)).filter fun v => decide (v ∉ s.an)).length := by rw [hsn]; simp
        rw [row_one hnew, hgrow, hw, hlen]
        rw [← hsn] at hO3
        exact lacks_loop L k hS hl hR0 n (i + 1) σ3 ad3 z3 q3 (by omega) (by omega) hO3 (hsn'.fresh hs3 (fun x hx => .inr (hq x hx))) (fun x hx => by
          rcases hq3 x hx with h | h
          · exact hq x h
          · have := hsn'.1; omega)

theorem lacks_spec (L k : Nat) (hL : 2000 < L) {σ : St} {a : Nat} {F : List Nat} {s : RS} (h : Rnd σ a F s) (hl : s.vols.length ≤ 1000) :
    Ends (fun v σ' => ∃ adO zO qO, v = .slice adO s.lack.length zO ∧ Row c1 1 3 σ' adO zO qO s.lack ∧ Same σ σ' [] ∧ ∀ q ∈ qO, σ.next ≤ q) (evCall Try.prog env L (k + 1) 12 [.pointer (some ⟨a, 0, none⟩)] σ) := by
  have h' := h
  obtain ⟨qs, ad, z, mq, m, rfl, h1, h2, h3, hg, h5, h6⟩ := h.ex
  rw [f12_eq, ld_at hg 2 _ rfl, asSl_s]
  exact lacks_loop L k h' hl h5 L 0 σ none 0 [] (by omega) (by omega) (Row.nil _ _ _ _) (Same.refl _ _) (by simp)

/-! ### Commands -/
def c3i (p : Int × Int × Int) : List Value := [.int .i64 p.1, .int .i64 p.2.1, .int .i64 p.2.2]
theorem c3i_len (p : Int × Int × Int) : (c3i p).length = 3 := rfl
theorem c3i_one (p : Int × Int × Int) : (c3i p).all oneCell = true := rfl
def RS.cmds (s : RS) : List (Int × Int × Int) := s.lack.map fun v => (s.phase, v, s.number)

theorem tell_loop (L k : Nat) {σs : St} {a : Nat} {F : List Nat} {s : RS} (hS : Rnd σs a F s) (hl : s.lack.length ≤ 1000) {qs : List Nat} {ad : Option Addr} {z : Nat} (hR0 : Row c1 1 3 σs ad z qs s.lack) : ∀ (n i : Nat) (σ : St) (adO : Option Addr) (zO : Nat) (qO : List Nat),
    i ≤ s.lack.length → s.lack.length - i < n → Row c3i 3 37 σ adO zO qO (s.cmds.take i) → Same σs σ [] → (∀ q ∈ qO, σs.next ≤ q) →
    Ends (fun v σ' => ∃ adO zO qO, v = .slice adO s.cmds.length zO ∧ Row c3i 3 37 σ' adO zO qO s.cmds ∧ Rnd σ' a F { s with left := 6 } ∧ Turn σs σ' F F ∧ ∀ q ∈ qO, σs.next ≤ q)
      (lpAt Try.prog env L k 19 [true, true, false, true] [] n [(0, .pointer (some ⟨a, 0, none⟩)), (3, .slice adO (s.cmds.take i).length zO), (7, .slice ad s.lack.length z), (8, .int .i64 s.lack.length), (9, .int .i64 i)] σ)
  | 0, i, σ, adO, zO, qO, _, h, _, _, _ => by omega
  | n + 1, i, σ, adO, zO, qO, hi, h, hO, hs, hq => by
    rw [f19_l3]
    have hcl : s.cmds.length = s.lack.length := by simp [RS.cmds]
    have hSσ := hS.idle hs
    have hlt := hSσ.lt
    have hlts := hS.lt
    obtain ⟨qs', ad', z', mq, m, rfl, h1, h2, h3, hg, h5, h6⟩ := hSσ.ex
    by_cases hie : i = s.lack.length
    · rw [decide_eq_false (by omega), br_false]
      subst hie
      rw [← hcl, List.take_length] at hO ⊢
      obtain ⟨σ1, p1, g1, s1, n1⟩ := putf hg (0 + 5) (.int .i64 6) (by simp [hd]) rfl
      rw [p1]
      have hal := hlts a (by simp)
      refine .leaf ⟨adO, zO, qO, rfl, hO.same s1 (fun q h => by have := hq q h; simp; omega), ⟨⟨qs', ad', z', mq, m, rfl, h1, h2, h3, g1, h5.same s1 (fun q hq => by simp; rintro rfl; exact h1 hq), h6.imp id ?_⟩, fun q hq => by have := hlt q hq; omega⟩, ⟨(hs.mono (by simp)).trans (s1.mono (by simp)), fun q hq => ⟨.inl hq, by have := hlt q hq; omega⟩⟩, hq⟩
      rintro ⟨b, rfl, rfl, hb⟩
      exact ⟨b, rfl, rfl, by rw [s1.2 b (hlt b (by simp)) (by simp; rintro rfl; exact h2 (by simp))]; exact hb⟩
    · have hget : s.lack[i]? = some s.lack[i] := List.getElem?_eq_getElem (by omega)
      obtain ⟨q, e, hat⟩ := (hR0.same hs (by simp)).at c1_len hget
      have hgc : s.cmds[i]? = some (s.phase, s.lack[i], s.number) := by unfold RS.cmds; rw [List.getElem?_map, hget]; rfl
      have htk : s.cmds.take (i + 1) = s.cmds.take i ++ [(s.phase, s.lack[i], s.number)] := by rw [List.take_add_one, hgc]; rfl
      have htl : (s.cmds.take i).length = i := by rw [List.length_take]; omega
      generalize s.lack[i] = v at hat htk
      rw [decide_eq_true (by omega), br_true, need_of (by simp [inRange]; omega), e, adr_some, hat 0 (.int .i64 v) _ (by omega) rfl (by simp), asI_i, ld_at hg (0 + 3) _ rfl, asI_i, ld_at hg (0 + 0) _ rfl, asI_i, need_true, need_true, need_true, need_true, ← e]
      generalize hσ2 : σ.new (Blk.own [Value.int IntKind.i64 s.phase, Value.int IntKind.i64 v, Value.int IntKind.i64 s.number] 37) = σ2
      have hnew : σ2.get σ.next = some (Blk.own [Value.int IntKind.i64 s.phase, Value.int IntKind.i64 v, Value.int IntKind.i64 s.number] 37) := by rw [← hσ2, get_new_same]
      have hs2 : Same σ σ2 [] := by rw [← hσ2]; exact Same.new _ _ _
      have hO2 := hO.same hs2 (by simp)
      obtain ⟨ad3, z3, q3, σ3, hgrow, hO3, hs3, hq3⟩ := grow_row (by_ := 24) hO2 c3i_len c3i_one (by omega) [(s.phase, v, s.number)] [Value.int .i64 s.phase, Value.int .i64 v, Value.int .i64 s.number] rfl 1 rfl (by rw [htl]; unfold roomTop; omega) (by rw [htl]; unfold sizeTop; omega)
      have hsn' : Same σs σ2 [] := hs.trans hs2
      have hlen : (s.cmds.take i).length + 1 = (s.cmds.take (i + 1)).length := by rw [htk]; simp
      rw [row_all (n := 3) hnew rfl (by omega), hgrow, wrap_in ((i : Int) + 1) (by omega) (by omega), hlen]
      rw [← htk] at hO3
      exact tell_loop L k hS hl hR0 n (i + 1) σ3 ad3 z3 q3 (by omega) (by omega) hO3 (hsn'.fresh hs3 (fun x hx => .inr (hq x hx))) (fun x hx => by
        rcases hq3 x hx with h | h
        · exact hq x h
        · have := hsn'.1; omega)

theorem lack_len (s : RS) : s.lack.length ≤ s.vols.length := List.length_filter_le _ _

theorem tell_spec (L k : Nat) (hL : 2000 < L) {σ : St} {a : Nat} {F : List Nat} {s : RS} (h : Rnd σ a F s) (hl : s.vols.length ≤ 1000) :
    Ends (fun v σ' => ∃ adO zO qO, v = .slice adO s.cmds.length zO ∧ Row c3i 3 37 σ' adO zO qO s.cmds ∧ Rnd σ' a F { s with left := 6 } ∧ Turn σ σ' F F ∧ ∀ q ∈ qO, σ.next ≤ q ∧ q ∉ F) (evCall Try.prog env L (k + 2) 19 [.pointer (some ⟨a, 0, none⟩)] σ) := by
  rw [f19_eq]
  obtain ⟨v, σ1, g1, ad, z, q, rfl, hR, hs, hq⟩ := lacks_spec L k hL h hl
  have hll := lack_len s
  rw [g1, bnd_some, asSl_s]
  obtain ⟨v, σ2, g2, adO, zO, qO, rfl, hO, hR2, hT2, hq2⟩ := tell_loop L (k + 1) (h.idle hs) (by omega) hR L 0 σ1 none 0 [] (by omega) (by omega) (Row.nil _ _ _ _) (Same.refl _ _) (by simp)
  exact ⟨_, σ2, g2, adO, zO, qO, rfl, hO, hR2, .before hs hT2 h.lt, fun x hx => ⟨by have := hq2 x hx; have := hs.1; omega, fun hF => by have := hq2 x hx; have := h.lt x hF; have := hs.1; omega⟩⟩

theorem enter_spec (L k : Nat) (hL : 2000 < L) {σ : St} {a : Nat} {F : List Nat} {s : RS} (h : Rnd σ a F s) (hl : s.vols.length ≤ 1000) (ph : Int) :
    Ends (fun v σ' => ∃ adO zO qO F', v = .slice adO s.vols.length zO ∧ Row c3i 3 37 σ' adO zO qO (s.vols.map fun v => (ph, v, s.number)) ∧ Rnd σ' a F' { s with phase := ph, an := [], left := 6, live := true } ∧ Turn σ σ' F F' ∧ ∀ q ∈ qO, σ.next ≤ q ∧ q ∉ F') (evCall Try.prog env L (k + 3) 18 [.pointer (some ⟨a, 0, none⟩), .int .i64 ph] σ) := by
  rw [f18_eq]
  have hlt := h.lt
  obtain ⟨qs, ad, z, mq, m, rfl, h1, h2, h3, hg, h5, h6⟩ := h.ex
  have hal := hlt a (by simp)
  generalize hσ1 : σ.new (.mp []) = σ1
  have hn1 : σ1.get σ.next = some (.mp (asMap [])) := by rw [← hσ1, get_new_same]; rfl
  have hs1 : Same σ σ1 [] := by rw [← hσ1]; exact Same.new _ _ _
  have hx1 : σ1.next = σ.next + 1 := by rw [← hσ1]; rfl
  have hg1 : σ1.get a = _ := (hs1.2 a hal (by simp)).trans hg
  obtain ⟨σ2, p2, g2, s2, n2⟩ := putf hg1 3 (.int .i64 ph) (by simp [hd]) rfl
  obtain ⟨σ3, p3, g3, s3, n3⟩ := putf g2 4 (.map (some σ.next)) (by simp [hd]) rfl
  have s13 := s2.trans s3
  rw [p2, p3]
  have hR3 : Rnd σ3 a (a :: (qs ++ [σ.next])) { s with phase := ph, an := [], live := true } := by
    refine ⟨⟨qs, ad, z, [σ.next], some σ.next, rfl, h1, by simp; omega, fun q hq => by have := hlt q (by simp [hq]); simp; omega, g3, (h5.same hs1 (by simp)).same s13 (fun q hq => by simp; rintro rfl; exact h1 hq), .inr ⟨σ.next, rfl, rfl, by rw [s13.2 _ (by omega) (by simp; omega)]; exact hn1⟩⟩, fun q hq => ?_⟩
    simp only [List.mem_cons, List.mem_append, List.not_mem_nil, or_false] at hq
    rcases hq with rfl | hq | rfl
    · omega
    · have := hlt q (by simp [hq]); omega
    · omega
  have hT3 : Turn σ σ3 (a :: (qs ++ mq)) (a :: (qs ++ [σ.next])) := by
    refine ⟨(hs1.mono (by simp)).trans (s13.mono (by simp)), fun q hq => ⟨?_, hR3.lt q hq⟩⟩
    simp only [List.mem_cons, List.mem_append, List.not_mem_nil, or_false] at hq ⊢
    rcases hq with rfl | hq | rfl
    · exact .inl (.inl rfl)
    · exact .inl (.inr (.inl hq))
    · exact .inr (Nat.le_refl _)
  obtain ⟨v, σ4, g4, adO, zO, qO, rfl, hO, hR4, hT4, hq4⟩ := tell_spec L k hL hR3 hl
  rw [g4, bnd_some, asSl_s]
  have hlk : RS.lack { s with phase := ph, an := [], live := true } = s.vols := by
    unfold RS.lack; simp
  have hcm : RS.cmds { s with phase := ph, an := [], live := true } = s.vols.map fun v => (ph, v, s.number) := by unfold RS.cmds; rw [hlk]
  rw [hcm] at hO ⊢
  refine .leaf ⟨adO, zO, qO, _, by rw [List.length_map], hO, hR4, hT3.trans hT4, fun q hq => ⟨by have := (hq4 q hq).1; omega, (hq4 q hq).2⟩⟩

end Go.AM.Rq
