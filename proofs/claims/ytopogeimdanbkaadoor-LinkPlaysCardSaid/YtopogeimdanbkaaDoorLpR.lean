/-
  DOOR OF THE LINK: the document's link.
-/
import Derived.Test.YtopogeimdanbkaaDoorLpC
set_option linter.unusedVariables false
set_option linter.unusedSimpArgs false
set_option linter.unusedSectionVars false
namespace Go.AM.Lp
open Go.Proofs

abbrev Strs := List ByteArray
structure Ref (σ : St) (b : Nat) (rs : List Nat) (l : Strs) (room : Int) (cut : Bool) : Prop where
  ex : ∃ ad z, σ.get b = some (.own [.slice ad l.length z, .int .i64 room, .bool cut] 50) ∧ Row S.cc 1 9 σ ad z rs l
  lt : b < σ.next
  ne : b ∉ rs

section
variable {σ σ' : St} {b : Nat} {rs : List Nat} {l : Strs} {room : Int} {cut : Bool}
theorem Ref.same {S : List Nat} (h : Ref σ b rs l room cut) (hs : Same σ σ' S) (hS : ∀ q ∈ b :: rs, q ∉ S) : Ref σ' b rs l room cut := by
  obtain ⟨ad, z, hg, hrow⟩ := h.ex
  exact ⟨⟨ad, z, by rw [hs.2 b h.lt (hS b (by simp))]; exact hg, hrow.same hs (fun q hq => hS q (by simp [hq]))⟩, by have := hs.1; have := h.lt; omega, h.ne⟩
theorem Ref.lts (h : Ref σ b rs l room cut) : ∀ q ∈ b :: rs, q < σ.next := fun q hq => by
  rcases List.mem_cons.1 hq with rfl | hq
  · exact h.lt
  · obtain ⟨_, _, _, hr⟩ := h.ex
    exact hr.lt q hq

theorem ref_new (L k : Nat) (σ : St) (room : Int) : ∃ σ', evCall Tryd.prog env L (k + 1) 22 [.int .i64 room] σ = some (.pointer (some ⟨σ.next, 0, none⟩), σ') ∧ Ref σ' σ.next [] [] (mx 0 (mn room 4096)) false ∧ Same σ σ' [] ∧ σ'.next = σ.next + 1 := by
  rw [f22_eq]
  exact ⟨_, rfl, ⟨⟨none, 0, by rw [get_new_same]; rfl, ⟨by simp, .inl ⟨rfl, rfl, rfl, rfl⟩⟩⟩, by simp, by simp⟩, Same.new _ _ _, rfl⟩

theorem ref_there (L k : Nat) (h : Ref σ b rs l room cut) (i : Int) : evCall Tryd.prog env L (k + 1) 36 [.pointer (some ⟨b, 0, none⟩), .int .i64 i] σ = some (.bool (decide (0 ≤ i ∧ i < l.length)), σ) := by
  obtain ⟨ad, z, hg, hrow⟩ := h.ex
  rw [f36_eq]
  by_cases h0 : i ≥ 0
  · rw [decide_eq_true h0, br_true, ld_own _ hg (v := .slice ad l.length z) rfl, asSl_s]
    have : decide (i < (l.length : Int)) = decide (0 ≤ i ∧ i < l.length) := by simp; omega
    rw [this]
  · rw [decide_eq_false h0, br_false, decide_eq_false (p := 0 ≤ i ∧ i < l.length) (by omega)]

/-- The row is stored in the link. -/
theorem Ref.store {ad : Option Addr} {z : Nat} {rs' : List Nat} {l' : Strs} (hg : σ.get b = some (.own [.slice ad l.length z, .int .i64 room, .bool cut] 50)) (hb : b < σ.next) {ad' : Option Addr} {z' : Nat} (hrow : Row S.cc 1 9 σ ad' z' rs' l') (hne : b ∉ rs') :
    ∀ K : St → Res, σ.put b 0 [.slice ad' l'.length z'] K = K (σ.set b (.own [.slice ad' l'.length z', .int .i64 room, .bool cut] 50)) ∧ Ref (σ.set b (.own [.slice ad' l'.length z', .int .i64 room, .bool cut] 50)) b rs' l' room cut := fun K => by
  refine ⟨by rw [put_sl hg 0 _ _ _ (by simp)]; rfl, ⟨ad', z', get_set_same _ _ _, hrow.same (Same.set _ _ _) (fun q hq => by simp; rintro rfl; exact hne hq)⟩, by simpa using hb, hne⟩

theorem ref_send (L k : Nat) (h : Ref σ b rs l room cut) (hl : l.length ≤ 100000) (x : ByteArray) :
    ((l.length : Int) < room ∧ ∃ rs' σ', evCall Tryd.prog env L (k + 1) 23 [.pointer (some ⟨b, 0, none⟩), .string x] σ = some (.int .i64 0, σ') ∧ Ref σ' b rs' (l ++ [x]) room cut ∧ Turn σ σ' (b :: rs) (b :: rs')) ∨
    (room ≤ l.length ∧ evCall Tryd.prog env L (k + 1) 23 [.pointer (some ⟨b, 0, none⟩), .string x] σ = some (.int .i64 6, σ)) := by
  obtain ⟨ad, z, hg, hrow⟩ := h.ex
  rw [f23_eq, ld_own _ hg (v := .slice ad l.length z) rfl, asSl_s, ld_own _ hg (v := .int .i64 room) rfl, asI_i]
  by_cases h0 : (l.length : Int) ≥ room
  · rw [decide_eq_true h0, br_true]; exact .inr ⟨by omega, rfl⟩
  · rw [decide_eq_false h0, br_false, ld_own _ hg (v := .slice ad l.length z) rfl, asSl_s]
    refine .inl ⟨by omega, ?_⟩
    generalize hσ2 : σ.new (Blk.own [Value.string x] 9) = σ2
    have hnew : σ2.get σ.next = some (Blk.own [Value.string x] 9) := by rw [← hσ2, get_new_same]
    have hs2 : Same σ σ2 [] := by rw [← hσ2]; exact Same.new _ _ _
    have hn2 : σ2.next = σ.next + 1 := by rw [← hσ2]; rfl
    rw [row_one hnew]
    obtain ⟨ad', z', qs', σ3, hgrow, hrow3, hs3, hq3⟩ := grow_row (by_ := 16) (hrow.same hs2 (by simp)) S.cc_len S.cc_one (by omega) [x] [Value.string x] rfl 1 rfl (by unfold roomTop; omega) (by unfold sizeTop; omega)
    have hn := hs3.1
    have hg3 : σ3.get b = some (.own [.slice ad l.length z, .int .i64 room, .bool cut] 50) := by
      rw [hs3.2 b (by have := h.lt; omega) h.ne, hs2.2 b h.lt (by simp)]; exact hg
    have hne' : b ∉ qs' := fun hb => by rcases hq3 b hb with h1 | h1; exact h.ne h1; have := h.lt; omega
    have hst := Ref.store hg3 (by have := h.lt; omega) hrow3 hne'
    have hlen : (l ++ [x]).length = l.length + 1 := by simp
    rw [hlen] at hst
    rw [hgrow, (hst _).1]
    refine ⟨qs', _, rfl, (hst (fun _ => none)).2, ⟨⟨by simp; omega, fun k hk hS => ?_⟩, fun q hq => ?_⟩⟩
    · simp only [List.mem_cons, not_or] at hS
      rw [get_set hS.1, hs3.2 k (by omega) hS.2, hs2.2 k hk (by simp)]
    · refine ⟨?_, (hst (fun _ => none)).2.lts q hq⟩
      rcases List.mem_cons.1 hq with rfl | hq
      · exact .inl (by simp)
      · rcases hq3 q hq with h1 | h1
        · exact .inl (by simp [h1])
        · exact .inr (by omega)

theorem ref_drop (L k : Nat) (h : Ref σ b rs l room cut) (hl : l.length ≤ 100000) (i : Int) :
    (0 ≤ i ∧ i < l.length ∧ ∃ rs' σ', evCall Tryd.prog env L (k + 2) 28 [.pointer (some ⟨b, 0, none⟩), .int .i64 i] σ = some (.int .i64 0, σ') ∧ Ref σ' b rs' (l.eraseIdx i.toNat) room cut ∧ Turn σ σ' (b :: rs) (b :: rs')) ∨
    (¬ (0 ≤ i ∧ i < l.length) ∧ evCall Tryd.prog env L (k + 2) 28 [.pointer (some ⟨b, 0, none⟩), .int .i64 i] σ = some (.int .i64 5, σ)) := by
  rw [f28_eq, ref_there L k h, bnd_some, asB_b]
  by_cases hi : 0 ≤ i ∧ i < l.length
  · refine .inl ⟨hi.1, hi.2, ?_⟩
    obtain ⟨ad, z, hg, hrow⟩ := h.ex
    obtain ⟨p, rfl⟩ := Int.eq_ofNat_of_zero_le hi.1
    have hp : p < l.length := by omega
    have htk : (l.take p).length = p := by rw [List.length_take]; omega
    have hz := hrow.z
    have hzb : (Nat.beq z 0 || Nat.beq z 1) = true := by rcases hz with rfl | rfl <;> rfl
    have hw1 : IntKind.wrap .i64 ((p : Int) + 1) = ((p + 1 : Nat) : Int) := by rw [wrap_in _ (by omega) (by omega)]; omega
    obtain ⟨ad3, z3, q3, σ3, hgrow3, hR3, hs3, hq3⟩ := grow_row (by_ := 16) (Row.nil S.cc 1 9 σ) S.cc_len S.cc_one (by omega) (l.take p) ((l.take p).flatMap S.cc) rfl p htk.symm (by unfold roomTop; simp; omega) (by unfold sizeTop; simp; omega)
    rw [List.nil_append] at hR3
    rw [List.length_nil, Nat.zero_add] at hgrow3
    have hg3 : σ3.get b = some (.own [.slice ad l.length z, .int .i64 room, .bool cut] 50) := by rw [hs3.2 b h.lt (by simp)]; exact hg
    have hrow3 := hrow.same hs3 (by simp)
    have hdr : ((l.drop (p + 1)).take (l.length - (p + 1))) = l.drop (p + 1) := List.take_of_length_le (by simp)
    obtain ⟨ad4, z4, q4, σ4, hgrow4, hR4, hs4, hq4⟩ := grow_row (by_ := 16) hR3 S.cc_len S.cc_one (by omega) (l.drop (p + 1)) ((l.drop (p + 1)).flatMap S.cc) rfl (l.length - (p + 1)) (by simp) (by unfold roomTop; rw [htk]; omega) (by unfold sizeTop; rw [htk]; omega)
    rw [htk] at hgrow4
    have h34 : ∀ q ∈ q3, σ.next ≤ q := fun q hq => by rcases hq3 q hq with h1 | h1; simp at h1; exact h1
    have h4 : ∀ q ∈ q4, σ.next ≤ q := fun q hq => by rcases hq4 q hq with h1 | h1; exact h34 q h1; have := hs3.1; omega
    have hs04 : Same σ σ4 [] := hs3.fresh hs4 (fun x hx => .inr (h34 x hx))
    have hg4 : σ4.get b = some (.own [.slice ad l.length z, .int .i64 room, .bool cut] 50) := by rw [hs04.2 b h.lt (by simp)]; exact hg
    have hne' : b ∉ q4 := fun hb => by have := h4 b hb; have := h.lt; omega
    rw [← List.eraseIdx_eq_take_drop_succ] at hR4
    have hst := Ref.store hg4 (by have := h.lt; have := hs04.1; omega) hR4 hne'
    have hlen : (l.eraseIdx p).length = p + (l.length - (p + 1)) := by rw [List.length_eraseIdx_of_lt hp]; omega
    rw [hlen] at hst
    rw [decide_eq_true hi, not_true, br_false, ld_own _ hg (v := .slice ad l.length z) rfl, asSl_s, need_of hzb, need_of (by simp [inRange]; omega), show ((p : Nat) : Int).toNat - 0 = p from rfl,
      hrow.part S.cc_len 0 p (by omega) 0 (p * 1) (by simp) rfl, List.drop_zero, hgrow3, ld_own _ hg3 (v := .slice ad l.length z) rfl, asSl_s, need_of hzb, hw1, need_of (by simp [inRange]; omega), show ((p + 1 : Nat) : Int).toNat = p + 1 from rfl,
      hrow3.part S.cc_len (p + 1) (l.length - (p + 1)) (by omega) _ _ rfl rfl, hdr, hgrow4, (hst _).1]
    refine ⟨q4, _, rfl, (hst (fun _ => none)).2, ⟨⟨by have := hs04.1; simp; omega, fun k hk hS => ?_⟩, fun q hq => ?_⟩⟩
    · simp only [List.mem_cons, not_or] at hS
      rw [get_set hS.1, hs04.2 k hk (by simp)]
    · refine ⟨?_, (hst (fun _ => none)).2.lts q hq⟩
      rcases List.mem_cons.1 hq with rfl | hq
      · exact .inl (by simp)
      · exact .inr (h4 q hq)
  · rw [decide_eq_false hi, not_false, br_true]
    exact .inr ⟨hi, rfl⟩

theorem ref_double (L k : Nat) (h : Ref σ b rs l room cut) (hl : l.length ≤ 100000) (i : Int) :
    (∃ x, 0 ≤ i ∧ l[i.toNat]? = some x ∧ (l.length : Int) < room ∧ ∃ rs' σ', evCall Tryd.prog env L (k + 2) 26 [.pointer (some ⟨b, 0, none⟩), .int .i64 i] σ = some (.int .i64 0, σ') ∧ Ref σ' b rs' (l ++ [x]) room cut ∧ Turn σ σ' (b :: rs) (b :: rs')) ∨
    (0 ≤ i ∧ i < l.length ∧ room ≤ l.length ∧ evCall Tryd.prog env L (k + 2) 26 [.pointer (some ⟨b, 0, none⟩), .int .i64 i] σ = some (.int .i64 6, σ)) ∨
    (¬ (0 ≤ i ∧ i < l.length) ∧ evCall Tryd.prog env L (k + 2) 26 [.pointer (some ⟨b, 0, none⟩), .int .i64 i] σ = some (.int .i64 5, σ)) := by
  rw [f26_eq, ref_there L k h, bnd_some, asB_b]
  by_cases hi : 0 ≤ i ∧ i < l.length
  · obtain ⟨ad, z, hg, hrow⟩ := h.ex
    have hget : l[i.toNat]? = some l[i.toNat] := List.getElem?_eq_getElem (by omega)
    obtain ⟨q, e, hat⟩ := hrow.at S.cc_len hget
    rw [decide_eq_true hi, not_true, br_false, ld_own _ hg (v := .slice ad l.length z) rfl, asSl_s, need_of (by simp [inRange]; omega), e, adr_some, hat 0 (.string l[i.toNat]) _ (by omega) rfl (by simp), asS_s]
    rcases ref_send L k h hl l[i.toNat] with ⟨h0, rs', σ', g1, g2, g3⟩ | ⟨h0, g1⟩
    · rw [g1, bnd_some, asI_i]; exact .inl ⟨_, hi.1, hget, h0, rs', σ', rfl, g2, g3⟩
    · rw [g1, bnd_some, asI_i]; exact .inr (.inl ⟨hi.1, hi.2, h0, rfl⟩)
  · rw [decide_eq_false hi, not_false, br_true]
    exact .inr (.inr ⟨hi, rfl⟩)

theorem ref_deliver (L k : Nat) (h : Ref σ b rs l room false) (hl : l.length ≤ 100000) (i : Int) :
    (∃ x, 0 ≤ i ∧ l[i.toNat]? = some x ∧ ∃ rs' σ', evCall Tryd.prog env L (k + 3) 24 [.pointer (some ⟨b, 0, none⟩), .int .i64 i] σ = some (.tuple #[.string x, .int .i64 0], σ') ∧ Ref σ' b rs' (l.eraseIdx i.toNat) room false ∧ Turn σ σ' (b :: rs) (b :: rs')) ∨
    (¬ (0 ≤ i ∧ i < l.length) ∧ evCall Tryd.prog env L (k + 3) 24 [.pointer (some ⟨b, 0, none⟩), .int .i64 i] σ = some (.tuple #[.string { data := #[] }, .int .i64 5], σ)) := by
  obtain ⟨ad, z, hg, hrow⟩ := h.ex
  rw [f24_eq, ld_own _ hg (v := .bool false) rfl, asB_b, br_false, ref_there L (k + 1) h, bnd_some, asB_b]
  by_cases hi : 0 ≤ i ∧ i < l.length
  · have hget : l[i.toNat]? = some l[i.toNat] := List.getElem?_eq_getElem (by omega)
    obtain ⟨q, e, hat⟩ := hrow.at S.cc_len hget
    rw [decide_eq_true hi, not_true, br_false, ld_own _ hg (v := .slice ad l.length z) rfl, asSl_s, need_of (by simp [inRange]; omega), e, adr_some, hat 0 (.string l[i.toNat]) _ (by omega) rfl (by simp), asS_s]
    rcases ref_drop L k h hl i with ⟨_, _, rs', σ', g1, g2, g3⟩ | ⟨h0, _⟩
    · rw [g1, bnd_some, asI_i]; exact .inl ⟨_, hi.1, hget, rs', σ', rfl, g2, g3⟩
    · exact absurd hi h0
  · rw [decide_eq_false hi, not_false, br_true]
    exact .inr ⟨hi, rfl⟩

theorem ref_deliver_cut (L k : Nat) (h : Ref σ b rs l room true) (i : Int) :
    evCall Tryd.prog env L (k + 1) 24 [.pointer (some ⟨b, 0, none⟩), .int .i64 i] σ = some (.tuple #[.string { data := #[] }, .int .i64 11], σ) := by
  obtain ⟨ad, z, hg, hrow⟩ := h.ex
  rw [f24_eq, ld_own _ hg (v := .bool true) rfl, asB_b, br_true]
end

end Go.AM.Lp
