/-
  DOOR OF THE LINK: its calls (I; printed by gen/lp.py).
-/
import Derived.Test.YtopogeimdanbkaaDoorLpE
set_option linter.unusedVariables false
set_option linter.unusedSimpArgs false
set_option linter.unusedSectionVars false
namespace Go.AM.Lp.I
open Go.Proofs

def cc (s : Int) : List Value := [Value.int .i64 s]
theorem cc_len (n : Int) : (cc n).length = 1 := rfl
theorem cc_one (n : Int) : (cc n).all oneCell = true := rfl

/-- A link: what is on its way, its room; is it cut? -/
structure Link (σ : St) (a : Nat) (qs : List Nat) (l : List Int) (room : Int) (cut : Bool) : Prop where
  ex : ∃ ad z, σ.get a = some (.own [.slice ad l.length z, .int .i64 room, .bool cut] 67) ∧ Row cc 1 3 σ ad z qs l
  lt : a < σ.next
  ne : a ∉ qs

theorem Link.same {σ σ' : St} {a : Nat} {qs : List Nat} {l : List Int} {room : Int} {cut : Bool} {S : List Nat} (h : Link σ a qs l room cut) (hs : Same σ σ' S) (ha : a ∉ S) (hq : ∀ q ∈ qs, q ∉ S) : Link σ' a qs l room cut := by
  obtain ⟨ad, z, hg, hrow⟩ := h.ex
  exact ⟨⟨ad, z, by rw [hs.2 a h.lt ha]; exact hg, hrow.same hs hq⟩, by have := hs.1; have := h.lt; omega, h.ne⟩
theorem Link.idle {σ σ' : St} {a : Nat} {qs : List Nat} {l : List Int} {room : Int} {cut : Bool} (h : Link σ a qs l room cut) (hs : Same σ σ' []) : Link σ' a qs l room cut := h.same hs (by simp) (by simp)
theorem Link.lts {σ : St} {a : Nat} {qs : List Nat} {l : List Int} {room : Int} {cut : Bool} (h : Link σ a qs l room cut) : ∀ q ∈ a :: qs, q < σ.next := fun q hq => by
  rcases List.mem_cons.1 hq with rfl | hq
  · exact h.lt
  · obtain ⟨_, _, _, hr⟩ := h.ex
    exact hr.lt q hq

theorem new_spec (L k : Nat) (σ : St) (room : Int) : ∃ σ', evCall Tryd.prog env L (k + 1) 14 [.int .i64 room] σ = some (.pointer (some ⟨σ.next, 0, none⟩), σ') ∧ Link σ' σ.next [] [] (mx 0 (mn room 4096)) false ∧ Same σ σ' [] := by
  rw [f14_eq]
  exact ⟨_, rfl, ⟨⟨none, 0, by rw [get_new_same]; rfl, ⟨by simp, .inl ⟨rfl, rfl, rfl, rfl⟩⟩⟩, by simp, by simp⟩, Same.new _ _ _⟩

theorem there_spec (L k : Nat) {σ : St} {a : Nat} {qs : List Nat} {l : List Int} {room : Int} {cut : Bool} (hK : Link σ a qs l room cut) (i : Int) :
    (0 ≤ i ∧ i < l.length ∧ evCall Tryd.prog env L (k + 3) 35 [.pointer (some ⟨a, 0, none⟩), .int .i64 i] σ = some (.nilIface, σ)) ∨
    (¬ (0 ≤ i ∧ i < l.length) ∧ ∃ v σ', evCall Tryd.prog env L (k + 3) 35 [.pointer (some ⟨a, 0, none⟩), .int .i64 i] σ = some (v, σ') ∧ Err σ' v 5 i ∧ Same σ σ' []) := by
  obtain ⟨ad, z, hg, hrow⟩ := hK.ex
  rw [f35_eq]
  by_cases h0 : i < 0
  · obtain ⟨v, σ', g1, g2⟩ := wrong_spec L k σ i 5 (by omega)
    rw [decide_eq_true h0, br_true, g1, bnd_some]
    exact .inr ⟨by omega, v, σ', rfl, g2⟩
  · rw [decide_eq_false h0, br_false, ld_own _ hg (v := .slice ad l.length z) rfl, asSl_s]
    by_cases h1 : i ≥ (l.length : Int)
    · obtain ⟨v, σ', g1, g2⟩ := wrong_spec L k σ i 5 (by omega)
      rw [decide_eq_true h1, br_true, g1, bnd_some]
      exact .inr ⟨by omega, v, σ', rfl, g2⟩
    · rw [decide_eq_false h1, br_false]
      exact .inl ⟨by omega, by omega, rfl⟩

theorem put_spec (L k : Nat) {σ : St} {a : Nat} {qs : List Nat} {l : List Int} {room : Int} {cut : Bool} (hK : Link σ a qs l room cut) (hl : l.length ≤ 100000) (x : Int) (at_ : Int) :
    ((l.length : Int) < room ∧ ∃ qs' σ', evCall Tryd.prog env L (k + 3) 34 [.pointer (some ⟨a, 0, none⟩), Value.int .i64 x, .int .i64 at_] σ = some (.nilIface, σ') ∧ Link σ' a qs' (l ++ [x]) room cut ∧ Same σ σ' (a :: qs) ∧ ∀ q ∈ qs', q ∈ qs ∨ σ.next ≤ q) ∨
    (room ≤ l.length ∧ ∃ v σ', evCall Tryd.prog env L (k + 3) 34 [.pointer (some ⟨a, 0, none⟩), Value.int .i64 x, .int .i64 at_] σ = some (v, σ') ∧ Err σ' v 6 at_ ∧ Same σ σ' []) := by
  obtain ⟨ad, z, hg, hrow⟩ := hK.ex
  have hlt := hK.lt
  have hqa := hK.ne
  rw [f34_eq, ld_own _ hg (v := .slice ad l.length z) rfl, asSl_s, ld_own _ hg (v := .int .i64 room) rfl, asI_i]
  by_cases h0 : (l.length : Int) ≥ room
  · obtain ⟨v, σ', g1, g2⟩ := wrong_spec L k σ at_ 6 (by omega)
    rw [decide_eq_true h0, br_true, g1, bnd_some]
    exact .inr ⟨by omega, v, σ', rfl, g2⟩
  · rw [decide_eq_false h0, br_false, ld_own _ hg (v := .slice ad l.length z) rfl, asSl_s]
    refine .inl ⟨by omega, ?_⟩
    generalize hσ2 : σ.new (Blk.own [Value.int .i64 x] 3) = σ2
    have hnew : σ2.get σ.next = some (Blk.own [Value.int .i64 x] 3) := by rw [← hσ2, get_new_same]
    have hsame : ∀ S, Same σ σ2 S := fun S => by rw [← hσ2]; exact Same.new _ _ _
    have hn2 : σ2.next = σ.next + 1 := by rw [← hσ2]; rfl
    have hrow2 : Row cc 1 3 σ2 ad z qs l := hrow.same (hsame []) (fun _ _ => by simp)
    rw [row_one hnew]
    obtain ⟨ad', z', qs', σ3, hgrow, hrow3, hs3, hq3⟩ := grow_row (by_ := 8) hrow2 cc_len cc_one (by omega) [x] [Value.int .i64 x] rfl 1 rfl (by unfold roomTop; omega) (by unfold sizeTop; omega)
    rw [hgrow]
    have hg3 : σ3.get a = some (.own [.slice ad l.length z, .int .i64 room, .bool cut] 67) := by
      rw [hs3.2 a (by omega) hqa, (hsame []).2 a hlt (by simp)]; exact hg
    rw [put_own _ hg3 (by simp) rfl]
    have hq' : ∀ q ∈ qs', q ∈ qs ∨ σ.next ≤ q := fun q hq => by rcases hq3 q hq with h | h; exact .inl h; exact .inr (by omega)
    have hne' : a ∉ qs' := fun h => by rcases hq' a h with h | h; exact hqa h; omega
    refine ⟨qs', _, rfl, ?_, ?_, hq'⟩
    · refine ⟨⟨ad', z', by simp [over], ⟨fun q hq => by simpa using hrow3.lt q hq, ?_⟩⟩, by have := hs3.1; simp; omega, hne'⟩
      rcases hrow3.is with h | ⟨q, rest, e1, e2, e3, e4⟩
      · exact .inl h
      · exact .inr ⟨q, rest, e1, e2, e3, by rw [get_set (fun h => hne' (by rw [e1, ← h]; simp))]; exact e4⟩
    · refine ⟨by have := hs3.1; simp; omega, fun k hk hS => ?_⟩
      simp only [List.mem_cons, not_or] at hS
      rw [get_set hS.1, hs3.2 k (by omega) hS.2, (hsame []).2 k hk (by simp)]

theorem flat_cc (l : List Int) : l.flatMap cc = l.map (fun s => Value.int .i64 s) := by
  induction l with
  | nil => rfl
  | cons x l ih => rw [List.flatMap_cons, ih]; rfl

theorem send_spec (L k : Nat) {σ : St} {a : Nat} {qs : List Nat} {l : List Int} {room : Int} {cut : Bool} (hK : Link σ a qs l room cut) (hl : l.length ≤ 100000) (x : Int) :
    ((l.length : Int) < room ∧ ∃ qs' σ', evCall Tryd.prog env L (k + 4) 15 [.pointer (some ⟨a, 0, none⟩), Value.int .i64 x] σ = some (.nilIface, σ') ∧ Link σ' a qs' (l ++ [x]) room cut ∧ Same σ σ' (a :: qs) ∧ ∀ q ∈ qs', q ∈ qs ∨ σ.next ≤ q) ∨
    (room ≤ l.length ∧ ∃ v σ', evCall Tryd.prog env L (k + 4) 15 [.pointer (some ⟨a, 0, none⟩), Value.int .i64 x] σ = some (v, σ') ∧ Err σ' v 6 l.length ∧ Same σ σ' []) := by
  obtain ⟨ad, z, hg, hrow⟩ := hK.ex
  rw [f15_eq, ld_own _ hg (v := .slice ad l.length z) rfl, asSl_s]
  rcases put_spec L k hK hl x l.length with ⟨h0, qs', σ', g1, g2⟩ | ⟨h0, v, σ', g1, g2⟩
  · rw [g1, bnd_some]; exact .inl ⟨h0, qs', σ', rfl, g2⟩
  · rw [g1, bnd_some]; exact .inr ⟨h0, v, σ', rfl, g2⟩

theorem len_spec (L k : Nat) {σ : St} {a : Nat} {qs : List Nat} {l : List Int} {room : Int} {cut : Bool} (hK : Link σ a qs l room cut) :
    evCall Tryd.prog env L (k + 1) 16 [.pointer (some ⟨a, 0, none⟩)] σ = some (.int .i64 l.length, σ) := by
  obtain ⟨ad, z, hg, hrow⟩ := hK.ex
  rw [f16_eq, ld_own _ hg (v := .slice ad l.length z) rfl, asSl_s]

theorem drop_spec (L k : Nat) {σ : St} {a : Nat} {qs : List Nat} {l : List Int} {room : Int} {cut : Bool} (hK : Link σ a qs l room cut) (hl : l.length ≤ 100000) (i : Int) :
    (0 ≤ i ∧ i < l.length ∧ ∃ σ', evCall Tryd.prog env L (k + 4) 18 [.pointer (some ⟨a, 0, none⟩), .int .i64 i] σ = some (.nilIface, σ') ∧ Link σ' a qs (l.eraseIdx i.toNat) room cut ∧ Same σ σ' (a :: qs)) ∨
    (¬ (0 ≤ i ∧ i < l.length) ∧ ∃ v σ', evCall Tryd.prog env L (k + 4) 18 [.pointer (some ⟨a, 0, none⟩), .int .i64 i] σ = some (v, σ') ∧ Err σ' v 5 i ∧ Same σ σ' []) := by
  rw [f18_eq]
  rcases there_spec L k hK i with ⟨h0, h1, g1⟩ | ⟨h0, v, σ', g1, g2, g3⟩
  · refine .inl ⟨h0, h1, ?_⟩
    obtain ⟨ad, z, hg, hrow⟩ := hK.ex
    obtain ⟨I, hI⟩ := Int.eq_ofNat_of_zero_le h0
    subst hI
    have hIl : I < l.length := by omega
    rcases hrow.is with ⟨_, e2, _⟩ | ⟨q, rest, e0, e1, e2, e3⟩
    · subst e2; simp at hIl
    · have hqa : q ≠ a := fun h => hK.ne (by rw [e0, ← h]; simp)
      rw [g1, bnd_some, eqNil_nil, show (!true) = false from rfl, br_false, ld_own _ hg (v := .slice ad l.length z) rfl, asSl_s, need_of (by rw [e2]; rfl), need_of (by simp [inRange]; omega), ld_own _ hg (v := .slice ad l.length z) rfl, asSl_s, need_of (by rw [e2]; rfl), wrap_in ((I : Int) + 1) (by omega) (by omega), need_of (by simp [inRange]; omega)]
      have hk1 : ((I : Int) + 1).toNat = I + 1 := by omega
      have hk2 : (I : Int).toNat = I := by omega
      rw [hk1, hk2, show min (l.length - (I + 1)) (l.length - I) = l.length - (I + 1) by omega, e1]
      have hF := flat_cc l
      have hFl : (l.flatMap cc).length = l.length := by rw [hF]; simp
      -- the copy
      obtain ⟨σ1, hcp, hq1, hs1⟩ : ∃ σ1, (∀ K : St → Res, cpy 1 (subA (some ⟨q, 0, none⟩) (I * 1)) (subA (some ⟨q, 0, none⟩) ((I + 1) * 1)) (l.length - (I + 1)) σ K = K σ1) ∧ (∃ rest', σ1.get q = some (.own ((l.eraseIdx I).flatMap cc ++ rest') 3)) ∧ Same σ σ1 [q] := by
        have her : (l.eraseIdx I).flatMap cc = (l.flatMap cc).take I ++ (l.flatMap cc).drop (I + 1) := by
          rw [hF, flat_cc, List.eraseIdx_eq_take_drop_succ, List.map_append, List.map_take, List.map_drop]
        by_cases hz : l.length - (I + 1) = 0
        · refine ⟨σ, fun K => by simp [cpy, hz], ⟨(l.flatMap cc).drop I ++ rest, ?_⟩, Same.refl _ _⟩
          rw [e3, her, List.drop_of_length_le (by omega : (l.flatMap cc).length ≤ I + 1), List.append_nil, ← List.append_assoc, List.take_append_drop]
        · have hnew : (((l.flatMap cc ++ rest).drop (I + 1)).take (l.length - (I + 1))) = (l.flatMap cc).drop (I + 1) := by
            rw [List.drop_append_of_le_length (by omega), List.take_left' (by rw [List.length_drop, hFl])]
          have hone : ((l.flatMap cc).drop (I + 1)).all oneCell = true := by
            rw [List.all_eq_true]
            intro x hx
            have h9 := List.mem_of_mem_drop hx
            rw [hF] at h9
            obtain ⟨n, _, rfl⟩ := List.mem_map.1 h9
            rfl
          refine ⟨σ.set q (.own (over (l.flatMap cc ++ rest) I ((l.flatMap cc).drop (I + 1))) 3), fun K => ?_, ⟨(l.flatMap cc ++ rest).drop (I + ((l.flatMap cc).drop (I + 1)).length), ?_⟩, ⟨by simp, fun k hk hS => get_set (by simpa using hS)⟩⟩
          · simp only [cpy, Nat.mul_one, hz, if_false, subA, adr_some, Nat.zero_add]
            rw [lds_own _ e3 (by rw [List.length_append]; omega), hnew, put_own _ e3 (by rw [List.length_drop, List.length_append, hFl]; omega) hone]
          · rw [get_set_same, her, over, List.take_append_of_le_length (by omega)]
      obtain ⟨rest', hq1⟩ := hq1
      rw [hcp]
      have hg1 : σ1.get a = some (.own [.slice ad l.length z, .int .i64 room, .bool cut] 67) := by rw [hs1.2 a hK.lt (by simp; exact fun h => hqa h.symm)]; exact hg
      rw [ld_own _ hg1 (v := .slice ad l.length z) rfl, asSl_s, need_of (by rw [e2]; rfl)]
      rw [wrap_in ((I : Int) + ((l.length - (I + 1) : Nat) : Int)) (by omega) (by omega), need_of (by simp [inRange]; omega), put_own _ hg1 (by simp) rfl]
      refine ⟨_, rfl, ⟨⟨some ⟨q, 0, none⟩, z, ?_, ⟨fun q' hq' => by have := hrow.lt q' hq'; have := hs1.1; simp; omega, .inr ⟨q, rest', e0, rfl, e2, by rw [get_set hqa]; exact hq1⟩⟩⟩, by have := hs1.1; have := hK.lt; simp; omega, hK.ne⟩, ?_⟩
      · rw [get_set_same]
        have hlen : (l.eraseIdx I).length = ((I : Int) + ((l.length - (I + 1) : Nat) : Int)).toNat - 0 := by rw [List.length_eraseIdx_of_lt hIl]; omega
        rw [hlen, e1]
        rfl
      · refine ⟨by have := hs1.1; simp; omega, fun k hk hS => ?_⟩
        simp only [List.mem_cons, not_or] at hS
        rw [get_set hS.1, hs1.2 k hk (by simp; rintro rfl; exact hS.2 (by rw [e0]; simp))]
  · rw [g1, bnd_some, g2.nil, show (!false) = true from rfl, br_true]
    exact .inr ⟨h0, v, σ', rfl, g2, g3⟩

theorem double_spec (L k : Nat) {σ : St} {a : Nat} {qs : List Nat} {l : List Int} {room : Int} {cut : Bool} (hK : Link σ a qs l room cut) (hl : l.length ≤ 100000) (i : Int) :
    (∃ x, 0 ≤ i ∧ l[i.toNat]? = some x ∧ (l.length : Int) < room ∧ ∃ qs' σ', evCall Tryd.prog env L (k + 4) 17 [.pointer (some ⟨a, 0, none⟩), .int .i64 i] σ = some (.nilIface, σ') ∧ Link σ' a qs' (l ++ [x]) room cut ∧ Same σ σ' (a :: qs) ∧ ∀ q ∈ qs', q ∈ qs ∨ σ.next ≤ q) ∨
    (0 ≤ i ∧ i < l.length ∧ room ≤ l.length ∧ ∃ v σ', evCall Tryd.prog env L (k + 4) 17 [.pointer (some ⟨a, 0, none⟩), .int .i64 i] σ = some (v, σ') ∧ Err σ' v 6 i ∧ Same σ σ' []) ∨
    (¬ (0 ≤ i ∧ i < l.length) ∧ ∃ v σ', evCall Tryd.prog env L (k + 4) 17 [.pointer (some ⟨a, 0, none⟩), .int .i64 i] σ = some (v, σ') ∧ Err σ' v 5 i ∧ Same σ σ' []) := by
  rw [f17_eq]
  rcases there_spec L k hK i with ⟨h0, h1, g1⟩ | ⟨h0, v, σ', g1, g2, g3⟩
  · obtain ⟨ad, z, hg, hrow⟩ := hK.ex
    have hget : l[i.toNat]? = some l[i.toNat] := List.getElem?_eq_getElem (by omega)
    obtain ⟨q, e, hat⟩ := hrow.at cc_len hget
    rw [g1, bnd_some, eqNil_nil, show (!true) = false from rfl, br_false, ld_own _ hg (v := .slice ad l.length z) rfl, asSl_s, need_of (by simp [inRange]; omega), e, adr_some, hat 0 (Value.int .i64 l[i.toNat]) _ (by omega) rfl (by simp), asI_i]
    rcases put_spec L k hK hl l[i.toNat] i with ⟨w0, qs', σ', w1, w2⟩ | ⟨w0, v, σ', w1, w2⟩
    · rw [w1, bnd_some]; exact .inl ⟨_, h0, hget, w0, qs', σ', rfl, w2⟩
    · rw [w1, bnd_some]; exact .inr (.inl ⟨h0, h1, w0, v, σ', rfl, w2⟩)
  · rw [g1, bnd_some, g2.nil, show (!false) = true from rfl, br_true]
    exact .inr (.inr ⟨h0, v, σ', rfl, g2, g3⟩)

theorem deliver_spec (L k : Nat) {σ : St} {a : Nat} {qs : List Nat} {l : List Int} {room : Int} (hK : Link σ a qs l room false) (hl : l.length ≤ 100000) (i : Int) :
    (∃ x, 0 ≤ i ∧ l[i.toNat]? = some x ∧ ∃ σ', evCall Tryd.prog env L (k + 5) 19 [.pointer (some ⟨a, 0, none⟩), .int .i64 i] σ = some (.tuple #[Value.int .i64 x, .nilIface], σ') ∧ Link σ' a qs (l.eraseIdx i.toNat) room false ∧ Same σ σ' (a :: qs)) ∨
    (¬ (0 ≤ i ∧ i < l.length) ∧ ∃ v σ', evCall Tryd.prog env L (k + 5) 19 [.pointer (some ⟨a, 0, none⟩), .int .i64 i] σ = some (.tuple #[.int .i64 0, v], σ') ∧ Err σ' v 5 i ∧ Same σ σ' []) := by
  obtain ⟨ad, z, hg, hrow⟩ := hK.ex
  rw [f19_eq, ld_own _ hg (v := .bool false) rfl, asB_b, br_false]
  rcases there_spec L (k + 1) hK i with ⟨h0, h1, g1⟩ | ⟨h0, v, σ', g1, g2, g3⟩
  · have hget : l[i.toNat]? = some l[i.toNat] := List.getElem?_eq_getElem (by omega)
    obtain ⟨q, e, hat⟩ := hrow.at cc_len hget
    rw [g1, bnd_some, eqNil_nil, show (!true) = false from rfl, br_false, ld_own _ hg (v := .slice ad l.length z) rfl, asSl_s, need_of (by simp [inRange]; omega), e, adr_some, hat 0 (Value.int .i64 l[i.toNat]) _ (by omega) rfl (by simp), asI_i]
    rcases drop_spec L k hK hl i with ⟨_, _, σ', w1, w2, w3⟩ | ⟨w0, _⟩
    · rw [w1, bnd_some]; exact .inl ⟨_, h0, hget, σ', rfl, w2, w3⟩
    · exact absurd ⟨h0, h1⟩ w0
  · rw [g1, bnd_some, g2.nil, show (!false) = true from rfl, br_true]
    exact .inr ⟨by omega, v, σ', rfl, g2, g3⟩

theorem deliver_cut (L k : Nat) {σ : St} {a : Nat} {qs : List Nat} {l : List Int} {room : Int} (hK : Link σ a qs l room true) (i : Int) :
    ∃ v σ', evCall Tryd.prog env L (k + 3) 19 [.pointer (some ⟨a, 0, none⟩), .int .i64 i] σ = some (.tuple #[.int .i64 0, v], σ') ∧ Err σ' v 11 i ∧ Same σ σ' [] := by
  obtain ⟨ad, z, hg, hrow⟩ := hK.ex
  obtain ⟨v, σ', g1, g2⟩ := wrong_spec L k σ i 11 (by omega)
  rw [f19_eq, ld_own _ hg (v := .bool true) rfl, asB_b, br_true, g1, bnd_some]
  exact ⟨v, σ', rfl, g2⟩

/-- The link behind what was there ahead of the call. -/
structure At (σ0 σ : St) (a : Nat) (l : List Int) (room : Int) (cut : Bool) : Prop where
  kept : Kept' σ0.next σ0 σ
  ex : ∃ qs, Link σ a qs l room cut ∧ ∀ q ∈ a :: qs, σ0.next ≤ q
section
variable {σ0 σ σ' : St} {a : Nat} {l : List Int} {room : Int} {cut : Bool}
theorem At.idle (h : At σ0 σ a l room cut) (hs : Same σ σ' []) : At σ0 σ' a l room cut := by
  obtain ⟨qs, h1, h2⟩ := h.ex
  exact ⟨h.kept.step hs (by simp), qs, h1.idle hs, h2⟩
theorem At.step {l' : List Int} {cut' : Bool} {qs qs' : List Nat} (hk : Kept' σ0.next σ0 σ) (h2 : ∀ q ∈ a :: qs, σ0.next ≤ q) (h' : Link σ' a qs' l' room cut') (hs : Same σ σ' (a :: qs)) (hq : ∀ q ∈ qs', q ∈ qs ∨ σ.next ≤ q) : At σ0 σ' a l' room cut' := by
  refine ⟨hk.step hs h2, qs', h', fun q hm => ?_⟩
  rcases List.mem_cons.1 hm with rfl | hm
  · exact h2 _ (by simp)
  · rcases hq q hm with h | h
    · exact h2 q (by simp [h])
    · have := hk.1; omega
theorem At.new (L k : Nat) (hk : Kept' σ0.next σ0 σ) (room : Int) : ∃ a σ', evCall Tryd.prog env L (k + 1) 14 [.int .i64 room] σ = some (.pointer (some ⟨a, 0, none⟩), σ') ∧ At σ0 σ' a [] (mx 0 (mn room 4096)) false := by
  obtain ⟨σ', g1, g2, g3⟩ := new_spec L k σ room
  exact ⟨_, σ', g1, hk.step g3 (by simp), [], g2, by simp; exact hk.1⟩
theorem At.send (L k : Nat) (h : At σ0 σ a l room cut) (hl : l.length ≤ 100000) (x : Int) :
    ((l.length : Int) < room ∧ ∃ σ', evCall Tryd.prog env L (k + 4) 15 [.pointer (some ⟨a, 0, none⟩), Value.int .i64 x] σ = some (.nilIface, σ') ∧ At σ0 σ' a (l ++ [x]) room cut) ∨
    (room ≤ l.length ∧ ∃ v σ', evCall Tryd.prog env L (k + 4) 15 [.pointer (some ⟨a, 0, none⟩), Value.int .i64 x] σ = some (v, σ') ∧ Err σ' v 6 l.length ∧ At σ0 σ' a l room cut) := by
  obtain ⟨qs, h1, h2⟩ := h.ex
  rcases send_spec L k h1 hl x with ⟨h0, qs', σ', g1, g2, g3, g4⟩ | ⟨h0, v, σ', g1, g2, g3⟩
  · exact .inl ⟨h0, σ', g1, At.step h.kept h2 g2 g3 g4⟩
  · exact .inr ⟨h0, v, σ', g1, g2, h.idle g3⟩
theorem At.len (L k : Nat) (h : At σ0 σ a l room cut) : evCall Tryd.prog env L (k + 1) 16 [.pointer (some ⟨a, 0, none⟩)] σ = some (.int .i64 l.length, σ) := by
  obtain ⟨qs, h1, h2⟩ := h.ex
  exact len_spec L k h1
theorem At.drop (L k : Nat) (h : At σ0 σ a l room cut) (hl : l.length ≤ 100000) (i : Int) :
    (0 ≤ i ∧ i < l.length ∧ ∃ σ', evCall Tryd.prog env L (k + 4) 18 [.pointer (some ⟨a, 0, none⟩), .int .i64 i] σ = some (.nilIface, σ') ∧ At σ0 σ' a (l.eraseIdx i.toNat) room cut) ∨
    (¬ (0 ≤ i ∧ i < l.length) ∧ ∃ v σ', evCall Tryd.prog env L (k + 4) 18 [.pointer (some ⟨a, 0, none⟩), .int .i64 i] σ = some (v, σ') ∧ Err σ' v 5 i ∧ At σ0 σ' a l room cut) := by
  obtain ⟨qs, h1, h2⟩ := h.ex
  rcases drop_spec L k h1 hl i with ⟨h0, h3, σ', g1, g2, g3⟩ | ⟨h0, v, σ', g1, g2, g3⟩
  · exact .inl ⟨h0, h3, σ', g1, At.step h.kept h2 g2 g3 (fun q hq => .inl hq)⟩
  · exact .inr ⟨h0, v, σ', g1, g2, h.idle g3⟩
theorem At.double (L k : Nat) (h : At σ0 σ a l room cut) (hl : l.length ≤ 100000) (i : Int) :
    (∃ x, 0 ≤ i ∧ l[i.toNat]? = some x ∧ (l.length : Int) < room ∧ ∃ σ', evCall Tryd.prog env L (k + 4) 17 [.pointer (some ⟨a, 0, none⟩), .int .i64 i] σ = some (.nilIface, σ') ∧ At σ0 σ' a (l ++ [x]) room cut) ∨
    (0 ≤ i ∧ i < l.length ∧ room ≤ l.length ∧ ∃ v σ', evCall Tryd.prog env L (k + 4) 17 [.pointer (some ⟨a, 0, none⟩), .int .i64 i] σ = some (v, σ') ∧ Err σ' v 6 i ∧ At σ0 σ' a l room cut) ∨
    (¬ (0 ≤ i ∧ i < l.length) ∧ ∃ v σ', evCall Tryd.prog env L (k + 4) 17 [.pointer (some ⟨a, 0, none⟩), .int .i64 i] σ = some (v, σ') ∧ Err σ' v 5 i ∧ At σ0 σ' a l room cut) := by
  obtain ⟨qs, h1, h2⟩ := h.ex
  rcases double_spec L k h1 hl i with ⟨x, h0, h3, h4, qs', σ', g1, g2, g3, g4⟩ | ⟨h0, h3, h4, v, σ', g1, g2, g3⟩ | ⟨h0, v, σ', g1, g2, g3⟩
  · exact .inl ⟨x, h0, h3, h4, σ', g1, At.step h.kept h2 g2 g3 g4⟩
  · exact .inr (.inl ⟨h0, h3, h4, v, σ', g1, g2, h.idle g3⟩)
  · exact .inr (.inr ⟨h0, v, σ', g1, g2, h.idle g3⟩)
theorem At.deliver (L k : Nat) (h : At σ0 σ a l room false) (hl : l.length ≤ 100000) (i : Int) :
    (∃ x, 0 ≤ i ∧ l[i.toNat]? = some x ∧ ∃ σ', evCall Tryd.prog env L (k + 5) 19 [.pointer (some ⟨a, 0, none⟩), .int .i64 i] σ = some (.tuple #[Value.int .i64 x, .nilIface], σ') ∧ At σ0 σ' a (l.eraseIdx i.toNat) room false) ∨
    (¬ (0 ≤ i ∧ i < l.length) ∧ ∃ v σ', evCall Tryd.prog env L (k + 5) 19 [.pointer (some ⟨a, 0, none⟩), .int .i64 i] σ = some (.tuple #[.int .i64 0, v], σ') ∧ Err σ' v 5 i ∧ At σ0 σ' a l room false) := by
  obtain ⟨qs, h1, h2⟩ := h.ex
  rcases deliver_spec L k h1 hl i with ⟨x, h0, h3, σ', g1, g2, g3⟩ | ⟨h0, v, σ', g1, g2, g3⟩
  · exact .inl ⟨x, h0, h3, σ', g1, At.step h.kept h2 g2 g3 (fun q hq => .inl hq)⟩
  · exact .inr ⟨h0, v, σ', g1, g2, h.idle g3⟩
theorem At.deliver_cut (L k : Nat) (h : At σ0 σ a l room true) (i : Int) :
    ∃ v σ', evCall Tryd.prog env L (k + 3) 19 [.pointer (some ⟨a, 0, none⟩), .int .i64 i] σ = some (.tuple #[.int .i64 0, v], σ') ∧ Err σ' v 11 i ∧ At σ0 σ' a l room true := by
  obtain ⟨qs, h1, h2⟩ := h.ex
  obtain ⟨v, σ', g1, g2, g3⟩ := Go.AM.Lp.I.deliver_cut L k h1 i
  exact ⟨v, σ', g1, g2, h.idle g3⟩
end

end Go.AM.Lp.I
