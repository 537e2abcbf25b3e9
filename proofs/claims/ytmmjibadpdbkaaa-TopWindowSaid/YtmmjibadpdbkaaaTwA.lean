/-
  A LINK of packets: what each call answers, what it leaves.
-/
import Derived.Test.YtmmjibadpdbkaaaWinM
import Derived.Test.YtmmjibadpdbkaaaAm20
set_option linter.unusedVariables false
set_option linter.unusedSimpArgs false
namespace Go.AM
open Go.Proofs

theorem put_ints2 {σ : St} {b : Nat} {u v : Value} {e : TypeId} (h : σ.get b = some (.own [u, v] e)) (x y : Int) (K : St → Res) : σ.put b 0 [.int .i64 x, .int .i64 y] K = K (σ.set b (.own [.int .i64 x, .int .i64 y] e)) := put_all (vs := [u, v]) (ws := [.int .i64 x, .int .i64 y]) h (by simp) (by simp [oneCell]) K

/-- A link: what is on its way, its room; it isn't cut. -/
structure Link2 (σ : St) (a : Nat) (qs : List Nat) (l : List (Int × Int)) (room : Int) : Prop where
  ex : ∃ ad z, σ.get a = some (.own [.slice ad l.length z, .int .i64 room, .bool false] 65) ∧ Row c2 2 30 σ ad z qs l
  lt : a < σ.next
  ne : a ∉ qs

theorem Link2.same {σ σ' : St} {a : Nat} {qs : List Nat} {l : List (Int × Int)} {room : Int} {S : List Nat} (h : Link2 σ a qs l room) (hs : Same σ σ' S) (ha : a ∉ S) (hq : ∀ q ∈ qs, q ∉ S) : Link2 σ' a qs l room := by
  obtain ⟨ad, z, hg, hrow⟩ := h.ex
  exact ⟨⟨ad, z, by rw [hs.2 a h.lt ha]; exact hg, hrow.same hs hq⟩, by have := hs.1; have := h.lt; omega, h.ne⟩
theorem Link2.idle {σ σ' : St} {a : Nat} {qs : List Nat} {l : List (Int × Int)} {room : Int} (h : Link2 σ a qs l room) (hs : Same σ σ' []) : Link2 σ' a qs l room := h.same hs (by simp) (by simp)

theorem new2_spec (L k : Nat) (σ : St) (room : Int) (h0 : 0 ≤ room) (h1 : room ≤ 4096) : ∃ σ', evCall Try.prog env L (k + 1) 16 [.int .i64 room] σ = some (.pointer (some ⟨σ.next, 0, none⟩), σ') ∧ Link2 σ' σ.next [] [] room ∧ Same σ σ' [] := by
  rw [f16_eq]
  have : mx 0 (mn room 4096) = room := by unfold mx mn; split <;> split <;> omega
  rw [this]
  exact ⟨_, rfl, ⟨⟨none, 0, by rw [get_new_same]; rfl, ⟨by simp, .inl ⟨rfl, rfl, rfl, rfl⟩⟩⟩, by simp, by simp⟩, Same.new _ _ _⟩

theorem wrong2_spec (L k : Nat) (σ : St) (at_ : Int) (e : Int) (he : e ≠ 0) : ∃ v σ', evCall Try.prog env L (k + 2) 24 [.int .i64 at_, .int .i64 e] σ = some (.iface 68 v, σ') ∧ Same σ σ' [] := by
  rw [f24_eq, f23_eq, eqNil_iface, br_false]
  have h : eqErr (.iface 63 (.int .i64 e)) 63 .i64 0 (fun v2 => br v2 (some (Value.nilIface, σ)) (need true (need (oneCell (.iface 63 (.int .i64 e))) (need true (some (Value.iface 68 (Value.pointer (some ⟨σ.next, 0, none⟩)), σ.new (Blk.own [Value.string ⟨#[108, 105, 110, 107]⟩, Value.int .i64 at_, .iface 63 (.int .i64 e)] 70))))))) =
      some (Value.iface 68 (Value.pointer (some ⟨σ.next, 0, none⟩)), σ.new (Blk.own [Value.string ⟨#[108, 105, 110, 107]⟩, Value.int .i64 at_, .iface 63 (.int .i64 e)] 70)) := by
    have hb : (e == 0) = false := by simpa using he
    simp [eqErr, hb, oneCell]
  rw [h, bnd_some]
  exact ⟨_, _, rfl, Same.new _ _ _⟩

theorem there2_spec (L k : Nat) {σ : St} {a : Nat} {qs : List Nat} {l : List (Int × Int)} {room : Int} (hK : Link2 σ a qs l room) (i : Int) :
    (0 ≤ i ∧ i < l.length ∧ evCall Try.prog env L (k + 3) 26 [.pointer (some ⟨a, 0, none⟩), .int .i64 i] σ = some (.nilIface, σ)) ∨
    (¬ (0 ≤ i ∧ i < l.length) ∧ ∃ v σ', evCall Try.prog env L (k + 3) 26 [.pointer (some ⟨a, 0, none⟩), .int .i64 i] σ = some (.iface 68 v, σ') ∧ Same σ σ' []) := by
  obtain ⟨ad, z, hg, hrow⟩ := hK.ex
  rw [f26_eq]
  by_cases h0 : i < 0
  · obtain ⟨v, σ', g1, g2⟩ := wrong2_spec L k σ i 5 (by omega)
    rw [decide_eq_true h0, br_true, g1, bnd_some]
    exact .inr ⟨by omega, v, σ', rfl, g2⟩
  · rw [decide_eq_false h0, br_false, ld_own _ hg (v := .slice ad l.length z) rfl, asSl_s]
    by_cases h1 : i ≥ (l.length : Int)
    · obtain ⟨v, σ', g1, g2⟩ := wrong2_spec L k σ i 5 (by omega)
      rw [decide_eq_true h1, br_true, g1, bnd_some]
      exact .inr ⟨by omega, v, σ', rfl, g2⟩
    · rw [decide_eq_false h1, br_false]
      exact .inl ⟨by omega, by omega, rfl⟩

theorem put2_spec (L k : Nat) {σ : St} {a : Nat} {qs : List Nat} {l : List (Int × Int)} {room : Int} (hK : Link2 σ a qs l room) (hl : l.length ≤ 100000) (x y at_ : Int) :
    ((l.length : Int) < room ∧ ∃ qs' σ', evCall Try.prog env L (k + 3) 25 [.pointer (some ⟨a, 0, none⟩), .agg [.int .i64 x, .int .i64 y].toArray, .int .i64 at_] σ = some (.nilIface, σ') ∧ Link2 σ' a qs' (l ++ [(x, y)]) room ∧ Same σ σ' (a :: qs) ∧ ∀ q ∈ qs', q ∈ qs ∨ σ.next ≤ q) ∨
    (∃ v σ', evCall Try.prog env L (k + 3) 25 [.pointer (some ⟨a, 0, none⟩), .agg [.int .i64 x, .int .i64 y].toArray, .int .i64 at_] σ = some (.iface 68 v, σ') ∧ Same σ σ' []) := by
  rw [f25_eq]
  generalize hσ1 : σ.new (Blk.own [Value.int IntKind.i64 x, Value.int IntKind.i64 y] 30) = σ1
  have hnew1 : σ1.get σ.next = some (Blk.own [Value.int IntKind.i64 x, Value.int IntKind.i64 y] 30) := by rw [← hσ1, get_new_same]
  have hs1 : Same σ σ1 [] := by rw [← hσ1]; exact Same.new _ _ _
  have hK1 := hK.idle hs1
  obtain ⟨ad, z, hg, hrow⟩ := hK1.ex
  have hlt := hK1.lt
  have hqa := hK.ne
  rw [ld_own _ hg (v := .slice ad l.length z) rfl, asSl_s, ld_own _ hg (v := .int .i64 room) rfl, asI_i]
  by_cases h0 : (l.length : Int) ≥ room
  · obtain ⟨v, σ', g1, g2⟩ := wrong2_spec L k σ1 at_ 6 (by omega)
    rw [decide_eq_true h0, br_true, g1, bnd_some]
    exact .inr ⟨v, σ', rfl, hs1.trans g2⟩
  · rw [decide_eq_false h0, br_false, ld_own _ hg (v := .slice ad l.length z) rfl, asSl_s, lds_all (n := 2) hnew1 rfl, uncons_c, asI_i, uncons_c, asI_i, endl_n]
    refine .inl ⟨by omega, ?_⟩
    generalize hσ2 : σ1.new (Blk.own [Value.int IntKind.i64 x, Value.int IntKind.i64 y] 30) = σ2
    have hnew2 : σ2.get σ1.next = some (Blk.own [Value.int IntKind.i64 x, Value.int IntKind.i64 y] 30) := by rw [← hσ2, get_new_same]
    have hs2 : Same σ1 σ2 [] := by rw [← hσ2]; exact Same.new _ _ _
    have hs12 := hs1.trans hs2
    have hg2 : σ2.get a = some (.own [.slice ad l.length z, .int .i64 room, .bool false] 65) := by rw [hs2.2 a hlt (by simp)]; exact hg
    have hrow2 : Row c2 2 30 σ2 ad z qs l := hrow.same hs2 (fun _ _ => by simp)
    rw [ld_own _ hg2 (v := .slice ad l.length z) rfl, asSl_s, chk_same, row_all (n := 2) hnew2 rfl (by omega)]
    obtain ⟨ad', z', qs', σ3, hgrow, hrow3, hs3, hq3⟩ := grow_row (by_ := 16) hrow2 c2_len c2_one (by omega) [(x, y)] [Value.int .i64 x, Value.int .i64 y] rfl 1 rfl (by unfold roomTop; omega) (by unfold sizeTop; omega)
    rw [hgrow]
    have hn12 := hs12.1
    have hlt0 := hK.lt
    have hg3 : σ3.get a = some (.own [.slice ad l.length z, .int .i64 room, .bool false] 65) := by
      rw [hs3.2 a (by omega) hqa]; exact hg2
    rw [put_own _ hg3 (by simp) rfl]
    have hq' : ∀ q ∈ qs', q ∈ qs ∨ σ.next ≤ q := fun q hq => by rcases hq3 q hq with h | h; exact .inl h; exact .inr (by omega)
    have hne' : a ∉ qs' := fun h => by
      rcases hq3 a h with h | h
      · exact hqa h
      · omega
    refine ⟨qs', _, rfl, ?_, ?_, hq'⟩
    · refine ⟨⟨ad', z', by simp [over], ⟨fun q hq => by simpa using hrow3.lt q hq, ?_⟩⟩, by have := hs3.1; simp; omega, hne'⟩
      rcases hrow3.is with h | ⟨q, rest, e1, e2, e3, e4⟩
      · exact .inl h
      · exact .inr ⟨q, rest, e1, e2, e3, by rw [get_set (fun h => hne' (by rw [e1, ← h]; simp))]; exact e4⟩
    · refine ⟨by have := hs3.1; simp; omega, fun k hk hS => ?_⟩
      simp only [List.mem_cons, not_or] at hS
      rw [get_set hS.1, hs3.2 k (by omega) hS.2, hs12.2 k hk (by simp)]

theorem send2_spec (L k : Nat) {σ : St} {a : Nat} {qs : List Nat} {l : List (Int × Int)} {room : Int} (hK : Link2 σ a qs l room) (hl : l.length ≤ 100000) (x y : Int) :
    ∃ v qs' l' σ', evCall Try.prog env L (k + 4) 17 [.pointer (some ⟨a, 0, none⟩), .agg [.int .i64 x, .int .i64 y].toArray] σ = some (v, σ') ∧ Link2 σ' a qs' l' room ∧ Same σ σ' (a :: qs) ∧ (∀ q ∈ qs', q ∈ qs ∨ σ.next ≤ q) ∧ (l' = l ∨ ((l.length : Int) < room ∧ l' = l ++ [(x, y)])) := by
  rw [f17_eq]
  generalize hσ1 : σ.new (Blk.own [Value.int IntKind.i64 x, Value.int IntKind.i64 y] 30) = σ1
  have hnew1 : σ1.get σ.next = some (Blk.own [Value.int IntKind.i64 x, Value.int IntKind.i64 y] 30) := by rw [← hσ1, get_new_same]
  have hs1 : Same σ σ1 [] := by rw [← hσ1]; exact Same.new _ _ _
  have hK1 := hK.idle hs1
  obtain ⟨ad, z, hg, hrow⟩ := hK1.ex
  rw [lds_all (n := 2) hnew1 rfl, uncons_c, asI_i, uncons_c, asI_i, endl_n, ld_own _ hg (v := .slice ad l.length z) rfl, asSl_s]
  have hn1 := hs1.1
  rcases put2_spec L k hK1 hl x y l.length with ⟨hr, qs', σ', g1, g2, g3, g4⟩ | ⟨v, σ', g1, g2⟩
  · rw [show (#[Value.int .i64 x, Value.int .i64 y] : Array Value) = [Value.int .i64 x, Value.int .i64 y].toArray from rfl, g1, bnd_some]
    exact ⟨_, qs', _, σ', rfl, g2, (hs1.mono (by simp)).trans g3, fun q hq => (g4 q hq).imp id (fun h => by omega), .inr ⟨hr, rfl⟩⟩
  · rw [show (#[Value.int .i64 x, Value.int .i64 y] : Array Value) = [Value.int .i64 x, Value.int .i64 y].toArray from rfl, g1, bnd_some]
    exact ⟨_, qs, _, σ', rfl, hK1.idle g2, (hs1.trans g2).mono (by simp), fun q hq => .inl hq, .inl rfl⟩

theorem flat_erase {α : Type} (cells : α → List Value) (sz : Nat) (hc : ∀ a, (cells a).length = sz) (l : List α) (i : Nat) : (l.eraseIdx i).flatMap cells = (l.flatMap cells).take (i * sz) ++ (l.flatMap cells).drop ((i + 1) * sz) := by
  rw [List.eraseIdx_eq_take_drop_succ, List.flatMap_append]
  have key : ∀ n, (l.flatMap cells).take (n * sz) = (l.take n).flatMap cells ∧ (l.flatMap cells).drop (n * sz) = (l.drop n).flatMap cells := fun n => by
    by_cases hn : n ≤ l.length
    · have h3 := flat_length cells sz hc (l.take n)
      rw [List.length_take, Nat.min_eq_left hn] at h3
      have e5 : l.flatMap cells = (l.take n).flatMap cells ++ (l.drop n).flatMap cells := by rw [← List.flatMap_append, List.take_append_drop]
      rw [e5, ← h3, List.take_left, List.drop_left]; exact ⟨rfl, rfl⟩
    · have h3 := flat_length cells sz hc l
      have : l.length * sz ≤ n * sz := Nat.mul_le_mul_right _ (by omega)
      rw [List.take_of_length_le (by omega), List.take_of_length_le (by omega), List.drop_of_length_le (by omega), List.drop_of_length_le (by omega)]
      exact ⟨rfl, rfl⟩
  rw [(key i).1, (key (i + 1)).2]

theorem drop2_spec (L k : Nat) {σ : St} {a : Nat} {qs : List Nat} {l : List (Int × Int)} {room : Int} (hK : Link2 σ a qs l room) (hl : l.length ≤ 100000) (i : Int) :
    (0 ≤ i ∧ i < l.length ∧ ∃ σ', evCall Try.prog env L (k + 4) 19 [.pointer (some ⟨a, 0, none⟩), .int .i64 i] σ = some (.nilIface, σ') ∧ Link2 σ' a qs (l.eraseIdx i.toNat) room ∧ Same σ σ' (a :: qs)) ∨
    (¬ (0 ≤ i ∧ i < l.length) ∧ ∃ v σ', evCall Try.prog env L (k + 4) 19 [.pointer (some ⟨a, 0, none⟩), .int .i64 i] σ = some (.iface 68 v, σ') ∧ Same σ σ' []) := by
  rw [f19_eq]
  rcases there2_spec L k hK i with ⟨h0, h1, g1⟩ | ⟨h0, v, σ', g1, g2⟩
  · refine .inl ⟨h0, h1, ?_⟩
    obtain ⟨ad, z, hg, hrow⟩ := hK.ex
    obtain ⟨I, hI⟩ := Int.eq_ofNat_of_zero_le h0
    subst hI
    have hIl : I < l.length := by omega
    rcases hrow.is with ⟨_, e2, _⟩ | ⟨q, rest, e0, e1, e2, e3⟩
    · subst e2; simp at hIl
    · have hqa : q ≠ a := fun h => hK.ne (by rw [e0, ← h]; simp)
      rw [g1, bnd_some, eqNil_nil, show (!true) = false from rfl, br_false, ld_own _ hg (v := .slice ad l.length z) rfl, asSl_s, need_of (by rw [e2]; rfl), need_of (by simp [inRange]; omega), ld_own _ hg (v := .slice ad l.length z) rfl, asSl_s, need_of (by rw [e2]; rfl), wrap_in ((I : Int) + 1) (by omega) (by omega), need_of (by simp [inRange]; omega)]
      have hk1 : ((I : Int) + 1).toNat = I + 1 := by omega
      have hk2 : (I : Int).toNat = I := by omega
      rw [hk1, hk2, show min (l.length - (I + 1)) (l.length - I) = l.length - (I + 1) by omega, e1]
      have hFl := flat_length c2 2 c2_len l
      obtain ⟨σ1, hcp, hq1, hs1⟩ : ∃ σ1, (∀ K : St → Res, cpy 2 (subA (some ⟨q, 0, none⟩) (I * 2)) (subA (some ⟨q, 0, none⟩) ((I + 1) * 2)) (l.length - (I + 1)) σ K = K σ1) ∧ (∃ rest', σ1.get q = some (.own ((l.eraseIdx I).flatMap c2 ++ rest') 30)) ∧ Same σ σ1 [q] := by
        have her := flat_erase c2 2 c2_len l I
        by_cases hz : l.length - (I + 1) = 0
        · refine ⟨σ, fun K => by simp [cpy, hz], ⟨(l.flatMap c2).drop (I * 2) ++ rest, ?_⟩, Same.refl _ _⟩
          rw [e3, her, List.drop_of_length_le (by omega : (l.flatMap c2).length ≤ (I + 1) * 2), List.append_nil, ← List.append_assoc, List.take_append_drop]
        · have hnew : (((l.flatMap c2 ++ rest).drop ((I + 1) * 2)).take ((l.length - (I + 1)) * 2)) = (l.flatMap c2).drop ((I + 1) * 2) := by
            rw [List.drop_append_of_le_length (by omega), List.take_left' (by rw [List.length_drop, hFl]; omega)]
          have hone : ((l.flatMap c2).drop ((I + 1) * 2)).all oneCell = true := by
            have h9 := flat_one c2 c2_one l
            rw [List.all_eq_true] at h9 ⊢
            exact fun x hx => h9 x (List.mem_of_mem_drop hx)
          refine ⟨σ.set q (.own (over (l.flatMap c2 ++ rest) (I * 2) ((l.flatMap c2).drop ((I + 1) * 2))) 30), fun K => ?_, ⟨(l.flatMap c2 ++ rest).drop (I * 2 + ((l.flatMap c2).drop ((I + 1) * 2)).length), ?_⟩, ⟨by simp, fun k hk hS => get_set (by simpa using hS)⟩⟩
          · have hz2 : ¬ (l.length - (I + 1)) * 2 = 0 := by omega
            simp only [cpy, hz2, if_false, subA, adr_some, Nat.zero_add]
            rw [lds_own _ e3 (by rw [List.length_append]; omega), hnew, put_own _ e3 (by rw [List.length_drop, List.length_append, hFl]; omega) hone]
          · rw [get_set_same, her, over, List.take_append_of_le_length (by omega)]
      obtain ⟨rest', hq1⟩ := hq1
      rw [hcp]
      have hg1 : σ1.get a = some (.own [.slice ad l.length z, .int .i64 room, .bool false] 65) := by rw [hs1.2 a hK.lt (by simp; exact fun h => hqa h.symm)]; exact hg
      rw [ld_own _ hg1 (v := .slice ad l.length z) rfl, asSl_s, need_of (by rw [e2]; rfl)]
      rw [wrap_in ((I : Int) + ((l.length - (I + 1) : Nat) : Int)) (by omega) (by omega), need_of (by simp [inRange]; omega), put_own _ hg1 (by simp) rfl]
      refine ⟨_, rfl, ⟨⟨some ⟨q, 0, none⟩, z, ?_, ⟨fun q' hq' => by have := hrow.lt q' hq'; have := hs1.1; simp; omega, .inr ⟨q, rest', e0, rfl, e2, by rw [get_set hqa]; exact hq1⟩⟩⟩, by have := hs1.1; have := hK.lt; simp; omega, hK.ne⟩, ?_⟩
      · rw [get_set_same]
        have hlen : (l.eraseIdx I).length = ((I : Int) + ((l.length - (I + 1) : Nat) : Int)).toNat - 0 := by rw [List.length_eraseIdx_of_lt hIl]; omega
        rw [hlen, e1]
        rfl
      · refine ⟨by have := hs1.1; simp; omega, fun k hk hS => ?_⟩
        simp only [List.mem_cons, not_or] at hS
        rw [get_set hS.1, hs1.2 k hk (by simp; rintro rfl; exact hS.2 (by rw [e0]; simp))]
  · rw [g1, bnd_some, eqNil_iface, show (!false) = true from rfl, br_true]
    exact .inr ⟨h0, v, σ', rfl, g2⟩

theorem double2_spec (L k : Nat) {σ : St} {a : Nat} {qs : List Nat} {l : List (Int × Int)} {room : Int} (hK : Link2 σ a qs l room) (hl : l.length ≤ 100000) (i : Int) :
    ∃ v qs' l' σ', evCall Try.prog env L (k + 4) 20 [.pointer (some ⟨a, 0, none⟩), .int .i64 i] σ = some (v, σ') ∧ Link2 σ' a qs' l' room ∧ Same σ σ' (a :: qs) ∧ (∀ q ∈ qs', q ∈ qs ∨ σ.next ≤ q) ∧ (l' = l ∨ ∃ p ∈ l, (l.length : Int) < room ∧ l' = l ++ [p]) := by
  rw [f20_eq]
  rcases there2_spec L k hK i with ⟨h0, h1, g1⟩ | ⟨h0, v, σ', g1, g2⟩
  · obtain ⟨ad, z, hg, hrow⟩ := hK.ex
    have hget : l[i.toNat]? = some l[i.toNat] := List.getElem?_eq_getElem (by omega)
    have hmem := List.mem_of_getElem? hget
    obtain ⟨q, e, hat⟩ := hrow.lds c2_len hget
    generalize l[i.toNat] = p at hat hmem
    rw [g1, bnd_some, eqNil_nil, show (!true) = false from rfl, br_false, ld_own _ hg (v := .slice ad l.length z) rfl, asSl_s, need_of (by simp [inRange]; omega), e, adr_some, hat _ (by simp), show c2 p = [.int .i64 p.1, .int .i64 p.2] from rfl, uncons_c, asI_i, uncons_c, asI_i, endl_n,
      show (#[Value.int .i64 p.1, Value.int .i64 p.2] : Array Value) = [Value.int .i64 p.1, Value.int .i64 p.2].toArray from rfl]
    rcases put2_spec L k hK hl p.1 p.2 i with ⟨hr, qs', σ', w1, w2, w3, w4⟩ | ⟨v, σ', w1, w2⟩
    · rw [w1, bnd_some]; exact ⟨_, qs', _, σ', rfl, w2, w3, w4, .inr ⟨p, hmem, hr, rfl⟩⟩
    · rw [w1, bnd_some]; exact ⟨_, qs, _, σ', rfl, hK.idle w2, w2.mono (by simp), fun q hq => .inl hq, .inl rfl⟩
  · rw [g1, bnd_some, eqNil_iface, show (!false) = true from rfl, br_true]
    exact ⟨_, qs, _, σ', rfl, hK.idle g2, g2.mono (by simp), fun q hq => .inl hq, .inl rfl⟩

theorem deliver2_spec (L k : Nat) {σ : St} {a : Nat} {qs : List Nat} {l : List (Int × Int)} {room : Int} (hK : Link2 σ a qs l room) (hl : l.length ≤ 100000) (i : Int) :
    (∃ p, p ∈ l ∧ ∃ σ', evCall Try.prog env L (k + 5) 18 [.pointer (some ⟨a, 0, none⟩), .int .i64 i] σ = some (.tuple #[.agg #[.int .i64 p.1, .int .i64 p.2], .nilIface], σ') ∧ Link2 σ' a qs (l.eraseIdx i.toNat) room ∧ Same σ σ' (a :: qs)) ∨
    (∃ v σ', evCall Try.prog env L (k + 5) 18 [.pointer (some ⟨a, 0, none⟩), .int .i64 i] σ = some (.tuple #[.agg #[.int .i64 0, .int .i64 0], .iface 68 v], σ') ∧ Same σ σ' []) := by
  rw [f18_eq]
  generalize hσ1 : σ.new (Blk.own [Value.int IntKind.i64 0, Value.int IntKind.i64 0] 30) = σ1
  have hn1 : σ1.get σ.next = some (Blk.own [Value.int IntKind.i64 0, Value.int IntKind.i64 0] 30) := by rw [← hσ1, get_new_same]
  have hs1 : Same σ σ1 [] := by rw [← hσ1]; exact Same.new _ _ _
  have hx1 : σ1.next = σ.next + 1 := by rw [← hσ1]; rfl
  generalize hσ2 : σ1.new (Blk.own [Value.int IntKind.i64 0, Value.int IntKind.i64 0] 30) = σ2
  have hn2 : σ2.get σ1.next = some (Blk.own [Value.int IntKind.i64 0, Value.int IntKind.i64 0] 30) := by rw [← hσ2, get_new_same]
  have hs2 : Same σ1 σ2 [] := by rw [← hσ2]; exact Same.new _ _ _
  have hx2 : σ2.next = σ1.next + 1 := by rw [← hσ2]; rfl
  have hn1' : σ2.get σ.next = some (Blk.own [Value.int IntKind.i64 0, Value.int IntKind.i64 0] 30) := by rw [hs2.2 _ (by omega) (by simp)]; exact hn1
  have hs12 := hs1.trans hs2
  have hK2 := hK.idle hs12
  obtain ⟨ad, z, hg, hrow⟩ := hK2.ex
  rw [ld_own _ hg (v := .bool false) rfl, asB_b, br_false]
  rcases there2_spec L (k + 1) hK2 i with ⟨h0, h1, g1⟩ | ⟨h0, v, σ', g1, g2⟩
  · have hget : l[i.toNat]? = some l[i.toNat] := List.getElem?_eq_getElem (by omega)
    have hmem := List.mem_of_getElem? hget
    obtain ⟨q, e, hat⟩ := hrow.lds c2_len hget
    generalize l[i.toNat] = p at hat hmem
    rw [g1, bnd_some, eqNil_nil, show (!true) = false from rfl, br_false, ld_own _ hg (v := .slice ad l.length z) rfl, asSl_s, need_of (by simp [inRange]; omega), e, adr_some, hat _ (by simp), show c2 p = [.int .i64 p.1, .int .i64 p.2] from rfl, uncons_c, asI_i, uncons_c, asI_i, endl_n]
    generalize hσ3 : σ2.new (Blk.own [Value.int IntKind.i64 0, Value.int IntKind.i64 0] 30) = σ3
    have hn3 : σ3.get σ2.next = some (Blk.own [Value.int IntKind.i64 0, Value.int IntKind.i64 0] 30) := by rw [← hσ3, get_new_same]
    have hs3 : Same σ2 σ3 [] := by rw [← hσ3]; exact Same.new _ _ _
    have hx3 : σ3.next = σ2.next + 1 := by rw [← hσ3]; rfl
    rw [put_ints2 hn3]
    generalize hσ4 : σ3.set σ2.next (Blk.own [Value.int IntKind.i64 p.1, Value.int IntKind.i64 p.2] 30) = σ4
    have hn4 : σ4.get σ2.next = some (Blk.own [Value.int IntKind.i64 p.1, Value.int IntKind.i64 p.2] 30) := by rw [← hσ4, get_set_same]
    have hx4 : σ4.next = σ3.next := by rw [← hσ4]; rfl
    have hs24 : Same σ2 σ4 [] := ⟨by omega, fun k hk _ => by rw [← hσ4, get_set (by omega), hs3.2 k hk (by simp)]⟩
    rw [lds_all (n := 2) hn4 rfl, uncons_c, asI_i, uncons_c, asI_i, endl_n]
    have hK4 := hK2.idle hs24
    rcases drop2_spec L k hK4 hl i with ⟨_, _, σ5, w1, w2, w3⟩ | ⟨w0, _⟩
    · have hlt := hK.lt
      have hql : ∀ q ∈ qs, q < σ.next := by obtain ⟨_, _, _, hr⟩ := hK.ex; exact hr.lt
      have hoff : ∀ x, σ.next ≤ x → x ∉ a :: qs := fun x hx h => by
        rcases List.mem_cons.1 h with rfl | h
        · omega
        · have := hql x h; omega
      have hn5 : σ5.get σ2.next = some (Blk.own [Value.int IntKind.i64 p.1, Value.int IntKind.i64 p.2] 30) := by rw [w3.2 _ (by omega) (hoff _ (by omega))]; exact hn4
      have hn5' : σ5.get σ.next = some (Blk.own [Value.int IntKind.i64 0, Value.int IntKind.i64 0] 30) := by rw [w3.2 _ (by omega) (hoff _ (by omega)), hs24.2 _ (by omega) (by simp)]; exact hn1'
      rw [w1, bnd_some, lds_all (n := 2) hn5 rfl, uncons_c, asI_i, uncons_c, asI_i, endl_n, chk_same, put_ints2 hn5']
      generalize hσ6 : σ5.set σ.next (Blk.own [Value.int IntKind.i64 p.1, Value.int IntKind.i64 p.2] 30) = σ6
      have hn6 : σ6.get σ.next = some (Blk.own [Value.int IntKind.i64 p.1, Value.int IntKind.i64 p.2] 30) := by rw [← hσ6, get_set_same]
      have hx6 : σ6.next = σ5.next := by rw [← hσ6]; rfl
      have h56 : Same σ5 σ6 [σ.next] := ⟨by omega, fun k hk hS => by rw [← hσ6]; exact get_set (by simpa using hS)⟩
      rw [lds_all (n := 2) hn6 rfl, uncons_c, asI_i, uncons_c, asI_i, endl_n]
      have w31 := w3.1
      refine .inl ⟨p, hmem, σ6, rfl, w2.same h56 (by simp; omega) (fun q hq => by have := hql q hq; simp; omega), by omega, fun k hk hS => ?_⟩
      rw [h56.2 k (by omega) (by simp; omega), w3.2 k (by omega) hS, hs24.2 k (by omega) (by simp), hs12.2 k hk (by simp)]
    · exact absurd ⟨h0, h1⟩ w0
  · have g21 := g2.1
    have hn2' : σ'.get σ1.next = some (Blk.own [Value.int IntKind.i64 0, Value.int IntKind.i64 0] 30) := by rw [g2.2 _ (by omega) (by simp)]; exact hn2
    have hn3' : σ'.get σ.next = some (Blk.own [Value.int IntKind.i64 0, Value.int IntKind.i64 0] 30) := by rw [g2.2 _ (by omega) (by simp)]; exact hn1'
    rw [g1, bnd_some, eqNil_iface, show (!false) = true from rfl, br_true, lds_all (n := 2) hn2' rfl, uncons_c, asI_i, uncons_c, asI_i, endl_n, put_ints2 hn3']
    generalize hσ6 : σ'.set σ.next (Blk.own [Value.int IntKind.i64 0, Value.int IntKind.i64 0] 30) = σ6
    have hn6 : σ6.get σ.next = some (Blk.own [Value.int IntKind.i64 0, Value.int IntKind.i64 0] 30) := by rw [← hσ6, get_set_same]
    have hx6 : σ6.next = σ'.next := by rw [← hσ6]; rfl
    rw [lds_all (n := 2) hn6 rfl, uncons_c, asI_i, uncons_c, asI_i, endl_n]
    exact .inr ⟨v, σ6, rfl, by omega, fun k hk _ => by rw [← hσ6, get_set (by omega), g2.2 k (by omega) (by simp), hs12.2 k hk (by simp)]⟩

end Go.AM
