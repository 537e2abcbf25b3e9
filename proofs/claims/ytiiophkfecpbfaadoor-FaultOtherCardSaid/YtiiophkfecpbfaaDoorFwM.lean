/-
  FaultOther: an error that is none of api's, wrapped, has no number, but its path, and its text.
-/
import Derived.Test.YtiiophkfecpbfaaDoorFwL
set_option linter.unusedVariables false
set_option linter.unusedSimpArgs false
set_option linter.unusedSectionVars false
namespace Go.AM.Fw
open Go.Proofs
/-- An error of errors.New with places around it, the outermost one first. -/
inductive Co (σ : St) (qo : Nat) (so : ByteArray) : Value → List (ByteArray × Int) → Prop
  | own : σ.get qo = some (.own [.string so] 79) → qo < σ.next → Co σ qo so (.iface 77 (.pointer (some ⟨qo, 0, none⟩))) []
  | flt (q : Nat) (s : ByteArray) (n : Int) (y : Value) (l : List (ByteArray × Int)) : σ.get q = some (.own [.string s, .int .i64 n, y] 32) → q < σ.next → Co σ qo so y l → Co σ qo so (.iface 30 (.pointer (some ⟨q, 0, none⟩))) ((s, n) :: l)

section
variable {σ : St} {qo : Nat} {so : ByteArray} {v : Value} {l : List (ByteArray × Int)}
theorem Co.same {σ' : St} (h : Co σ qo so v l) (hs : Same σ σ' []) : Co σ' qo so v l := by
  induction h with
  | own hg hq => exact .own (by rw [hs.2 _ hq (by simp)]; exact hg) (by have := hs.1; omega)
  | flt q s n y l hg hq _ ih => exact .flt q s n y l (by rw [hs.2 q hq (by simp)]; exact hg) (by have := hs.1; omega) ih
theorem Co.iface (h : Co σ qo so v l) : ∃ T x, v = .iface T x := by cases h <;> exact ⟨_, _, rfl⟩
theorem Co.nil (h : Co σ qo so v l) {α : Type} (K : Bool → Option α) : eqNil v K = K false := by
  obtain ⟨T, x, rfl⟩ := h.iface
  rfl
theorem Co.one (h : Co σ qo so v l) : oneCell v = true := by cases h <;> rfl
theorem Co.ownBlk (h : Co σ qo so v l) : σ.get qo = some (.own [.string so] 79) := by
  induction h with
  | own hg _ => exact hg
  | flt _ _ _ _ _ _ _ _ ih => exact ih
theorem Co.chE (h : Co σ qo so v l) : ∀ n, l.length ≤ n → Td.chE σ n v = some none := by
  induction h with
  | own hg hq => intro n _; cases n <;> rfl
  | flt q s n y l hg hq hy ih =>
    intro m hm
    cases m with
    | zero => simp at hm
    | succ m =>
      show σ.ld q (0 + 2) (fun y => match y with | .nilIface => some none | _ => Td.chE σ m y) = _
      have hx := ih m (by simpa using hm)
      obtain ⟨T, x, rfl⟩ := hy.iface
      unfold St.ld St.cell St.cells
      rw [hg]
      exact hx
theorem Co.hit (h : Co σ qo so v l) : ∀ n, l.length < n → Td.hitE σ 77 qo n v = true := by
  induction h with
  | own hg hq =>
    intro n hn
    obtain ⟨m, rfl⟩ : ∃ m, n = m + 1 := ⟨n - 1, by omega⟩
    show (if (77 : TypeId) = 77 ∧ qo = qo ∧ 0 = 0 then true else _) = true
    rw [if_pos ⟨rfl, rfl, rfl⟩]
  | flt q s n y l hg hq hy ih =>
    intro m hm
    obtain ⟨m, rfl⟩ : ∃ i, m = i + 1 := ⟨m - 1, by omega⟩
    show (if (30 : TypeId) = 77 ∧ q = qo ∧ 0 = 0 then true else _) = true
    rw [if_neg (fun h => absurd h.1 (by decide)), if_pos ⟨rfl, .inr (by decide)⟩, hg]
    exact ih m (by simpa using hm)

theorem wrap_o (L k : Nat) (h : Co σ qo so v l) (s : ByteArray) (n : Int) :
    evCall Tryd.prog env L (k + 1) 12 [.string s, .int .i64 n, v] σ = some (.iface 30 (.pointer (some ⟨σ.next, 0, none⟩)), σ.new (.own [.string s, .int .i64 n, v] 32)) ∧
      Co (σ.new (.own [.string s, .int .i64 n, v] 32)) qo so (.iface 30 (.pointer (some ⟨σ.next, 0, none⟩))) ((s, n) :: l) ∧ Same σ (σ.new (.own [.string s, .int .i64 n, v] 32)) [] := by
  refine ⟨?_, .flt _ _ _ _ _ (get_new_same _ _) (by simp) (h.same (Same.new _ _ _)), Same.new _ _ _⟩
  rw [f12_eq, h.nil, br_false, h.one]
  cases h <;> rfl

theorem code_o (L k : Nat) (h : Co σ qo so v l) (hl : l.length ≤ 64) : ∃ σ', evCall Tryd.prog env L (k + 2) 17 [v] σ = some (.int .i64 0, σ') ∧ Same σ σ' [] := by
  have hc := (h.same (Same.new σ (Blk.own [Value.int .i64 0] 23) _)).chE 64 hl
  obtain ⟨T, x, rfl⟩ := h.iface
  have ha : Td.asG [.iface T x, .iface 42 (.pointer (some ⟨σ.next, 0, none⟩))] (σ.new (Blk.own [Value.int .i64 0] 23)) = some (.bool false, σ.new (Blk.own [Value.int .i64 0] 23)) := by
    simp only [Td.asG, get_new_same]
    rw [if_pos (by simp), if_neg (by simp), if_neg (by simp), if_neg (by simp), if_pos trivial, hc]
  rw [f17_eq, as_prim, ha, bnd_some, asB_b, not_false, br_true]
  exact ⟨_, rfl, Same.new _ _ _⟩
theorem is_o (L k : Nat) (h : Co σ qo so v l) (hl : l.length ≤ 64) (d : Int) : evCall Tryd.prog env L (k + 1) 21 [v, .iface 23 (.int .i64 d)] σ = some (.bool false, σ) := by
  have hc := h.chE 64 hl
  obtain ⟨T, x, rfl⟩ := h.iface
  rw [is_prim]
  simp only [Td.isG, hc]
  rfl
theorem isOwn_o (L k : Nat) (h : Co σ qo so v l) (hl : l.length ≤ 64) : evCall Tryd.prog env L (k + 1) 21 [v, .iface 77 (.pointer (some ⟨qo, 0, none⟩))] σ = some (.bool true, σ) := by
  have hc := h.hit 66 (by omega)
  have hb := h.ownBlk
  obtain ⟨T, x, rfl⟩ := h.iface
  rw [is_prim]
  show (if _ then _ else _) = _
  rw [if_pos ⟨.inr rfl, by rw [hb]; rfl, hc⟩]
theorem fis_o0 (L k : Nat) (h : Co σ qo so v l) (hl : l.length ≤ 64) : ∃ σ', evCall Tryd.prog env L (k + 3) 22 [v, .int .i64 0] σ = some (.bool true, σ') ∧ Same σ σ' [] := by
  obtain ⟨σ', g, s⟩ := code_o L k h hl
  refine ⟨σ', ?_, s⟩
  rw [f22_eq, beq_self_eq_true, br_true, g, bnd_some, asI_i]
  rfl
theorem fis_o6 (L k : Nat) (h : Co σ qo so v l) (hl : l.length ≤ 64) : evCall Tryd.prog env L (k + 3) 22 [v, .int .i64 6] σ = some (.bool false, σ) := by
  rw [f22_eq, show ((6 : Int) == 0) = false from rfl, br_false, is_o L (k + 1) h hl 6, bnd_some, asB_b]
end

theorem as_noo {σ : St} {q : Nat} {t : Nat} {old : Value} (ht : σ.get t = some (.own [old] 30)) : Td.asG [.iface 77 (.pointer (some ⟨q, 0, none⟩)), .iface 43 (.pointer (some ⟨t, 0, none⟩))] σ = some (.bool false, σ) := by
  simp only [Td.asG, ht]
  rw [if_pos (by simp), if_neg (by simp), if_neg (by simp), if_pos (by simp)]
theorem faults_loop_o (L k : Nat) {σ0 : St} {t : Nat} (ht0 : σ0.next ≤ t) {qo : Nat} {so : ByteArray} {v : Value} {l : List (ByteArray × Int)} (h : Co σ0 qo so v l) : ∀ (n : Nat) (σ : St) (ad : Option Addr) (z : Nat) (qb acc : List Nat) (old : Value), l.length < n → acc.length + l.length ≤ 1000 →
    Kept' σ0.next σ0 σ → σ.get t = some (.own [old] 30) → t < σ.next → Row cp 1 30 σ ad z qb acc → (∀ q ∈ qb, σ0.next ≤ q ∧ q < σ.next ∧ q ≠ t) →
    ∃ ad' z' qb' σ' ps, lpAt Tryd.prog env L (k + 1) 29 [true, true, true, false] [] n [(0, v), (3, .slice ad acc.length z), (4, .pointer (some ⟨t, 0, none⟩))] σ = some (.slice ad' (acc ++ ps).length z', σ') ∧ Lks σ0 ps l ∧ Row cp 1 30 σ' ad' z' qb' (acc ++ ps) ∧ Kept' σ0.next σ0 σ' ∧ (∀ q ∈ qb', σ0.next ≤ q ∧ q < σ'.next) := by
  induction h with
  | own hc hcn =>
    intro n σ ad z qb acc old hn hlen hk ht htn hr hq
    obtain ⟨m, rfl⟩ : ∃ m, n = m + 1 := ⟨n - 1, by omega⟩
    rw [f29_l3, as_prim, as_noo ht, bnd_some, asB_b, br_false]
    exact ⟨ad, z, qb, σ, [], by rw [List.append_nil], .nil, by rw [List.append_nil]; exact hr, hk, fun q hx => ⟨(hq q hx).1, (hq q hx).2.1⟩⟩
  | flt q s a y l hg hqn hy ih =>
    intro n σ ad z qb acc old hn hlen hk ht htn hr hq
    obtain ⟨m, rfl⟩ : ∃ m, n = m + 1 := ⟨n - 1, by omega⟩
    simp only [List.length_cons] at hn hlen
    rw [f29_l3, as_prim, as_flt ht, bnd_some, asB_b, br_true, asP_p, adr_some]
    generalize hσ2 : σ.set t (.own [.pointer (some ⟨q, 0, none⟩)] 30) = σ2
    have hs2 : Same σ σ2 [t] := by rw [← hσ2]; exact Same.set _ _ _
    have ht2 : σ2.get t = some (.own [.pointer (some ⟨q, 0, none⟩)] 30) := by rw [← hσ2, get_set_same]
    have hk2 := hk.step hs2 (by simpa using ht0)
    have hr2 := hr.same hs2 (fun x hx => by simpa using (hq x hx).2.2)
    rw [ld_own _ ht2 (v := .pointer (some ⟨q, 0, none⟩)) rfl, asP_p, show (!(some (⟨q, 0, none⟩ : Addr)).isNone) = true from rfl, br_true, asP_p, adr_some, ld_own _ ht2 (v := .pointer (some ⟨q, 0, none⟩)) rfl, asP_p]
    generalize hσ3 : σ2.new (Blk.own [Value.pointer (some ⟨q, 0, none⟩)] 30) = σ3
    have hs3 : Same σ2 σ3 [] := by rw [← hσ3]; exact Same.new _ _ _
    have ht3 : σ3.get σ2.next = some (Blk.own [Value.pointer (some ⟨q, 0, none⟩)] 30) := by rw [← hσ3, get_new_same]
    rw [row_one ht3]
    have hr3 := hr2.same hs3 (by simp)
    obtain ⟨ad', z', qs, σ4, hgrow, hrow, hs4, hq4⟩ := grow_row (by_ := 8) hr3 (fun _ => rfl) (fun _ => rfl) (by omega) [q] [Value.pointer (some ⟨q, 0, none⟩)] rfl 1 rfl (by unfold roomTop; omega) (by unfold sizeTop; omega)
    have hk3 := hk2.step hs3 (by simp)
    have hk4 := hk3.step hs4 (fun x hx => (hq x hx).1)
    have n2 : σ2.next = σ.next := by rw [← hσ2]; rfl
    have n3 : σ3.next = σ2.next + 1 := by rw [← hσ3]; rfl
    have ht4 : σ4.get t = some (.own [.pointer (some ⟨q, 0, none⟩)] 30) := by
      rw [hs4.2 t (by omega) (fun hx => (hq t hx).2.2 rfl), hs3.2 t (by omega) (by simp)]; exact ht2
    have hg4 : σ4.get q = some (.own [.string s, .int .i64 a, y] 32) := by rw [hk4.2 q hqn]; exact hg
    have htn4 : t < σ4.next := by have := hs4.1; omega
    have hq4' : ∀ x ∈ qs, σ0.next ≤ x ∧ x < σ4.next ∧ x ≠ t := fun x hx => by
      have hlt := hrow.lt x hx
      rcases hq4 x hx with h | h
      · exact ⟨(hq x h).1, hlt, (hq x h).2.2⟩
      · exact ⟨by omega, hlt, by omega⟩
    obtain ⟨ad5, z5, qb5, σ5, ps, e5, hL, hR, hK, hQ⟩ := ih m σ4 ad' z' qs (acc ++ [q]) _ (by omega) (by simp; omega) hk4 ht4 htn4 hrow hq4'
    refine ⟨ad5, z5, qb5, σ5, q :: ps, ?_, .cons q s a y ps l hg hqn hL, by simpa using hR, hK, hQ⟩
    rw [hgrow, asP_p, adr_some, ld_own _ ht4 (v := .pointer (some ⟨q, 0, none⟩)) rfl, asP_p, adr_some, ld_own _ hg4 (v := y) rfl]
    rw [List.length_append] at e5
    rw [show acc ++ q :: ps = (acc ++ [q]) ++ ps by simp]
    exact e5

theorem faults_spec_o (L k : Nat) (hL : 1000 < L) {σ : St} {qo : Nat} {so : ByteArray} {v : Value} {l : List (ByteArray × Int)} (h : Co σ qo so v l) (hl : l.length ≤ 64) :
    ∃ ad z qb σ' ps, evCall Tryd.prog env L (k + 2) 29 [v] σ = some (.slice ad l.length z, σ') ∧ Lks σ' ps l ∧ Row cp 1 30 σ' ad z qb ps ∧ ps.length = l.length ∧ Same σ σ' [] := by
  have hlen : ∀ {ps : List Nat} {l : List (ByteArray × Int)}, Lks σ ps l → ps.length = l.length := by
    intro ps l h
    induction h with
    | nil => rfl
    | cons q s n y ps l _ _ _ ih => simp [ih]
  rw [f29_eq]
  obtain ⟨ad, z, qb, σ', ps, e, hL', hR, hK, hQ⟩ := faults_loop_o L k (Nat.le_refl _) h L (σ.new (Blk.own [Value.pointer none] 30)) none 0 [] [] _ (by omega) (by simp; omega) ⟨by simp, fun x hx => get_new (by omega)⟩ (get_new_same _ _) (by simp) (Row.nil cp 1 30 _) (by simp)
  have hs : Same σ σ' [] := ⟨hK.1, fun x hx _ => hK.2 x hx⟩
  rw [List.nil_append] at e hR
  rw [hlen hL'] at e
  exact ⟨ad, z, qb, σ', ps, e, hL'.same hs, hR, hlen hL', hs⟩

theorem path_o (L k : Nat) (hL0 : 1000 < L) {σ : St} {qo : Nat} {so : ByteArray} {v : Value} {l : List (ByteArray × Int)} (h : Co σ qo so v l) (hl : l.length ≤ 64) (hb : ∀ p ∈ l, p.1.size ≤ 10000 ∧ -9223372036854775808 ≤ p.2 ∧ p.2 ≤ 9223372036854775807) :
    ∃ ad z qb σ', evCall Tryd.prog env L (k + 3) 23 [v] σ = some (.slice ad l.length z, σ') ∧ Row cs 1 9 σ' ad z qb (l.map plc) ∧ Same σ σ' [] ∧ (∀ q ∈ qb, σ.next ≤ q) := by
  obtain ⟨ad, z, qb, σ1, ps, e, hLk, hR, hpl, hs⟩ := faults_spec_o L k hL0 h hl
  obtain ⟨ad', z', qb', σ2, e2, s2, r2, q2⟩ := path_loop L k hLk hR (by omega) hb L 0 σ1 none 0 [] (by omega) (by omega) (Same.refl _ _) (Row.nil cs 1 9 _) (by simp)
  refine ⟨ad', z', qb', σ2, ?_, r2, hs.trans s2, fun q hq => by have := q2 q hq; have := hs.1; omega⟩
  rw [f23_eq, e, bnd_some, asSl_s]
  exact e2

/-- The texts of a path, with colons. -/
def allT (A : List ByteArray) : List UInt8 := A.flatMap fun p => p.data.toList ++ [58, 32]
theorem dm77 : directM Tryd.prog 77 "Error" = some 73 := by kernel_rfl
theorem err_o (L : Nat) {σ : St} {qo : Nat} {so : ByteArray} {v : Value} {l : List (ByteArray × Int)} (h : Co σ qo so v l) (hl : ∀ p ∈ l, -9223372036854775808 ≤ p.2 ∧ p.2 ≤ 9223372036854775807) (hs : (allT (l.map plc) ++ so.data.toList).length ≤ 100000) (k : Nat) :
    ∀ K : Value → St → Res, aMeth Tryd.prog v "Error" (fun f u => bnd (evCall Tryd.prog env L (k + l.length + 2) f [u] σ) K) = K (.string ⟨⟨allT (l.map plc) ++ so.data.toList⟩⟩) σ := by
  induction h with
  | own hg hq =>
    intro K
    simp only [aMeth, dm77]
    rw [show k + ([] : List (ByteArray × Int)).length + 2 = k + 1 + 1 from rfl, f73_eq, ld_own _ hg (v := .string so) rfl, asS_s, bnd_some]
    rfl
  | flt q s n y l hg hq hy ih =>
    have hlen : (allT (l.map plc) ++ so.data.toList).length ≤ 100000 ∧ s.data.toList.length ≤ 100000 := by
      simp only [allT, plc, List.map_cons, List.flatMap_cons, List.length_append] at hs ⊢
      omega
    have g := ih (fun p hp => hl p (List.mem_cons_of_mem _ hp)) hlen.1
    intro K
    have hd : (dg n).data.toList.length ≤ 21 := Lib.itoa_length_le n (hl (s, n) (by simp)).1 (hl (s, n) (by simp)).2
    simp only [aMeth, dm30]
    rw [show k + ((s, n) :: l).length + 2 = (k + l.length + 2) + 1 from by simp; omega, f14_eq, ld_own _ hg (v := y) rfl, hy.nil, br_false, place_spec L (k + l.length) hg (hl (s, n) (by simp)) (by show s.data.size ≤ _; rw [← Array.length_toList]; omega), bnd_some, asS_s,
      need_of (decide_eq_true (by show (s.data.toList ++ [32] ++ (dg n).data.toList).length + 2 ≤ _; simp only [List.length_append, List.length_cons, List.length_nil]; omega)), ld_own _ hg (v := y) rfl, ld_own _ hg (v := y) rfl, chk_same, g, asS_s,
      need_of (decide_eq_true (by show ((s.data.toList ++ [32] ++ (dg n).data.toList) ++ [58, 32]).length + (allT (l.map plc) ++ so.data.toList).length ≤ _; simp only [List.length_append, List.length_cons, List.length_nil] at hlen ⊢; omega)), bnd_some]
    have : allT (((s, n) :: l).map plc) ++ so.data.toList = (s.data.toList ++ [32] ++ (dg n).data.toList ++ [58, 32]) ++ (allT (l.map plc) ++ so.data.toList) := by
      simp only [allT, plc, List.map_cons, List.flatMap_cons, List.append_assoc]
    rw [this]
    rfl
end Go.AM.Fw
