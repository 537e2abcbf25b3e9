/-
  FaultWraps: one more place around an error is the first one of its path, and changes neither its number, nor what is below.
-/
import Derived.Test.YtiiophkfecpbfaaDoorFwArg
set_option linter.unusedVariables false
set_option linter.unusedSimpArgs false
set_option linter.unusedSectionVars false
namespace Go.AM.Fw
open Go.Proofs
/-- A row of texts, read from a place in it. -/
def Reads (σ : St) (ad : Option Addr) (A : List ByteArray) : Prop := ∀ (i : Nat) (s : ByteArray), A[i]? = some s → ∃ q o, ad = some ⟨q, o, none⟩ ∧ ∀ K : Value → Res, σ.ld q (o + Int.toNat (i : Int) * 1) K = K (.string s)
theorem reads_row {σ : St} {ad : Option Addr} {z : Nat} {qb : List Nat} {A : List ByteArray} (h : Row cs 1 9 σ ad z qb A) : Reads σ ad A := by
  intro i s hi
  obtain ⟨q, e, hat⟩ := h.at (fun _ => rfl) hi
  exact ⟨q, 0, e, fun K => hat 0 (.string s) _ (by omega) rfl (by simp) K⟩
theorem reads_tail {σ : St} {ad : Option Addr} {z : Nat} {qb : List Nat} {A : List ByteArray} {x : ByteArray} (h : Row cs 1 9 σ ad z qb (x :: A)) : Reads σ (subA ad 1) A := by
  intro i s hi
  obtain ⟨q, e, hat⟩ := h.at (fun _ => rfl) (i := i + 1) (a := s) (by simpa using hi)
  exact ⟨q, 0 + 1, by rw [e]; rfl, fun K => hat 0 (.string s) _ (by omega) rfl (by simp; omega) K⟩
theorem same_loop2 (L k : Nat) {σ : St} {ad ad2 : Option Addr} {z z2 : Nat} {A : List ByteArray} (h1 : Reads σ ad A) (h2 : Reads σ ad2 A) (hl : A.length ≤ 1000) : ∀ (n i : Nat), i ≤ A.length → A.length - i < n →
    lpAt Tryd.prog env L k 24 [true, true, false, true] [] n [(0, .slice ad A.length z), (1, .slice ad2 A.length z2), (12, .int .i64 A.length), (13, .int .i64 i)] σ = some (.bool true, σ)
  | 0, i, _, hn => by omega
  | n + 1, i, hi, hn => by
    rw [f24_l4]
    by_cases hie : i = A.length
    · rw [decide_eq_false (by omega), br_false]
    have hget : A[i]? = some A[i] := List.getElem?_eq_getElem (by omega)
    obtain ⟨q, o, e, hat⟩ := h1 i _ hget
    obtain ⟨q2, o2, e2, hat2⟩ := h2 i _ hget
    have hw : IntKind.wrap .i64 ((i : Int) + 1) = ((i + 1 : Nat) : Int) := by rw [wrap_in _ (by omega) (by omega)]; omega
    have ih := same_loop2 L k (z := z) (z2 := z2) h1 h2 hl n (i + 1) (by omega) (by omega)
    rw [decide_eq_true (by omega), br_true, need_of (by simp [inRange]; omega), e, adr_some, hat, asS_s, need_of (by simp [inRange]; omega), e2, adr_some, hat2, asS_s, beq_self_eq_true, not_true, br_false, hw, ← e, ← e2]
    exact ih
theorem same_spec2 (L k : Nat) (hL : 1000 < L) {σ : St} {ad ad2 : Option Addr} {z z2 n n2 : Nat} {A : List ByteArray} (h1 : Reads σ ad A) (h2 : Reads σ ad2 A) (hl : A.length ≤ 1000) (hn : n = A.length) (hn2 : n2 = A.length) :
    evCall Tryd.prog env L (k + 1) 24 [.slice ad n z, .slice ad2 n2 z2] σ = some (.bool true, σ) := by
  subst hn; subst hn2
  rw [f24_eq, show ((A.length : Int) != (A.length : Int)) = false by simp, br_false]
  exact same_loop2 L k h1 h2 hl L 0 (by omega) (by omega)

/-- errors.Is of an error with one more place around. -/
theorem is_wrap (L k : Nat) {σ : St} {v : Value} {c : Int} {l : List (ByteArray × Int)} {s : ByteArray} {n : Int} {q : Nat} (hg : σ.get q = some (.own [.string s, .int .i64 n, v] 32)) (hq : q < σ.next) (h : Ch σ v c l) (hl : l.length ≤ 60) (hne : ∀ p, v = .iface 30 (.pointer (some ⟨p, 0, none⟩)) → p ≠ q) :
    evCall Tryd.prog env L (k + 1) 21 [.iface 30 (.pointer (some ⟨q, 0, none⟩)), v] σ = some (.bool true, σ) := by
  cases h with
  | num c hc =>
    rw [is_spec L k (.flt q s n _ c [] hg hq (.num c hc)) (by simp) c]
    simp
  | flt p s2 n2 y c l2 hg2 hq2 hy =>
    have hpq := hne p rfl
    rw [is_prim]
    show (if _ then _ else _) = _
    rw [if_pos]
    refine ⟨.inl rfl, by rw [hg2]; rfl, ?_⟩
    show (if (30 : TypeId) = 30 ∧ q = p ∧ 0 = 0 then true else _) = true
    rw [if_neg (fun h => hpq h.2.1.symm), if_pos ⟨rfl, .inl (Ne.symm hpq)⟩, hg]
    show (if (30 : TypeId) = 30 ∧ p = p ∧ 0 = 0 then true else _) = true
    rw [if_pos ⟨rfl, rfl, rfl⟩]

theorem text_bound : ∀ (l : List (ByteArray × Int)) (c : Int), (∀ p ∈ l, p.1.size ≤ 200 ∧ -9223372036854775808 ≤ p.2 ∧ p.2 ≤ 9223372036854775807) → (textC l c).length ≤ 10 + 230 * l.length
  | [], c, _ => by
    show (word c).data.toList.length ≤ _
    unfold word
    split
    · rename_i h
      have h : c = 0 ∨ c = 1 ∨ c = 2 ∨ c = 3 ∨ c = 4 ∨ c = 5 ∨ c = 6 ∨ c = 7 ∨ c = 8 ∨ c = 9 ∨ c = 10 ∨ c = 11 ∨ c = 12 := by omega
      rcases h with rfl | rfl | rfl | rfl | rfl | rfl | rfl | rfl | rfl | rfl | rfl | rfl | rfl <;> decide
    · decide
  | (s, n) :: l, c, h => by
    have ih := text_bound l c (fun p hp => h p (List.mem_cons_of_mem _ hp))
    have hx := h (s, n) (by simp)
    have hd : (dg n).data.toList.length ≤ 21 := Lib.itoa_length_le n hx.2.1 hx.2.2
    have hs : s.data.toList.length ≤ 200 := hx.1
    simp only [textC, List.length_append, List.length_cons, List.length_nil] at *
    omega

theorem wraps_holds (L k : Nat) (hL : 100000 < L) {σ0 : St} {ad : Option Addr} {l : List PB} (hH0 : Holds σ0 2 cPB ad l) (c : Int) (op : ByteArray) (at' : Int) (ha : -9223372036854775808 ≤ at' ∧ at' ≤ 9223372036854775807) :
    ∃ σ', evCall Tryd.prog env L (k + 100) 6 [.slice ad l.length 0, .int .i64 c, .string op, .int .i64 at'] σ0 = some (.bool true, σ') := by
  have hH := holds_pb hH0
  have hbd := PB.bd (l := l)
  rw [show l.length = (l.map PB.pl).length by simp]
  generalize l.map PB.pl = l at hH hbd
  obtain ⟨σ1, g1, s1⟩ := awake_spec L (k + 93) σ0
  have hk1 : Kept' σ0.next σ0 σ1 := ⟨s1.1, fun q hq => s1.2 q hq (by simp)⟩
  obtain ⟨b, g2, hb⟩ := few_spec2 L (k + 98) hL hk1 0 hH
  obtain ⟨σa, ga, sa⟩ := awake_spec L (k + 93) σ1
  rw [f6_eq, g1, bnd_some, asB_b, not_true, br_false, g2, bnd_some, asB_b]
  cases b with
  | false => rw [not_false, br_true, ga, bnd_some, asB_b]; exact ⟨_, rfl⟩
  | true =>
  obtain ⟨hl, hsz⟩ := hb rfl
  rw [not_true, br_false]
  by_cases hop : ((op.size : Nat) : Int) > 200
  · rw [decide_eq_true hop, br_true, ga, bnd_some, asB_b]; exact ⟨_, rfl⟩
  rw [decide_eq_false hop, br_false]
  by_cases hc : c = 0
  · subst hc
    rw [beq_self_eq_true, br_true, ga, bnd_some, asB_b]; exact ⟨_, rfl⟩
  rw [show (c == 0) = false by simpa using hc, br_false]
  obtain ⟨v, σ2, g3, s3, h2⟩ := made_spec L (k + 97) hL hk1 0 (by omega) hH c hc
  have hb2 : ∀ p ∈ l.reverse, p.1.size ≤ 200 ∧ -9223372036854775808 ≤ p.2 ∧ p.2 ≤ 9223372036854775807 := fun p hp => ⟨hsz p (by simpa using hp), hbd p (by simpa using hp)⟩
  have hlr : l.reverse.length ≤ 50 := by simp; omega
  generalize l.reverse = A at h2 hb2 hlr
  obtain ⟨g4, h3, s4⟩ := wrap_spec L (k + 98) h2 op at'
  have hv : ∀ p, v = .iface 30 (.pointer (some ⟨p, 0, none⟩)) → p ≠ σ2.next := by
    intro p hp
    subst hp
    cases h2 with
    | flt _ _ _ _ _ _ _ hq _ => omega
  have hf : (σ2.new (.own [.string op, .int .i64 at', v] 32)).get σ2.next = some (.own [.string op, .int .i64 at', v] 32) := get_new_same _ _
  have hfn : σ2.next < (σ2.new (.own [.string op, .int .i64 at', v] 32)).next := by simp
  have h2' := h2.same s4
  generalize σ2.new (.own [.string op, .int .i64 at', v] 32) = σ3 at g4 h3 s4 hf hfn h2'
  generalize hq0 : σ2.next = q0 at g4 h3 hv hf hfn
  have hb3 : ∀ p ∈ (op, at') :: A, p.1.size ≤ 10000 ∧ -9223372036854775808 ≤ p.2 ∧ p.2 ≤ 9223372036854775807 := by
    intro p hp
    rcases List.mem_cons.1 hp with rfl | hp
    · exact ⟨by show op.size ≤ _; omega, ha⟩
    · have := hb2 p hp; exact ⟨by omega, this.2⟩
  obtain ⟨ad4, z4, qb4, σ4, g5, r4, s5, q4⟩ := path_spec L (k + 96) (by omega) h2' (by omega) (fun p hp => hb3 p (List.mem_cons_of_mem _ hp))
  obtain ⟨ad5, z5, qb5, σ5, g6, r5, s6, q5⟩ := path_spec L (k + 96) (by omega) (h3.same s5) (by simp; omega) hb3
  have h5 := (h3.same s5).same s6
  have e5 := (h2'.same s5).same s6
  obtain ⟨σ6, g7, s7⟩ := first_spec L (k + 96) (by omega) h5 (by simp; omega) op
  have h6 := h5.same s7
  have e6 := e5.same s7
  have r5' := r5.same s7 (by simp)
  have r4' := (r4.same s6 (by simp)).same s7 (by simp)
  have hfo : firstOf op ((op, at') :: A) = (at', true) := by simp [firstOf]
  rw [hfo] at g7
  have hi : evCall Tryd.prog env L (k + 99) 16 [.int .i64 at'] σ6 = some (.string (dg at'), σ6) := by rw [digits_prim]; simp only [Td.itoaG]; rw [if_pos ha]; rfl
  have hd : (dg at').size ≤ 21 := Lib.itoa_length_le _ ha.1 ha.2
  have hos : op.data.toList.length = op.size := rfl
  obtain ⟨qq, eq, hat⟩ := r5'.at (fun _ => rfl) (i := 0) (a := plc (op, at')) rfl
  obtain ⟨σ7, g8, s8⟩ := code_spec L (k + 97) h6 (by simp; omega)
  obtain ⟨σ8, g9, s9⟩ := code_spec L (k + 97) (e6.same s8) (by omega)
  have h8 := (h6.same s8).same s9
  have e8 := (e6.same s8).same s9
  have hbA : ∀ p ∈ A, -9223372036854775808 ≤ p.2 ∧ p.2 ≤ 9223372036854775807 := fun p hp => (hb2 p hp).2
  have hbF : ∀ p ∈ (op, at') :: A, -9223372036854775808 ≤ p.2 ∧ p.2 ≤ 9223372036854775807 := fun p hp => (hb3 p hp).2
  have hopn : op.size ≤ 200 := by omega
  have ht1 : (textC A c).length ≤ 11510 := by
    have := text_bound A c hb2; omega
  have ht2 : (textC ((op, at') :: A) c).length ≤ 100000 := by
    have := text_bound ((op, at') :: A) c (fun p hp => ⟨by rcases List.mem_cons.1 hp with rfl | hp; exact hopn; exact (hb2 p hp).1, hbF p hp⟩)
    simp only [List.length_cons] at this; omega
  obtain ⟨σ9, g10, s10⟩ := err_spec L h8 hbF ht2 (k + (96 - A.length))
  obtain ⟨σ10, g11, s11⟩ := err_spec L (e8.same s10) hbA (by omega) (k + (97 - A.length))
  rw [show k + (96 - A.length) + ((op, at') :: A).length + 2 = k + 99 by simp only [List.length_cons]; omega] at g10
  rw [show k + (97 - A.length) + A.length + 2 = k + 99 by omega] at g11
  have q7 := (s8.trans s9)
  have q8 := (q7.trans s10).trans s11
  obtain ⟨qq8, eq8, hat8⟩ := (r5'.same q7 (by simp)).at (fun _ => rfl) (i := 0) (a := plc (op, at')) rfl
  obtain ⟨qq9, eq9, hat9⟩ := ((r5'.same q7 (by simp)).same s10 (by simp)).at (fun _ => rfl) (i := 0) (a := plc (op, at')) rfl
  obtain ⟨qq10, eq10, hat10⟩ := (r5'.same q8 (by simp)).at (fun _ => rfl) (i := 0) (a := plc (op, at')) rfl
  rw [eq] at eq8 eq9 eq10
  cases eq8; cases eq9; cases eq10
  have hz : (Nat.beq z5 0 || Nat.beq z5 1) = true := by rcases r5.z with rfl | rfl <;> rfl
  have g12 : evCall Tryd.prog env L (k + 99) 24 [.slice (subA ad5 1) (A.length + 1 - 1) z5, .slice ad4 A.length z4] σ6 = some (.bool true, σ6) :=
    same_spec2 L (k + 98) (by omega) (reads_tail (x := plc (op, at')) (A := A.map plc) r5') (reads_row r4') (by simp; omega) (by simp) (by simp)
  have s610 : Same σ6 σ10 [] := q8
  have hf10 : σ10.get q0 = some (.own [.string op, .int .i64 at', v] 32) := by
    have hs : Same σ3 σ10 [] := ((s5.trans s6).trans s7).trans s610
    rw [hs.2 q0 hfn (by simp)]; exact hf
  have hq10 : q0 < σ10.next := by
    have := (((s5.trans s6).trans s7).trans s610).1; omega
  have g13 := is_wrap L (k + 98) hf10 hq10 ((e8.same s10).same s11) (by omega) hv
  have hpl : (plc (op, at')).size ≤ 300 := by
    show (op.data.toList ++ [32] ++ (dg at').data.toList).length ≤ _
    have : (dg at').data.toList.length ≤ 21 := hd
    simp only [List.length_append, List.length_cons, List.length_nil]; omega
  rw [g3, bnd_some, g4, bnd_some, g5, bnd_some, asSl_s, g6, bnd_some, asSl_s, g7, bnd_some, asT_t, toList2, uncons_c, asI_i, uncons_c, asB_b, endl_n]
  rw [show (((((op, at') :: A).length : Nat) : Int) == IntKind.wrap .i64 ((A.length : Int) + 1)) = true by rw [wrap_in _ (by omega) (by omega)]; simp, br_true, need_of (by simp [inRange]), eq, adr_some, hat 0 (.string (plc (op, at'))) _ (by omega) rfl (by simp), asS_s, need_of (decide_eq_true (by omega)), hi, bnd_some, asS_s, hat 0 (.string (plc (op, at'))) _ (by omega) rfl (by simp), asS_s, chk_same,
    need_of (decide_eq_true (by show (op.data.toList ++ [32]).length + (dg at').size ≤ _; rw [List.length_append]; simp only [List.length_cons, List.length_nil]; omega))]
  rw [show (ByteArray.toList (plc (op, at')) == ByteArray.toList ⟨⟨List.append op.data.toList [32] ++ (dg at').data.toList⟩⟩) = true from beq_self_eq_true _, br_true, need_of hz, need_of (by simp [inRange]; omega), ← eq]
  rw [show ((op, at') :: A).length - 1 = A.length + 1 - 1 from rfl, g12, bnd_some, asB_b, br_true, g8, bnd_some, asI_i, g9, bnd_some, asI_i, beq_self_eq_true, br_true]
  refine ⟨σ10, (g10 _).trans ?_⟩
  rw [asS_s, need_of (by simp [inRange]), eq, adr_some, hat9 0 (.string (plc (op, at'))) _ (by omega) rfl (by simp), asS_s, hat8 0 (.string (plc (op, at'))) _ (by omega) rfl (by simp), asS_s, chk_same, need_of (decide_eq_true (by omega))]
  refine (g11 _).trans ?_
  rw [asS_s, hat10 0 (.string (plc (op, at'))) _ (by omega) rfl (by simp), asS_s, chk_same, need_of (decide_eq_true (by show ((plc (op, at')).data.toList ++ [58, 32]).length + (textC A c).length ≤ _; rw [List.length_append]; have : (plc (op, at')).data.toList.length ≤ 300 := hpl; simp only [List.length_cons, List.length_nil]; omega))]
  rw [show (ByteArray.toList ⟨⟨textC ((op, at') :: A) c⟩⟩ == ByteArray.toList ⟨⟨List.append (plc (op, at')).data.toList [58, 32] ++ (textC A c)⟩⟩) = true from by rw [show textC ((op, at') :: A) c = List.append (plc (op, at')).data.toList [58, 32] ++ (textC A c) from rfl]; exact beq_self_eq_true _, br_true, br_true, beq_self_eq_true, br_true, g13, bnd_some, asB_b]
end Go.AM.Fw
