/-
  DOOR OF THE LINK: the link and the document's, side by side.
-/
import Derived.Test.YtopogeimdanbkaaDoorLpR
set_option linter.unusedVariables false
set_option linter.unusedSimpArgs false
set_option linter.unusedSectionVars false
namespace Go.AM.Lp
open Go.Proofs

/-- What follows a call in LinkPlays. -/
noncomputable def tl (L k n : Nat) (E : Value) (st : St) (fn at_ : Int) (s1 : Option Addr) (s1n s1z s5 o5 s6 o6 : Nat) (s33 s34 : Int) : Res := AM.bnd (AM.evCall Proofs.Tryd.prog AM.Lp.env L k 29 [E, Value.string { data := #[(108 : UInt8), (105 : UInt8), (110 : UInt8), (107 : UInt8)] }] st) fun v91 v92 => AM.asT v91 fun v93 => AM.uncons v93 fun v94 v95 => AM.asI IntKind.i64 v94 fun v96 => AM.uncons v95 fun v97 v98 => AM.asB v97 fun v99 => AM.endl v98 (AM.bnd (AM.evCall Proofs.Tryd.prog AM.Lp.env L k 11 [E] v92) fun v100 v101 => AM.asI IntKind.i64 v100 fun v102 => AM.br (v102 != fn) (some (Value.bool false, v101)) (AM.br (!v99 == (fn != (0 : Int))) (some (Value.bool false, v101)) (AM.br v99 (AM.br (v96 != at_) (some (Value.bool false, v101)) (AM.bnd (AM.evCall Proofs.Tryd.prog AM.Lp.env L k 12 [Value.pointer (some { block := s5, off := o5 })] v101) fun v103 v104 => AM.asI IntKind.i64 v103 fun v105 => AM.St.ld v104 s6 (o6 + 0) fun v106 => AM.asSl v106 fun v107 v108 v109 => AM.St.ld v101 s6 (o6 + 0) fun v110 => AM.asSl v110 fun v111 v112 v113 => AM.chk (Value.slice v111 v112 v113) (Value.slice v107 v108 v109) (AM.br (v105 != (↑v108 : Int)) (some (Value.bool false, v104)) (AM.lpAt Proofs.Tryd.prog AM.Lp.env L k 6 [true, true, true, true, false, true] [] n [(1, Value.slice s1 s1n s1z), (5, Value.pointer (some { block := s5, off := o5 })), (6, Value.pointer (some { block := s6, off := o6 })), (33, Value.int IntKind.i64 s33), (34, Value.int IntKind.i64 (IntKind.wrap IntKind.i64 (s34 + (1 : Int))))] v104)))) (AM.bnd (AM.evCall Proofs.Tryd.prog AM.Lp.env L k 12 [Value.pointer (some { block := s5, off := o5 })] v101) fun v114 v115 => AM.asI IntKind.i64 v114 fun v116 => AM.St.ld v115 s6 (o6 + 0) fun v117 => AM.asSl v117 fun v118 v119 v120 => AM.St.ld v101 s6 (o6 + 0) fun v121 => AM.asSl v121 fun v122 v123 v124 => AM.chk (Value.slice v122 v123 v124) (Value.slice v118 v119 v120) (AM.br (v116 != (↑v119 : Int)) (some (Value.bool false, v115)) (AM.lpAt Proofs.Tryd.prog AM.Lp.env L k 6 [true, true, true, true, false, true] [] n [(1, Value.slice s1 s1n s1z), (5, Value.pointer (some { block := s5, off := o5 })), (6, Value.pointer (some { block := s6, off := o6 })), (33, Value.int IntKind.i64 s33), (34, Value.int IntKind.i64 (IntKind.wrap IntKind.i64 (s34 + (1 : Int))))] v115))))))

structure Two (σ0 σ : St) (a b t : Nat) (B : Blk) (l l2 : Strs) (room : Int) (cut cut2 : Bool) : Prop where
  ex : ∃ qs rs, S.Link σ a qs l room cut ∧ Ref σ b rs l2 room cut2 ∧ Owns σ0 σ [a :: qs, b :: rs, [t]] ∧ σ.get t = some B

def Ans (σ : St) (E : Value) (f at_ : Int) : Prop := (f = 0 ∧ E = .nilIface) ∨ (f ≠ 0 ∧ Err σ E f at_)

theorem turn_of {σ σ' : St} {a : Nat} {qs qs' : List Nat} (hs : Same σ σ' (a :: qs)) (hl : ∀ q ∈ a :: qs', q < σ'.next) (hn : ∀ q ∈ qs', q ∈ qs ∨ σ.next ≤ q) : Turn σ σ' (a :: qs) (a :: qs') :=
  ⟨hs, fun q h => ⟨by
    rcases List.mem_cons.1 h with rfl | h
    · exact .inl (by simp)
    · exact (hn q h).imp (fun h => by simp [h]) id, hl q h⟩⟩

section
variable {σ0 σ σ' : St} {a b t : Nat} {B : Blk} {l l2 : Strs} {room : Int} {cut cut2 : Bool}
theorem Two.kept (h : Two σ0 σ a b t B l l2 room cut cut2) : Kept' σ0.next σ0 σ := by obtain ⟨_, _, _, _, hO, _⟩ := h.ex; exact hO.kept
theorem Two.tmp (h : Two σ0 σ a b t B l l2 room cut cut2) : σ.get t = some B := by obtain ⟨_, _, _, _, _, hB⟩ := h.ex; exact hB
theorem Two.idle (h : Two σ0 σ a b t B l l2 room cut cut2) (hs : Same σ σ' []) : Two σ0 σ' a b t B l l2 room cut cut2 := by
  obtain ⟨qs, rs, hL, hR, hO, hB⟩ := h.ex
  exact ⟨qs, rs, hL.idle hs, hR.same hs (by simp), hO.idle hs, by rw [hs.2 t (hO.lt 2 rfl t (by simp)) (by simp)]; exact hB⟩
theorem Two.stepA {qs rs qs' : List Nat} {l' : Strs} {cut' : Bool} (hR : Ref σ b rs l2 room cut2) (hO : Owns σ0 σ [a :: qs, b :: rs, [t]]) (hB : σ.get t = some B) (hL' : S.Link σ' a qs' l' room cut') (hs : Same σ σ' (a :: qs)) (hn : ∀ q ∈ qs', q ∈ qs ∨ σ.next ≤ q) :
    Two σ0 σ' a b t B l' l2 room cut' cut2 :=
  ⟨qs', rs, hL', hR.same hs (hO.off 1 0 (by omega) rfl rfl), hO.turned 0 rfl (turn_of hs hL'.lts hn), by rw [hs.2 t (hO.lt 2 rfl t (by simp)) (hO.off 2 0 (by omega) rfl rfl t (by simp))]; exact hB⟩
theorem Two.stepB {qs rs rs' : List Nat} {l2' : Strs} {cut2' : Bool} (hL : S.Link σ a qs l room cut) (hO : Owns σ0 σ [a :: qs, b :: rs, [t]]) (hB : σ.get t = some B) (hR' : Ref σ' b rs' l2' room cut2') (ht : Turn σ σ' (b :: rs) (b :: rs')) :
    Two σ0 σ' a b t B l l2' room cut cut2' :=
  ⟨qs, rs', hL.same ht.same (hO.off 0 1 (by omega) rfl rfl a (by simp)) (fun q hq => hO.off 0 1 (by omega) rfl rfl q (by simp [hq])), hR', hO.turned 1 rfl ht, by rw [ht.same.2 t (hO.lt 2 rfl t (by simp)) (hO.off 2 1 (by omega) rfl rfl t (by simp))]; exact hB⟩
theorem Two.ldb (h : Two σ0 σ a b t B l l2 room cut cut2) : ∃ ad z, ∀ K : Value → Res, σ.ld b (0 + 0) K = K (.slice ad l2.length z) := by
  obtain ⟨qs, rs, hL, hR, hO, hB⟩ := h.ex
  obtain ⟨ad, z, hg, _⟩ := hR.ex
  exact ⟨ad, z, fun K => ld_own K hg rfl⟩

/-- What follows a call: each answer is the document's. -/
theorem tl_ok (L k n : Nat) (hL3 : 3 < L) (h : Two σ0 σ a b t B l l room cut cut) {E : Value} {f at_ : Int} (he : Ans σ E f at_) (s1 : Option Addr) (s1n s1z : Nat) (s33 s34 : Int) :
    ∃ σ', Two σ0 σ' a b t B l l room cut cut ∧ tl L (k + 6) n E σ f at_ s1 s1n s1z a 0 b 0 s33 s34 = lpAt Tryd.prog env L (k + 6) 6 [true, true, true, true, false, true] [] n [(1, Value.slice s1 s1n s1z), (5, .pointer (some ⟨a, 0, none⟩)), (6, .pointer (some ⟨b, 0, none⟩)), (33, .int .i64 s33), (34, .int .i64 (IntKind.wrap .i64 (s34 + 1)))] σ' := by
  have hb : (((l.length : Nat) : Int) != (l.length : Int)) = false := by simp
  have hlen : ∀ {σ2 : St}, Two σ0 σ2 a b t B l l room cut cut → evCall Tryd.prog env L (k + 6) 12 [.pointer (some ⟨a, 0, none⟩)] σ2 = some (.int .i64 l.length, σ2) := fun h2 => by
    obtain ⟨qs, rs, hL, _⟩ := h2.ex
    exact S.len_spec L (k + 5) hL
  unfold tl
  rcases he with ⟨rfl, rfl⟩ | ⟨hf, he⟩
  · obtain ⟨σ1, g1, s1'⟩ := first_nil L (k + 3) hL3 σ ⟨#[108, 105, 110, 107]⟩
    obtain ⟨σ2, g2, s2⟩ := code_nil L (k + 4) σ1
    have h2 := (h.idle s1').idle s2
    obtain ⟨ad, z, hld⟩ := h2.ldb
    rw [g1, bnd_some, asT_t, toList2, uncons_c, asI_i, uncons_c, asB_b, endl_n, g2, bnd_some, asI_i, show ((0 : Int) != 0) = false from rfl, br_false, show (!false == false) = false from rfl, br_false, br_false, hlen h2, bnd_some, asI_i, hld, asSl_s, hld, asSl_s, chk_same, hb, br_false]
    exact ⟨σ2, h2, rfl⟩
  · obtain ⟨σ1, g1, s1'⟩ := first_spec L (k + 3) hL3 he
    obtain ⟨σ2, g2, s2⟩ := code_spec L (k + 4) (he.same s1')
    have h2 := (h.idle s1').idle s2
    obtain ⟨ad, z, hld⟩ := h2.ldb
    have hff : (f != f) = false := by simp
    have hf0 : (f != 0) = true := by simpa using hf
    have haa : (at_ != at_) = false := by simp
    rw [g1, bnd_some, asT_t, toList2, uncons_c, asI_i, uncons_c, asB_b, endl_n, g2, bnd_some, asI_i, hff, br_false, hf0, show (!true == true) = false from rfl, br_false, br_true, haa, br_false, hlen h2, bnd_some, asI_i, hld, asSl_s, hld, asSl_s, chk_same, hb, br_false]
    exact ⟨σ2, h2, rfl⟩

theorem Two.send (L k : Nat) (h : Two σ0 σ a b t B l l room cut cut) (hl : l.length ≤ 100000) (x : ByteArray) :
    ∃ E f l' σ1 σ2, evCall Tryd.prog env L (k + 4) 10 [.pointer (some ⟨a, 0, none⟩), .string x] σ = some (E, σ1) ∧ evCall Tryd.prog env L (k + 4) 23 [.pointer (some ⟨b, 0, none⟩), .string x] σ1 = some (.int .i64 f, σ2) ∧ σ1.get t = some B ∧ Two σ0 σ2 a b t B l' l' room cut cut ∧ Ans σ2 E f l.length ∧ l'.length ≤ l.length + 1 := by
  obtain ⟨qs, rs, hL, hR, hO, hB⟩ := h.ex
  rcases S.send_spec L k hL hl x with ⟨h0, qs', σ1, g1, g2, g3, g4⟩ | ⟨h0, v, σ1, g1, g2, g3⟩
  · have h1 := Two.stepA hR hO hB g2 g3 g4
    obtain ⟨qs1, rs1, hL1, hR1, hO1, hB1⟩ := h1.ex
    rcases ref_send L (k + 3) hR1 hl x with ⟨_, rs', σ2, w1, w2, w3⟩ | ⟨h9, _⟩
    · exact ⟨_, _, _, σ1, σ2, g1, w1, hB1, Two.stepB hL1 hO1 hB1 w2 w3, .inl ⟨rfl, rfl⟩, by simp⟩
    · omega
  · have h1 := h.idle g3
    obtain ⟨qs1, rs1, hL1, hR1, hO1, hB1⟩ := h1.ex
    rcases ref_send L (k + 3) hR1 hl x with ⟨h9, _⟩ | ⟨_, w1⟩
    · omega
    · exact ⟨_, _, _, σ1, σ1, g1, w1, hB1, h1, .inr ⟨by omega, g2⟩, by omega⟩

theorem Two.drop (L k : Nat) (h : Two σ0 σ a b t B l l room cut cut) (hl : l.length ≤ 100000) (i : Int) :
    ∃ E f l' σ1 σ2, evCall Tryd.prog env L (k + 4) 27 [.pointer (some ⟨a, 0, none⟩), .int .i64 i] σ = some (E, σ1) ∧ evCall Tryd.prog env L (k + 4) 28 [.pointer (some ⟨b, 0, none⟩), .int .i64 i] σ1 = some (.int .i64 f, σ2) ∧ σ1.get t = some B ∧ Two σ0 σ2 a b t B l' l' room cut cut ∧ Ans σ2 E f i ∧ l'.length ≤ l.length + 1 := by
  obtain ⟨qs, rs, hL, hR, hO, hB⟩ := h.ex
  rcases S.drop_spec L k hL hl i with ⟨h0, h9, σ1, g1, g2, g3⟩ | ⟨h0, v, σ1, g1, g2, g3⟩
  · have h1 := Two.stepA hR hO hB g2 g3 (fun q hq => .inl hq)
    obtain ⟨qs1, rs1, hL1, hR1, hO1, hB1⟩ := h1.ex
    rcases ref_drop L (k + 2) hR1 hl i with ⟨_, _, rs', σ2, w1, w2, w3⟩ | ⟨h8, _⟩
    · exact ⟨_, _, _, σ1, σ2, g1, w1, hB1, Two.stepB hL1 hO1 hB1 w2 w3, .inl ⟨rfl, rfl⟩, by rw [List.length_eraseIdx_of_lt (by omega)]; omega⟩
    · exact absurd ⟨h0, h9⟩ h8
  · have h1 := h.idle g3
    obtain ⟨qs1, rs1, hL1, hR1, hO1, hB1⟩ := h1.ex
    rcases ref_drop L (k + 2) hR1 hl i with ⟨h8, h9, _⟩ | ⟨_, w1⟩
    · exact absurd ⟨h8, h9⟩ h0
    · exact ⟨_, _, _, σ1, σ1, g1, w1, hB1, h1, .inr ⟨by omega, g2⟩, by omega⟩

theorem Two.double (L k : Nat) (h : Two σ0 σ a b t B l l room cut cut) (hl : l.length ≤ 100000) (i : Int) :
    ∃ E f l' σ1 σ2, evCall Tryd.prog env L (k + 4) 25 [.pointer (some ⟨a, 0, none⟩), .int .i64 i] σ = some (E, σ1) ∧ evCall Tryd.prog env L (k + 4) 26 [.pointer (some ⟨b, 0, none⟩), .int .i64 i] σ1 = some (.int .i64 f, σ2) ∧ σ1.get t = some B ∧ Two σ0 σ2 a b t B l' l' room cut cut ∧ Ans σ2 E f i ∧ l'.length ≤ l.length + 1 := by
  obtain ⟨qs, rs, hL, hR, hO, hB⟩ := h.ex
  rcases S.double_spec L k hL hl i with ⟨x, h0, hx, h9, qs', σ1, g1, g2, g3, g4⟩ | ⟨h0, h9, h8, v, σ1, g1, g2, g3⟩ | ⟨h0, v, σ1, g1, g2, g3⟩
  · have h1 := Two.stepA hR hO hB g2 g3 g4
    obtain ⟨qs1, rs1, hL1, hR1, hO1, hB1⟩ := h1.ex
    have hxl := (List.getElem?_eq_some_iff.1 hx).1
    rcases ref_double L (k + 2) hR1 hl i with ⟨y, _, hy, _, rs', σ2, w1, w2, w3⟩ | ⟨_, _, h7, _⟩ | ⟨h7, _⟩
    · rw [hx] at hy
      cases hy
      exact ⟨_, _, _, σ1, σ2, g1, w1, hB1, Two.stepB hL1 hO1 hB1 w2 w3, .inl ⟨rfl, rfl⟩, by simp⟩
    · omega
    · exact absurd ⟨h0, by omega⟩ h7
  · have h1 := h.idle g3
    obtain ⟨qs1, rs1, hL1, hR1, hO1, hB1⟩ := h1.ex
    rcases ref_double L (k + 2) hR1 hl i with ⟨y, _, hy, h7, _⟩ | ⟨_, _, h7, w1⟩ | ⟨h7, _⟩
    · omega
    · exact ⟨_, _, _, σ1, σ1, g1, w1, hB1, h1, .inr ⟨by omega, g2⟩, by omega⟩
    · exact absurd ⟨h0, h9⟩ h7
  · have h1 := h.idle g3
    obtain ⟨qs1, rs1, hL1, hR1, hO1, hB1⟩ := h1.ex
    rcases ref_double L (k + 2) hR1 hl i with ⟨y, h7, hy, _⟩ | ⟨h7, h8, _⟩ | ⟨_, w1⟩
    · exact absurd ⟨h7, by have := (List.getElem?_eq_some_iff.1 hy).1; omega⟩ h0
    · exact absurd ⟨h7, h8⟩ h0
    · exact ⟨_, _, _, σ1, σ1, g1, w1, hB1, h1, .inr ⟨by omega, g2⟩, by omega⟩

theorem Two.deliver (L k : Nat) (h : Two σ0 σ a b t B l l room cut cut) (hl : l.length ≤ 100000) (i : Int) :
    ∃ x E f l' σ1 σ2, evCall Tryd.prog env L (k + 5) 13 [.pointer (some ⟨a, 0, none⟩), .int .i64 i] σ = some (.tuple #[.string x, E], σ1) ∧ evCall Tryd.prog env L (k + 5) 24 [.pointer (some ⟨b, 0, none⟩), .int .i64 i] σ1 = some (.tuple #[.string x, .int .i64 f], σ2) ∧ σ1.get t = some B ∧ Two σ0 σ2 a b t B l' l' room cut cut ∧ Ans σ2 E f i ∧ l'.length ≤ l.length + 1 := by
  obtain ⟨qs, rs, hL, hR, hO, hB⟩ := h.ex
  cases cut with
  | true =>
    obtain ⟨v, σ1, g1, g2, g3⟩ := S.deliver_cut L (k + 2) hL i
    have h1 := h.idle g3
    obtain ⟨qs1, rs1, hL1, hR1, hO1, hB1⟩ := h1.ex
    exact ⟨_, _, _, _, σ1, σ1, g1, ref_deliver_cut L (k + 4) hR1 i, hB1, h1, .inr ⟨by omega, g2⟩, by omega⟩
  | false =>
    rcases S.deliver_spec L k hL hl i with ⟨x, h0, hx, σ1, g1, g2, g3⟩ | ⟨h0, v, σ1, g1, g2, g3⟩
    · have h1 := Two.stepA hR hO hB g2 g3 (fun q hq => .inl hq)
      obtain ⟨qs1, rs1, hL1, hR1, hO1, hB1⟩ := h1.ex
      have hxl := (List.getElem?_eq_some_iff.1 hx).1
      rcases ref_deliver L (k + 2) hR1 hl i with ⟨y, _, hy, rs', σ2, w1, w2, w3⟩ | ⟨h8, _⟩
      · rw [hx] at hy
        cases hy
        exact ⟨_, _, _, _, σ1, σ2, g1, w1, hB1, Two.stepB hL1 hO1 hB1 w2 w3, .inl ⟨rfl, rfl⟩, by rw [List.length_eraseIdx_of_lt (by omega)]; omega⟩
      · exact absurd ⟨h0, by omega⟩ h8
    · have h1 := h.idle g3
      obtain ⟨qs1, rs1, hL1, hR1, hO1, hB1⟩ := h1.ex
      rcases ref_deliver L (k + 2) hR1 hl i with ⟨y, h8, hy, _⟩ | ⟨_, w1⟩
      · exact absurd ⟨h8, by have := (List.getElem?_eq_some_iff.1 hy).1; omega⟩ h0
      · exact ⟨_, _, _, _, σ1, σ1, g1, w1, hB1, h1, .inr ⟨by omega, g2⟩, by omega⟩

theorem Two.setcut (L k : Nat) (h : Two σ0 σ a b t B l l room cut cut) (c : Bool) :
    ∃ σ1 σ2, evCall Tryd.prog env L (k + 1) 20 [.pointer (some ⟨a, 0, none⟩), .bool c] σ = some (.tuple #[], σ1) ∧ σ1.get t = some B ∧ (∀ K : St → Res, σ1.put b (0 + 2) [.bool c] K = K σ2) ∧ Two σ0 σ2 a b t B l l room c c := by
  obtain ⟨qs, rs, hL, hR, hO, hB⟩ := h.ex
  obtain ⟨ad, z, hg, hrow⟩ := hL.ex
  rw [f20_eq, put_bool hg 2 c (by simp)]
  have hL1 : S.Link (σ.set a (.own ([Value.slice ad l.length z, .int .i64 room, .bool cut].set 2 (.bool c)) 59)) a qs l room c := ⟨⟨ad, z, get_set_same _ _ _, hrow.same (Same.set _ _ _) (fun q hq => by simp; rintro rfl; exact hL.ne hq)⟩, by simpa using hL.lt, hL.ne⟩
  have h1 := Two.stepA hR hO hB hL1 ((Same.set _ _ _).mono (by simp)) (fun q hq => .inl hq)
  obtain ⟨qs1, rs1, hL1, hR1, hO1, hB1⟩ := h1.ex
  obtain ⟨ad1, z1, hg1, hrow1⟩ := hR1.ex
  have hR2 : Ref (St.set _ b (.own ([Value.slice ad1 l.length z1, .int .i64 room, .bool cut].set 2 (.bool c)) 50)) b rs1 l room c := ⟨⟨ad1, z1, get_set_same _ _ _, hrow1.same (Same.set _ _ _) (fun q hq => by simp; rintro rfl; exact hR1.ne hq)⟩, by simpa using hR1.lt, hR1.ne⟩
  exact ⟨_, _, rfl, hB1, fun K => put_bool hg1 2 c (by simp) K, Two.stepB hL1 hO1 hB1 hR2 ⟨(Same.set _ _ _).mono (by simp), fun q hq => ⟨.inl hq, by simpa using hR1.lts q hq⟩⟩⟩
end

end Go.AM.Lp
