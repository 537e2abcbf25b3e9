/-
  THE ABSTRACT MACHINE IS SOUND, OPERATION BY OPERATION (third part): fields, elements, cuts, comparisons.
-/
import Derived.Test.YtiiophkfecpbfaaDoorAm3
set_option linter.unusedVariables false
set_option linter.unusedSimpArgs false
set_option linter.unusedSectionVars false
namespace Go.AM
open Go.RowKit
variable [Laid]

section
variable {P : Program} {o : Oper} {fr : Fr} {r : Value × St}

theorem op_field {x : Operand} {t : TypeId} {f : Nat} {K : Value → Res} (ho : o.op = .field t x f) (hx : okOpnd x = true)
    (h : opnd fr x (fun v => asAg v fun cs => fieldOf P t f fun off ft => aPart P ft cs off K) = some r) : ∃ v, K v = some r ∧ Reckons P o fr v := by
  obtain ⟨v, h1, hv⟩ := opnd_inv hx h
  obtain ⟨A, e1, h2⟩ := asAg_inv h1
  subst e1
  obtain ⟨fs, fd, hu, hfd, h3⟩ := fieldOf_inv h2
  have hs : ∀ t ∈ opT x, t ∈ slots o := by intro t ht; simp only [slots, ho, Op.operands]; simpa using ht
  obtain ⟨u, h4, hu4⟩ := part_inv h3
  refine ⟨u, h4, fun μ a w hf => ?_⟩
  obtain ⟨B, hB, hl⟩ := (hv μ a (slots o) hs hf).agg_inv
  obtain ⟨v', h5, h6⟩ := hu4 μ w B.toList hl
  exact ⟨v', by simpa [execOp, ho, hB, Instr.field, run_underlying hu, hfd, asAgg] using congrArg (fun x => x.andThen fun a w => Result.ok (Next.value a) w) h5, h6⟩

theorem op_indexAddr {x i : Operand} {t : TypeId} {K : Value → Res} (ho : o.op = .indexAddr t x i) (hx : okOpnd x = true) (hi : okOpnd i = true)
    (h : opnd fr x (fun v => opnd fr i fun j => aIndexAddr P t v j K) = some r) : ∃ v, K v = some r ∧ Reckons P o fr v := by
  obtain ⟨v, h1, hv⟩ := opnd_inv hx h
  obtain ⟨j, h2, hj⟩ := opnd_inv hi h1
  have hs : ∀ t ∈ opT x, t ∈ slots o := by intro t ht; simp only [slots, ho, Op.operands, List.flatMap_cons, List.flatMap_nil, List.append_nil, List.mem_append]; exact .inl ht
  have hs2 : ∀ t ∈ opT i, t ∈ slots o := by intro t ht; simp only [slots, ho, Op.operands, List.flatMap_cons, List.flatMap_nil, List.append_nil, List.mem_append]; exact .inr ht
  unfold aIndexAddr at h2
  split at h2
  · rename_i k n
    split at h2
    · rename_i e ad m z hu
      obtain ⟨hsz, h2'⟩ := need_inv h2
      obtain ⟨hb, h3⟩ := need_inv h2'
      obtain ⟨q, off, e1, h4⟩ := adr_inv h3
      subst e1
      have hr : 0 ≤ n ∧ n < (m : Int) := by simpa [inRange] using hb
      obtain ⟨ie, hie, hse⟩ := szOf_pos (P := P) (t := e) (by simpa using hsz)
      refine ⟨_, h4, fun μ a w hf => ?_⟩
      obtain ⟨p, o', c, hp, hg, hn, hc, hz, hm⟩ := (hv μ a (slots o) hs hf).sl_inv (by omega)
      have hgi := (hj μ a (slots o) hs2 hf).int_inv
      have hoff : o' = p.s + off := by rcases hc with hc | hc; omega; exact hc
      subst hoff
      refine ⟨.pointer (some ⟨p.b, p.s + (off + n.toNat * szOf P e), none⟩), ?_, .ptr hp⟩
      simp [execOp, ho, hg, hgi, Instr.indexAt, asIntOf, run_underlying hu, hr.1, hr.2, sizeOf, typeInfo, hie, hse, addr_add, Nat.add_assoc]
    · rename_i m e ad hu
      obtain ⟨hsz, h2'⟩ := need_inv h2
      obtain ⟨hb, h3⟩ := need_inv h2'
      obtain ⟨q, off, e1, h4⟩ := adr_inv h3
      subst e1
      have hr : 0 ≤ n ∧ n < (m : Int) := by simpa [inRange] using hb
      obtain ⟨ie, hie, hse⟩ := szOf_pos (P := P) (t := e) (by simpa using hsz)
      refine ⟨_, h4, fun μ a w hf => ?_⟩
      obtain ⟨p, hp, hg⟩ := (hv μ a (slots o) hs hf).ptr_inv
      have hgi := (hj μ a (slots o) hs2 hf).int_inv
      refine ⟨.pointer (some ⟨p.b, p.s + (off + n.toNat * szOf P e), none⟩), ?_, .ptr hp⟩
      simp [execOp, ho, hg, hgi, Instr.indexAt, Instr.sureAddr, asIntOf, run_underlying hu, hr.1, hr.2, sizeOf, typeInfo, hie, hse, addr_add, Nat.add_assoc]
    · cases h2
  · cases h2

theorem op_index {x i : Operand} {t : TypeId} {K : Value → Res} (ho : o.op = .index t x i) (hx : okOpnd x = true) (hi : okOpnd i = true)
    (h : opnd fr x (fun v => opnd fr i fun j => aIndex P t v j K) = some r) : ∃ v, K v = some r ∧ Reckons P o fr v := by
  obtain ⟨v, h1, hv⟩ := opnd_inv hx h
  obtain ⟨j, h2, hj⟩ := opnd_inv hi h1
  have hs : ∀ t ∈ opT x, t ∈ slots o := by intro t ht; simp only [slots, ho, Op.operands, List.flatMap_cons, List.flatMap_nil, List.append_nil, List.mem_append]; exact .inl ht
  have hs2 : ∀ t ∈ opT i, t ∈ slots o := by intro t ht; simp only [slots, ho, Op.operands, List.flatMap_cons, List.flatMap_nil, List.append_nil, List.mem_append]; exact .inr ht
  unfold aIndex at h2
  split at h2
  · rename_i k n
    split at h2
    · rename_i m e A hu
      obtain ⟨hsz, h2'⟩ := need_inv h2
      obtain ⟨hb, h3⟩ := need_inv h2'
      have hr : 0 ≤ n ∧ n < (m : Int) := by simpa [inRange] using hb
      obtain ⟨ie, hie, hse⟩ := szOf_pos (P := P) (t := e) (by simpa using hsz)
      obtain ⟨u, h4, hu4⟩ := part_inv h3
      refine ⟨u, h4, fun μ a w hf => ?_⟩
      obtain ⟨B, hB, hl⟩ := (hv μ a (slots o) hs hf).agg_inv
      have hgi := (hj μ a (slots o) hs2 hf).int_inv
      obtain ⟨v', h5, h6⟩ := hu4 μ w B.toList hl
      refine ⟨v', ?_, h6⟩
      simpa [execOp, ho, hB, hgi, Instr.index, asIntOf, run_underlying hu, hr.1, hr.2, sizeOf, typeInfo, hie, hse] using congrArg (fun x => x.andThen fun a w => Result.ok (Next.value a) w) h5
    · rename_i s hu
      obtain ⟨hb, h3⟩ := need_inv h2
      have hr : 0 ≤ n ∧ n < (s.size : Int) := by simpa [inRange] using hb
      refine ⟨_, h3, fun μ a w hf => ?_⟩
      have hg := (hv μ a (slots o) hs hf).string_inv
      have hgi := (hj μ a (slots o) hs2 hf).int_inv
      refine ⟨.int .u8 (s.data.toList.getD n.toNat 0).toNat, ?_, .int _ _⟩
      have hlt : n.toNat < s.size := by omega
      have hlt' : n.toNat < s.data.size := hlt
      have hget : s[n.toNat]? = some s[n.toNat] := ByteArray.getElem?_lt' s n.toNat hlt
      have hval : s.data.toList.getD n.toNat 0 = s[n.toNat] := by
        rw [List.getD_eq_getElem?_getD, Array.getElem?_toList, Array.getElem?_eq_getElem hlt']
        rfl
      rw [hval]
      simp [execOp, ho, hg, hgi, Instr.index, asIntOf, run_underlying hu, hr.1, hget]
    · cases h2
  · cases h2

theorem bound_inv {v : Option Value} {top d : Nat} {K : Nat → Res} (h : bound v top d K = some r) :
    ∃ n, K n = some r ∧ ((v = none ∧ n = d) ∨ ∃ k i, v = some (.int k i) ∧ 0 ≤ i ∧ i ≤ top ∧ n = i.toNat) := by
  unfold bound at h
  split at h
  · exact ⟨d, h, .inl ⟨rfl, rfl⟩⟩
  · rename_i k i
    obtain ⟨hb, h1⟩ := need_inv h
    have : 0 ≤ i ∧ i < (top : Int) + 1 := by simpa [inRange] using hb
    exact ⟨_, h1, .inr ⟨k, i, rfl, this.1, by omega, rfl⟩⟩
  · cases h

theorem optOpnd_inv {x : Option Operand} {K : Option Value → Res} (hx : x.toList.all okOpnd = true) (h : optOpnd fr x K = some r) :
    ∃ v, K v = some r ∧ ∀ (μ : Mp) (a : Act) (S : List Nat), (∀ t ∈ x.toList.flatMap opT, t ∈ S) → FrOn μ fr a S →
      (v = none ∧ x.map a.eval = none) ∨ (∃ u u', v = some u ∧ x.map a.eval = some u' ∧ VRel μ u u') := by
  cases x with
  | none => exact ⟨none, h, fun _ _ _ _ _ => .inl ⟨rfl, rfl⟩⟩
  | some x =>
    simp only [optOpnd] at h
    obtain ⟨v, h1, hv⟩ := opnd_inv (by simpa using hx) h
    exact ⟨some v, h1, fun μ a S hs hf => .inr ⟨v, a.eval x, rfl, rfl, hv μ a S (by simpa using hs) hf⟩⟩

/-- A bound that was let in is let in by the real machine, at any greater top. -/
theorem run_bound {v u : Option Value} {μ : Mp} {top top' d n : Nat} (w : World) (code : BoundsCode)
    (hv : (v = none ∧ u = none) ∨ (∃ x x', v = some x ∧ u = some x' ∧ VRel μ x x'))
    (h : (v = none ∧ n = d) ∨ ∃ k i, v = some (.int k i) ∧ 0 ≤ i ∧ i ≤ (top : Int) ∧ n = i.toNat) (ht : top ≤ top') :
    (u = none ∧ n = d) ∨ ∃ x, u = some x ∧ (Instr.sliceBound x top' code).run P w = .ok n w ∧ n ≤ top := by
  rcases h with ⟨h1, h2⟩ | ⟨k, i, h1, h2, h3, h4⟩
  · rcases hv with ⟨_, hu⟩ | ⟨x, x', hx, _⟩
    · exact .inl ⟨hu, h2⟩
    · rw [h1] at hx; cases hx
  · rcases hv with ⟨hn, _⟩ | ⟨x, x', hx, hu, hr⟩
    · rw [h1] at hn; cases hn
    · rw [h1] at hx
      cases hx
      have := hr.int_inv
      subst this
      refine .inr ⟨_, hu, ?_, by omega⟩
      rw [run_sliceBound w k i top' code h2 (by omega), h4]

theorem op_slice {x : Operand} {lo hi mx : Option Operand} {t : TypeId} {K : Value → Res} (ho : o.op = .slice t x lo hi mx) (hx : okOpnd x = true)
    (hlo : lo.toList.all okOpnd = true) (hhi : hi.toList.all okOpnd = true) (hmx : mx.toList.all okOpnd = true)
    (h : opnd fr x (fun v => optOpnd fr lo fun a => optOpnd fr hi fun b => optOpnd fr mx fun c => aSlice P t v a b c K) = some r) : ∃ v, K v = some r ∧ Reckons P o fr v := by
  obtain ⟨v, h1, hv⟩ := opnd_inv hx h
  obtain ⟨vl, h2, hvl⟩ := optOpnd_inv hlo h1
  obtain ⟨vh, h3, hvh⟩ := optOpnd_inv hhi h2
  obtain ⟨vm, h4, hvm⟩ := optOpnd_inv hmx h3
  have hsl : ∀ t, t ∈ opT x ∨ t ∈ lo.toList.flatMap opT ∨ t ∈ hi.toList.flatMap opT ∨ t ∈ mx.toList.flatMap opT → t ∈ slots o := by
    intro t ht
    simp only [slots, ho, Op.operands, Array.toList_append, List.flatMap_append, List.mem_append, List.flatMap_cons, List.flatMap_nil, List.append_nil]
    have e : ∀ z : Option Operand, z.toArray.toList = z.toList := fun z => by cases z <;> rfl
    simp only [e]
    rcases ht with h | h | h | h
    · exact .inl (.inl (.inl h))
    · exact .inl (.inl (.inr h))
    · exact .inl (.inr h)
    · exact .inr h
  unfold aSlice at h4
  split at h4
  · rename_i s hu
    split at h4
    · obtain ⟨nh, h5, hnh⟩ := bound_inv h4
      obtain ⟨nl, h6, hnl⟩ := bound_inv h5
      refine ⟨_, h6, fun μ a w hf => ?_⟩
      have hg := (hv μ a (slots o) (fun t ht => hsl t (.inl ht)) hf).string_inv
      have bl := hvl μ a (slots o) (fun t ht => hsl t (.inr (.inl ht))) hf
      have bh := hvh μ a (slots o) (fun t ht => hsl t (.inr (.inr (.inl ht)))) hf
      have bm := hvm μ a (slots o) (fun t ht => hsl t (.inr (.inr (.inr ht)))) hf
      have hm0 : mx.map a.eval = none := by rcases bm with ⟨_, h⟩ | ⟨_, _, h, _⟩; exact h; cases h
      have rh := run_bound (P := P) (top' := s.size) w .sliceAlen bh hnh (Nat.le_refl _)
      have rl := run_bound (P := P) (top' := nh) w .sliceB bl hnl (Nat.le_refl _)
      refine ⟨.string (s.extract nl nh), ?_, .string _⟩
      have hxe : (Instr.sliceAt t (.string s) (lo.map a.eval) (hi.map a.eval) none).run P w = .ok (.string (s.extract nl nh)) w := by
        rcases rh with ⟨e1, e2⟩ | ⟨y, e1, e2, e3⟩ <;> rcases rl with ⟨f1, f2⟩ | ⟨z, f1, f2, f3⟩
        · subst e2; subst f2; simp [Instr.sliceAt, Instr.slice, run_underlying hu, Instr.sliceBounds, e1, f1]
        · subst e2; simp [Instr.sliceAt, Instr.slice, run_underlying hu, Instr.sliceBounds, e1, f1, f2]
        · subst f2; simp [Instr.sliceAt, Instr.slice, run_underlying hu, Instr.sliceBounds, e1, f1, e2]
        · simp [Instr.sliceAt, Instr.slice, run_underlying hu, Instr.sliceBounds, e1, f1, e2, f2]
      simp [execOp, ho, hg, hm0, hxe]
    · cases h4
  · rename_i e ad n z hu
    obtain ⟨hmh, h4z⟩ := need_inv h4
    obtain ⟨hsz, h4a⟩ := need_inv h4z
    obtain ⟨hzb, h4b⟩ := need_inv h4a
    obtain ⟨nm, h5, hnm⟩ := bound_inv h4b
    obtain ⟨nh, h6, hnh⟩ := bound_inv h5
    obtain ⟨nl, h7, hnl⟩ := bound_inv h6
    obtain ⟨ie, hie, hse⟩ := szOf_pos (P := P) (t := e) (by simpa using hsz)
    have hz : z = 0 ∨ z = szOf P e := by
      have : Nat.beq z 0 = true ∨ Nat.beq z (szOf P e) = true := by simpa using hzb
      rcases this with h | h
      · exact .inl (Nat.eq_of_beq_eq_true h)
      · exact .inr (Nat.eq_of_beq_eq_true h)
    refine ⟨_, h7, fun μ a w hf => ?_⟩
    have bl := hvl μ a (slots o) (fun t ht => hsl t (.inr (.inl ht))) hf
    have bh := hvh μ a (slots o) (fun t ht => hsl t (.inr (.inr (.inl ht)))) hf
    have bm := hvm μ a (slots o) (fun t ht => hsl t (.inr (.inr (.inr ht)))) hf
    have hv' := hv μ a (slots o) (fun t ht => hsl t (.inl ht)) hf
    have main : ∀ (b : Option Addr) (c : Nat), n ≤ c → ∃ M, nm ≤ M ∧ M ≤ c ∧ nh ≤ nm ∧ nl ≤ nh ∧
        (Instr.sliceAt t (.slice b n c) (lo.map a.eval) (hi.map a.eval) (mx.map a.eval)).run P w = .ok (.slice (if M = nl then b else b.map (·.add (nl * szOf P e))) (nh - nl) (M - nl)) w := by
      intro b c hnc
      have rl := run_bound (P := P) (top' := nh) w .sliceB bl hnl (Nat.le_refl _)
      have rl3 := run_bound (P := P) (top' := nh) w .slice3C bl hnl (Nat.le_refl _)
      have hnl' : nl ≤ nh := by rcases rl with ⟨_, e2⟩ | ⟨_, _, _, e3⟩ <;> omega
      have rm := run_bound (P := P) (top' := c) w .slice3Acap bm hnm hnc
      rcases rm with ⟨m1, m2⟩ | ⟨ym, m1, m2, m3⟩
      · have rh := run_bound (P := P) (top' := c) w .sliceAcap bh hnh (by omega)
        refine ⟨c, by omega, Nat.le_refl _, by rcases rh with ⟨_, e2⟩ | ⟨_, _, _, e3⟩ <;> omega, hnl', ?_⟩
        rcases rh with ⟨e1, e2⟩ | ⟨y, e1, e2, e3⟩ <;> rcases rl with ⟨f1, f2⟩ | ⟨z', f1, f2, f3⟩
        · subst e2; subst f2; simp [Instr.sliceAt, Instr.slice, run_underlying hu, Instr.sliceBounds, m1, e1, f1, sizeOf, typeInfo, hie, hse]
        · subst e2; simp [Instr.sliceAt, Instr.slice, run_underlying hu, Instr.sliceBounds, m1, e1, f1, f2, sizeOf, typeInfo, hie, hse]
        · subst f2; simp [Instr.sliceAt, Instr.slice, run_underlying hu, Instr.sliceBounds, m1, e1, f1, e2, sizeOf, typeInfo, hie, hse]
        · simp [Instr.sliceAt, Instr.slice, run_underlying hu, Instr.sliceBounds, m1, e1, f1, e2, f2, sizeOf, typeInfo, hie, hse]
      · have rh := run_bound (P := P) (top' := nm) w .slice3B bh hnh (Nat.le_refl _)
        have hvm' : ∃ x, vm = some x := by
          rcases bm with ⟨_, e⟩ | ⟨x, _, e, _, _⟩
          · rw [e] at m1; cases m1
          · exact ⟨x, e⟩
        obtain ⟨xm, hxm⟩ := hvm'
        rcases rh with ⟨e1, e2⟩ | ⟨y, e1, e2, e3⟩
        · exfalso
          rcases bh with ⟨e, _⟩ | ⟨x, x', e, e', _⟩
          · rw [hxm, e] at hmh; simp at hmh
          · rw [e1] at e'; cases e'
        · refine ⟨nm, Nat.le_refl _, by omega, e3, hnl', ?_⟩
          rcases rl3 with ⟨f1, f2⟩ | ⟨z', f1, f2, f3⟩
          · subst f2; simp [Instr.sliceAt, Instr.slice, run_underlying hu, Instr.sliceBounds, m1, m2, e1, f1, e2, sizeOf, typeInfo, hie, hse]
          · simp [Instr.sliceAt, Instr.slice, run_underlying hu, Instr.sliceBounds, m1, m2, e1, f1, e2, f2, sizeOf, typeInfo, hie, hse]
    rcases hv'.slice_inv with ⟨e1, e2, e3, e4⟩ | ⟨q, off, p, o', c, sp, e1, hp, e4, hn, hc, hzz, hm, hsp⟩
    · subst e1; subst e2; subst e3
      obtain ⟨M, h8, h9, h10, h11, h12⟩ := main none 0 (Nat.le_refl _)
      have z1 : M = 0 := by omega
      have z2 : nh = 0 := by omega
      have z3 : nl = 0 := by omega
      subst z1; subst z2; subst z3
      refine ⟨.slice none 0 0, ?_, .sl0⟩
      simp at h12
      simp [execOp, ho, e4, h12]
    · subst e1
      obtain ⟨M, h8, h9, h10, h11, h12⟩ := main (some ⟨p.b, o', sp⟩) c hn
      refine ⟨_, by simp only [execOp, ho, e4, Sem.run_bind, h12, Result.andThen_ok, Sem.run_pure]; rfl, ?_⟩
      simp only [subA]
      by_cases hMn : M = nl
      · rw [if_pos hMn]
        refine .slw hp (by omega) (.inl (by omega)) ?_ (by omega) (hsp.imp id (fun h => by omega))
        rcases hzz with h | h
        · exact .inl h
        · refine .inr ?_
          have : (M - nl) * z = 0 := by rw [show M - nl = 0 by omega, Nat.zero_mul]
          rw [this]
          have := Nat.zero_le (c * z)
          omega
      · rw [if_neg hMn]
        have hsp0 : sp = none := by rcases hsp with h | h; exact h; omega
        subst hsp0
        simp only [Option.map_some, addr_add]
        have hc0 : o' = p.s + off := by rcases hc with h | h; omega; exact h
        refine .sl hp (by omega) (.inr (by rw [hc0]; omega)) ?_ (by omega)
        rcases hz with h | h
        · exact .inl h
        · rcases hzz with h' | h'
          · exact .inl h'
          · refine .inr ?_
            subst h
            have e5 : nl * szOf P e + (M - nl) * szOf P e = M * szOf P e := by rw [← Nat.add_mul]; congr 1; omega
            have e6 : M * szOf P e ≤ c * szOf P e := Nat.mul_le_mul_right _ h9
            omega
  · rename_i n e ad hu
    split at h4
    · obtain ⟨hsz, h4z⟩ := need_inv h4
      obtain ⟨htop, h4a⟩ := need_inv h4z
      have htop1 : n ≤ sizeTop := of_decide_eq_true htop
      have htop' : n ≤ maxLen := by unfold sizeTop at htop1; unfold maxLen; omega
      obtain ⟨q, off, e1, h4b⟩ := adr_inv h4a
      subst e1
      obtain ⟨nh, h6, hnh⟩ := bound_inv h4b
      obtain ⟨nl, h7, hnl⟩ := bound_inv h6
      obtain ⟨ie, hie, hse⟩ := szOf_pos (P := P) (t := e) (by simpa using hsz)
      refine ⟨_, h7, fun μ a w hf => ?_⟩
      have bl := hvl μ a (slots o) (fun t ht => hsl t (.inr (.inl ht))) hf
      have bh := hvh μ a (slots o) (fun t ht => hsl t (.inr (.inr (.inl ht)))) hf
      have bm := hvm μ a (slots o) (fun t ht => hsl t (.inr (.inr (.inr ht)))) hf
      obtain ⟨p, hp, hg⟩ := (hv μ a (slots o) (fun t ht => hsl t (.inl ht)) hf).ptr_inv
      have hm0 : mx.map a.eval = none := by rcases bm with ⟨_, h⟩ | ⟨_, _, h, _⟩; exact h; cases h
      have rh := run_bound (P := P) (top' := n) w .sliceAlen bh hnh (Nat.le_refl _)
      have rl := run_bound (P := P) (top' := nh) w .sliceB bl hnl (Nat.le_refl _)
      have hnl' : nl ≤ nh := by rcases rl with ⟨_, e2⟩ | ⟨_, _, _, e3⟩ <;> omega
      have hnh' : nh ≤ n := by rcases rh with ⟨_, e2⟩ | ⟨_, _, _, e3⟩ <;> omega
      have hxe : (Instr.sliceAt t (.pointer (some ⟨p.b, p.s + off, none⟩)) (lo.map a.eval) (hi.map a.eval) none).run P w =
          .ok (.slice (some (if n = nl then ⟨p.b, p.s + off, none⟩ else ⟨p.b, p.s + off + nl * szOf P e, none⟩)) (nh - nl) (n - nl)) w := by
        rcases rh with ⟨e1, e2⟩ | ⟨y, e1, e2, e3⟩ <;> rcases rl with ⟨f1, f2⟩ | ⟨z, f1, f2, f3⟩
        · subst e2; subst f2; simp [Instr.sliceAt, Instr.sureAddr, run_underlying hu, Instr.sliceBounds, e1, f1, sizeOf, typeInfo, hie, hse, addr_add]
        · subst e2; simp [Instr.sliceAt, Instr.sureAddr, run_underlying hu, Instr.sliceBounds, e1, f1, f2, sizeOf, typeInfo, hie, hse, addr_add]
        · subst f2; simp [Instr.sliceAt, Instr.sureAddr, run_underlying hu, Instr.sliceBounds, e1, f1, e2, sizeOf, typeInfo, hie, hse, addr_add]
        · simp [Instr.sliceAt, Instr.sureAddr, run_underlying hu, Instr.sliceBounds, e1, f1, e2, f2, sizeOf, typeInfo, hie, hse, addr_add]
      refine ⟨_, by simp only [execOp, ho, hg, hm0, Sem.run_bind, hxe, Result.andThen_ok, Sem.run_pure]; rfl, ?_⟩
      by_cases hMn : n = nl
      · rw [if_pos hMn]
        exact .sl hp (by omega) (.inl (by omega)) (.inl rfl) (by omega)
      · rw [if_neg hMn]
        exact .sl hp (by omega) (.inr (by omega)) (.inl rfl) (by omega)
    · cases h4
  · cases h4

end
end Go.AM
