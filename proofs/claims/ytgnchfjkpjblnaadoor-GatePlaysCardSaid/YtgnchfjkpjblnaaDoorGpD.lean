/-
  GatePlays: what a script's elements say; calls of the document's type; what follows a call.
-/
import Derived.Test.YtgnchfjkpjblnaaDoorGpC
import Derived.Test.YtgnchfjkpjblnaaDoorAm22
set_option linter.unusedVariables false
set_option linter.unusedSimpArgs false
set_option linter.unusedSectionVars false
namespace Go.AM.Gp
open Go.Proofs Go.RowKit

structure Op where
  kind : Small
  round : Small
  ticks : Small
  id : Small
  block : Small
  data : { s : ByteArray // s.size ≤ maxLen }
def c6 (o : Op) : List Value := [.int .i64 o.kind.1, .int .i64 o.round.1, .int .i64 o.ticks.1, .int .i64 o.id.1, .int .i64 o.block.1, .string o.data.1]

set_option maxRecDepth 20000 in
theorem calOf' {σ : St} {t : TypeId} {row : List Value} {fs : Array Field} (hu : Tryd.prog.underlying t = some (.struct fs)) (hf : fs.toList.map (fun f => (f.type, f.offset)) = [(3, 0), (3, 1), (9, 2)]) (hc : Tryd.prog.cellsOf t = 3) (h : Img Tryd.prog σ t row) : ∃ (x y : Small) (d : { s : ByteArray // s.size ≤ maxLen }), row = [.int .i64 x.1, .int .i64 y.1, .string d.1] := by
  obtain ⟨h1, h2⟩ := h.struct_inv hu
  have hl : row.length = 3 := by rw [h1, hc]
  have e3 : Tryd.prog.cellsOf 3 = 1 := by kernel_rfl
  have e9 : Tryd.prog.cellsOf 9 = 1 := by kernel_rfl
  have pick : ∀ (i t o : Nat), [(3, 0), (3, 1), (9, 2)][i]? = some (t, o) → Img Tryd.prog σ t ((row.drop o).take (Tryd.prog.cellsOf t)) := by
    intro i t o hi
    rw [← hf, List.getElem?_map] at hi
    cases hg : fs.toList[i]? with
    | none => rw [hg] at hi; cases hi
    | some f =>
      rw [hg] at hi
      simp only [Option.map_some, Option.some.injEq, Prod.mk.injEq] at hi
      have := h2 f (List.mem_of_getElem? hg)
      rw [hi.1, hi.2] at this
      exact this
  match row, hl with
  | [x, y, s], _ =>
    have hx := pick 0 3 0 rfl
    have hy := pick 1 3 1 rfl
    have hs := pick 2 9 2 rfl
    simp only [e3] at hx hy
    simp only [e9] at hs
    obtain ⟨n0, w0, v0⟩ := Img.int_inv Tryd.underlying3 hx
    obtain ⟨n1, w1, v1⟩ := Img.int_inv Tryd.underlying3 hy
    obtain ⟨t, w3, v3⟩ := Img.str_inv Tryd.underlying9 hs
    simp at w0 w1 w3
    exact ⟨⟨n0, wf_i64 v0⟩, ⟨n1, wf_i64 v1⟩, ⟨t, v3⟩, by rw [w0, w1, w3]⟩

set_option maxRecDepth 20000 in
theorem opOf {σ : St} {row : List Value} (h : Img Tryd.prog σ 48 row) : ∃ o : Op, row = c6 o := by
  obtain ⟨h1, h2⟩ := h.struct_inv Tryd.underlying48
  have hl : row.length = 6 := by rw [h1]; kernel_rfl
  match row, hl with
  | [x, y, z, r0, r1, r2], _ =>
    have hx := h2 _ (List.mem_of_getElem? (i := 0) rfl)
    have hy := h2 _ (List.mem_of_getElem? (i := 1) rfl)
    have hz := h2 _ (List.mem_of_getElem? (i := 2) rfl)
    have hr := h2 _ (List.mem_of_getElem? (i := 3) rfl)
    have e3 : Tryd.prog.cellsOf 3 = 1 := by kernel_rfl
    have e46 : Tryd.prog.cellsOf 46 = 3 := by kernel_rfl
    simp only [e3] at hx hy hz
    simp only [e46] at hr
    obtain ⟨n0, w0, v0⟩ := Img.int_inv Tryd.underlying3 hx
    obtain ⟨n1, w1, v1⟩ := Img.int_inv Tryd.underlying3 hy
    obtain ⟨n2, w2, v2⟩ := Img.int_inv Tryd.underlying3 hz
    obtain ⟨i, b, d, w3⟩ := calOf' Tryd.underlying46 (by kernel_rfl) (by kernel_rfl) hr
    simp at w0 w1 w2 w3
    obtain ⟨a0, a1, a2⟩ := w3
    exact ⟨⟨⟨n0, wf_i64 v0⟩, ⟨n1, wf_i64 v1⟩, ⟨n2, wf_i64 v2⟩, i, b, d⟩, by rw [w0, w1, w2, a0, a1, a2]; rfl⟩

theorem few_loop (L k : Nat) {σ0 σ : St} {ad : Option Addr} {l : List Op} (hl : l.length ≤ 300) (hH : Holds σ0 6 c6 ad l) (hK : Kept' σ0.next σ0 σ) : ∀ (n i : Nat), i ≤ l.length → l.length - i < n →
    ∃ b, lpAt Tryd.prog env L k 13 [true, true, false, true] [] n [(0, .slice ad l.length 0), (8, .int .i64 l.length), (9, .int .i64 i)] σ = some (.bool b, σ)
  | 0, i, _, h => by omega
  | n + 1, i, h1, h2 => by
    rw [f13_l4]
    by_cases hi : i = l.length
    · rw [decide_eq_false (by omega), br_false]; exact ⟨true, rfl⟩
    · have hget : l[i]? = some l[i] := List.getElem?_eq_getElem (by omega)
      obtain ⟨q0, e0, hat⟩ := hH.ld hK hget
      generalize l[i] = o at hat
      rw [decide_eq_true (by omega), br_true, need_of (by simp [inRange]; omega), e0, adr_some, hat 5 (.string o.data.1) _ (by omega) rfl (by omega), asS_s]
      by_cases hc : ((o.data.1.size : Int)) > 200
      · rw [decide_eq_true hc, br_true]; exact ⟨false, rfl⟩
      · rw [decide_eq_false hc, br_false, wrap_in _ (by omega) (by omega), ← e0]
        exact few_loop L k hl hH hK n (i + 1) (by omega) (by omega)

theorem few_spec (L k : Nat) (hL : 400 < L) {σ0 σ : St} {ad : Option Addr} {l : List Op} (hH : Holds σ0 6 c6 ad l) (hK : Kept' σ0.next σ0 σ) :
    ∃ b, evCall Tryd.prog env L (k + 1) 13 [.slice ad l.length 0] σ = some (.bool b, σ) ∧ (b = true → l.length ≤ 300) := by
  rw [f13_eq]
  by_cases h : (l.length : Int) > 300
  · rw [decide_eq_true h, br_true]; exact ⟨false, rfl, by simp⟩
  · rw [decide_eq_false h, br_false]
    obtain ⟨b, hb⟩ := few_loop L k (by omega) hH hK L 0 (by omega) (by omega)
    exact ⟨b, hb, fun _ => by omega⟩

theorem conv_spec (L k : Nat) {σs : St} {ad0 : Option Addr} {z0 : Nat} {qs : List Nat} {l : List Cal} (h0 : Row c3 3 56 σs ad0 z0 qs l) (hl : l.length ≤ 1000000) (hL : l.length < L) :
    ∃ ad z rs σ', evCall Tryd.prog env L (k + 1) 17 [.slice ad0 l.length z0] σs = some (.slice ad l.length z, σ') ∧ Row c3 3 46 σ' ad z rs l ∧ Same σs σ' [] ∧ ∀ q ∈ rs, σs.next ≤ q := by
  have loop : ∀ (n i : Nat) (σ : St) (ad : Option Addr) (z : Nat) (rs : List Nat), i ≤ l.length → l.length - i < n → Same σs σ [] → Row c3 3 46 σ ad z rs (l.take i) → (∀ q ∈ rs, σs.next ≤ q) →
      ∃ ad' z' rs' σ', lpAt Tryd.prog env L k 17 [true, true, false, true] [] n [(0, .slice ad0 l.length z0), (3, .slice ad i z), (6, .int .i64 l.length), (7, .int .i64 i)] σ = some (.slice ad' l.length z', σ') ∧ Row c3 3 46 σ' ad' z' rs' l ∧ Same σs σ' [] ∧ ∀ q ∈ rs', σs.next ≤ q := by
    intro n
    induction n with
    | zero => intro i σ ad z rs _ h; omega
    | succ n ih =>
      intro i σ ad z rs hi hn hs hR hq
      rw [f17_l3]
      by_cases hie : i = l.length
      · subst hie
        rw [decide_eq_false (by omega), br_false]
        exact ⟨ad, z, rs, σ, rfl, by simpa using hR, hs, hq⟩
      · have hget : l[i]? = some l[i] := List.getElem?_eq_getElem (by omega)
        obtain ⟨p, e, hlds⟩ := (h0.same hs (by simp)).lds c3_len hget
        have hti : (l.take i).length = i := by rw [List.length_take]; omega
        rw [decide_eq_true (by omega), br_true, need_of (by simp [inRange]; omega), e, adr_some, hlds _ (by simp), show c3 l[i] = [.int .i64 l[i].id, .int .i64 l[i].block, .string l[i].data] from rfl, uncons_c, asI_i, uncons_c, asI_i, uncons_c, asS_s, endl_n]
        generalize hσ2 : σ.new (Blk.own [Value.int IntKind.i64 l[i].id, Value.int IntKind.i64 l[i].block, Value.string l[i].data] 46) = σ2
        have hnew : σ2.get σ.next = some (Blk.own [Value.int IntKind.i64 l[i].id, Value.int IntKind.i64 l[i].block, Value.string l[i].data] 46) := by rw [← hσ2, get_new_same]
        have hs2 : Same σ σ2 [] := by rw [← hσ2]; exact Same.new _ _ _
        rw [row_all (n := 3) hnew rfl (by omega)]
        obtain ⟨ad', z', rs', σ3, hgrow, hrow3, hs3, hq3⟩ := grow_row (by_ := 32) (hR.same hs2 (by simp)) c3_len c3_one (by omega) [l[i]] [Value.int IntKind.i64 l[i].id, Value.int IntKind.i64 l[i].block, Value.string l[i].data] rfl 1 rfl (by unfold roomTop; omega) (by unfold sizeTop; omega)
        rw [hti] at hgrow
        rw [List.take_append_getElem] at hrow3
        rw [hgrow, wrap_in ((i : Int) + 1) (by omega) (by omega), ← e]
        have hs03 : Same σs σ3 [] := (hs.trans hs2).fresh hs3 (fun q hq' => .inr (hq q hq'))
        exact ih (i + 1) σ3 ad' z' rs' (by omega) (by omega) hs03 hrow3 (fun q hq' => by
          rcases hq3 q hq' with h | h
          · exact hq q h
          · have := (hs.trans hs2).1; omega)
  rw [f17_eq]
  exact loop L 0 σs none 0 [] (by omega) (by omega) (Same.refl _ _) (Row.nil _ _ _ _) (by simp)

theorem same_calls (L k : Nat) {σ : St} {e1 e2 : TypeId} {ad1 ad2 : Option Addr} {z1 z2 : Nat} {q1 q2 : List Nat} {l : List Cal} (h1 : Row c3 3 e1 σ ad1 z1 q1 l) (h2 : Row c3 3 e2 σ ad2 z2 q2 l) (hl : l.length ≤ 1000000) (hL : l.length < L) :
    evCall Tryd.prog env L (k + 1) 16 [.slice ad1 l.length z1, .slice ad2 l.length z2] σ = some (.bool true, σ) := by
  have loop : ∀ (n i : Nat), i ≤ l.length → l.length - i < n → lpAt Tryd.prog env L k 16 [true, true, false, true] [] n [(0, .slice ad1 l.length z1), (1, .slice ad2 l.length z2), (12, .int .i64 l.length), (13, .int .i64 i)] σ = some (.bool true, σ) := by
    intro n
    induction n with
    | zero => intro i _ h; omega
    | succ n ih =>
      intro i hi hn
      rw [f16_l4]
      by_cases hie : i = l.length
      · rw [decide_eq_false (by omega), br_false]
      · have hget : l[i]? = some l[i] := List.getElem?_eq_getElem (by omega)
        obtain ⟨p1, e1', r1⟩ := h1.lds c3_len hget
        obtain ⟨p2, e2', r2⟩ := h2.lds c3_len hget
        have hb : (!(l[i].id == l[i].id && (l[i].block == l[i].block && (l[i].data == l[i].data && true)))) = false := by rw [beq_toListBytes]; simp
        rw [decide_eq_true (by omega), br_true, need_of (by simp [inRange]; omega), e1', adr_some, r1 _ (by simp), show c3 l[i] = [.int .i64 l[i].id, .int .i64 l[i].block, .string l[i].data] from rfl, uncons_c, asI_i, uncons_c, asI_i, uncons_c, asS_s, endl_n,
          need_of (by simp [inRange]; omega), e2', adr_some, r2 _ (by simp), show c3 l[i] = [.int .i64 l[i].id, .int .i64 l[i].block, .string l[i].data] from rfl, uncons_c, asI_i, uncons_c, asI_i, uncons_c, asS_s, endl_n, hb, br_false, wrap_in ((i : Int) + 1) (by omega) (by omega), ← e1', ← e2']
        exact ih (i + 1) (by omega) (by omega)
  rw [f16_eq, show (((l.length : Nat) : Int) != (l.length : Int)) = false by simp, br_false]
  exact loop L 0 (by omega) (by omega)

theorem known_all (L k : Nat) (σ : St) {c : Int} (hc : c = 1 ∨ c = 7 ∨ c = 9 ∨ c = 10) : evCall Tryd.prog env L (k + 1) 22 [.int .i64 c] σ = some (.bool true, σ) := by
  rcases hc with rfl | rfl | rfl | rfl <;> rw [f22_eq] <;> rfl

/-- What follows a call in GatePlays. -/
noncomputable def tl (L k n : Nat) (st : St) (er : Value) (f at_ : Int) (s0 : Option Addr) (s0n s0z s5 o5 s6 o6 : Nat) (s37 s38 : Int) : Res := AM.bnd (AM.evCall Proofs.Tryd.prog AM.Gp.env L k 21 [er, Value.string { data := #[(103 : UInt8), (97 : UInt8), (116 : UInt8), (101 : UInt8)] }] st) fun v44 v45 => AM.asT v44 fun v46 => AM.uncons v46 fun v47 v48 => AM.asI IntKind.i64 v47 fun v49 => AM.uncons v48 fun v50 v51 => AM.asB v50 fun v52 => AM.endl v51 (AM.bnd (AM.evCall Proofs.Tryd.prog AM.Gp.env L k 11 [er] v45) fun v53 v54 => AM.asI IntKind.i64 v53 fun v55 => AM.br (v55 != f) (some (Value.bool false, v54)) (AM.br (!v52 == (f != (0 : Int))) (some (Value.bool false, v54)) (AM.br v52 (AM.br (v49 != at_) (some (Value.bool false, v54)) (AM.bnd (AM.evCall Proofs.Tryd.prog AM.Gp.env L k 11 [er] v54) fun v56 v57 => AM.asI IntKind.i64 v56 fun v58 => AM.bnd (AM.evCall Proofs.Tryd.prog AM.Gp.env L k 22 [Value.int IntKind.i64 v58] v57) fun v59 v60 => AM.asB v59 fun v61 => AM.br (!v61) (some (Value.bool false, v60)) (AM.bnd (AM.evCall Proofs.Tryd.prog AM.Gp.env L k 12 [Value.pointer (some { block := s5, off := o5 })] v60) fun v62 v63 => AM.asI IntKind.i64 v62 fun v64 => AM.St.ld v63 s6 (o6 + 0) fun v65 => AM.asI IntKind.i64 v65 fun v66 => AM.St.ld v60 s6 (o6 + 0) fun v67 => AM.asI IntKind.i64 v67 fun v68 => AM.chk (Value.int IntKind.i64 v68) (Value.int IntKind.i64 v66) (AM.br (v64 != v66) (some (Value.bool false, v63)) (AM.bnd (AM.evCall Proofs.Tryd.prog AM.Gp.env L k 23 [Value.pointer (some { block := s5, off := o5 })] v63) fun v69 v70 => AM.asI IntKind.i64 v69 fun v71 => AM.St.ld v70 s6 (o6 + 3) fun v72 => AM.asSl v72 fun v73 v74 v75 => AM.St.ld v63 s6 (o6 + 3) fun v76 => AM.asSl v76 fun v77 v78 v79 => AM.chk (Value.slice v77 v78 v79) (Value.slice v73 v74 v75) (AM.br (v71 != (↑v74 : Int)) (some (Value.bool false, v70)) (AM.lpAt Proofs.Tryd.prog AM.Gp.env L k 4 [true, true, true, true, false, true] [] n [(0, Value.slice s0 s0n s0z), (5, Value.pointer (some { block := s5, off := o5 })), (6, Value.pointer (some { block := s6, off := o6 })), (37, Value.int IntKind.i64 s37), (38, Value.int IntKind.i64 (IntKind.wrap IntKind.i64 (s38 + (1 : Int))))] v70))))))) (AM.bnd (AM.evCall Proofs.Tryd.prog AM.Gp.env L k 12 [Value.pointer (some { block := s5, off := o5 })] v54) fun v80 v81 => AM.asI IntKind.i64 v80 fun v82 => AM.St.ld v81 s6 (o6 + 0) fun v83 => AM.asI IntKind.i64 v83 fun v84 => AM.St.ld v54 s6 (o6 + 0) fun v85 => AM.asI IntKind.i64 v85 fun v86 => AM.chk (Value.int IntKind.i64 v86) (Value.int IntKind.i64 v84) (AM.br (v82 != v84) (some (Value.bool false, v81)) (AM.bnd (AM.evCall Proofs.Tryd.prog AM.Gp.env L k 23 [Value.pointer (some { block := s5, off := o5 })] v81) fun v87 v88 => AM.asI IntKind.i64 v87 fun v89 => AM.St.ld v88 s6 (o6 + 3) fun v90 => AM.asSl v90 fun v91 v92 v93 => AM.St.ld v81 s6 (o6 + 3) fun v94 => AM.asSl v94 fun v95 v96 v97 => AM.chk (Value.slice v95 v96 v97) (Value.slice v91 v92 v93) (AM.br (v89 != (↑v92 : Int)) (some (Value.bool false, v88)) (AM.lpAt Proofs.Tryd.prog AM.Gp.env L k 4 [true, true, true, true, false, true] [] n [(0, Value.slice s0 s0n s0z), (5, Value.pointer (some { block := s5, off := o5 })), (6, Value.pointer (some { block := s6, off := o6 })), (37, Value.int IntKind.i64 s37), (38, Value.int IntKind.i64 (IntKind.wrap IntKind.i64 (s38 + (1 : Int))))] v88))))))))

end Go.AM.Gp
