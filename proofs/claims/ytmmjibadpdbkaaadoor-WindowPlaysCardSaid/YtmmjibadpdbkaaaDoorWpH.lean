/-
  WindowPlays, in plain words.
-/
import Derived.Test.YtmmjibadpdbkaaaDoorWpG
set_option linter.unusedVariables false
set_option linter.unusedSimpArgs false
set_option linter.unusedSectionVars false
namespace Go.AM.Wp.S
open Go.Proofs Go.RowKit

/-- What follows a call in WindowPlays. -/
noncomputable def tl (L k n : Nat) (st : St) (s0 : Option Addr) (s0n s0z s3 o3 s4 o4 s5 o5 : Nat) (s6 : Option Addr) (s6n s6z : Nat) (s30 s31 : Int) : Res := AM.bnd (AM.evCall Proofs.Tryd.prog AM.Wp.env L k 7 [Value.pointer (some { block := s3, off := o3 })] st) fun v83 v84 => AM.asT v83 fun v85 => AM.uncons v85 fun v86 v87 => AM.asI IntKind.i64 v86 fun v88 => AM.uncons v87 fun v89 v90 => AM.asI IntKind.i64 v89 fun v91 => AM.uncons v90 fun v92 v93 => AM.asI IntKind.i64 v92 fun v94 => AM.endl v93 (AM.St.ld v84 s4 (o4 + 0) fun v95 => AM.asSl v95 fun v96 v97 v98 => AM.br (v88 != (↑v97 : Int)) (some (Value.bool false, v84)) (AM.St.ld v84 s4 (o4 + 1) fun v99 => AM.asI IntKind.i64 v99 fun v100 => AM.br (v91 != v100) (some (Value.bool false, v84)) (AM.St.ld v84 s4 (o4 + 2) fun v101 => AM.asI IntKind.i64 v101 fun v102 => AM.br (v94 != v102) (some (Value.bool false, v84)) (AM.bnd (AM.evCall Proofs.Tryd.prog AM.Wp.env L k 13 [Value.pointer (some { block := s5, off := o5 })] v84) fun v103 v104 => AM.asSl v103 fun v105 v106 v107 => AM.bnd (AM.evCall Proofs.Tryd.prog AM.Wp.env L k 21 [Value.slice v105 v106 v107, Value.slice s6 s6n s6z] v104) fun v108 v109 => AM.asB v108 fun v110 => AM.br (!v110) (some (Value.bool false, v109)) (AM.lpAt Proofs.Tryd.prog AM.Wp.env L k 4 [true, true, true, true, true, false, true] [] n [(0, Value.slice s0 s0n s0z), (3, Value.pointer (some { block := s3, off := o3 })), (4, Value.pointer (some { block := s4, off := o4 })), (5, Value.pointer (some { block := s5, off := o5 })), (6, Value.slice s6 s6n s6z), (30, Value.int IntKind.i64 s30), (31, Value.int IntKind.i64 (IntKind.wrap IntKind.i64 (s31 + (1 : Int))))] v109)))))

structure Op where
  kind : Int
  n : Int
  s : ByteArray
def c3w (o : Op) : List Value := [.int .i64 o.kind, .int .i64 o.n, .string o.s]
theorem c3w_len (o : Op) : (c3w o).length = 3 := rfl

structure W4 (σ0 σ : St) (a b c t : Nat) (B : Blk) (ad : Option Addr) (z : Nat) (l : List ByteArray) (sent acked : Nat) (took : List ByteArray) : Prop where
  ex : ∃ qa qb qc q9, Send σ a qa l sent acked ∧ RSend σ b qb l sent acked ∧ Recv σ c qc took ∧ Row cS 1 9 σ ad z q9 took ∧ Owns σ0 σ [a :: qa, b :: qb, c :: qc, q9, [t]] ∧ σ.get t = some B
  h1 : sent ≤ l.length
  h2 : acked ≤ sent

section
variable {σ0 σ σ' : St} {a b c t : Nat} {B : Blk} {ad : Option Addr} {z : Nat} {l took : List ByteArray} {sent acked : Nat}
theorem W4.idle (h : W4 σ0 σ a b c t B ad z l sent acked took) (hs : Same σ σ' []) : W4 σ0 σ' a b c t B ad z l sent acked took := by
  obtain ⟨qa, qb, qc, q9, hA, hb, hC, hR, hO, hB⟩ := h.ex
  exact ⟨⟨qa, qb, qc, q9, hA.same hs (by simp) (by simp), hb.same hs (by simp) (by simp), hC.same hs (by simp) (by simp), hR.same hs (by simp), hO.idle hs, by rw [hs.2 t (hO.lt 4 rfl t (by simp)) (by simp)]; exact hB⟩, h.h1, h.h2⟩
theorem W4.ldb (h : W4 σ0 σ a b c t B ad z l sent acked took) : ∃ ad1 z1, (∀ K : Value → Res, σ.ld b (0 + 0) K = K (.slice ad1 l.length z1)) ∧ (∀ K : Value → Res, σ.ld b (0 + 1) K = K (.int .i64 sent)) ∧ (∀ K : Value → Res, σ.ld b (0 + 2) K = K (.int .i64 acked)) := by
  obtain ⟨qa, qb, qc, q9, hA, hb, hC, hR, hO, hB⟩ := h.ex
  obtain ⟨ad1, z1, hg, _⟩ := hb.ex
  exact ⟨ad1, z1, fun K => ld_own K hg rfl, fun K => ld_own K hg rfl, fun K => ld_own K hg rfl⟩

theorem tl_ok (L k n : Nat) (hL : 1000 < L) (hl : l.length ≤ 900) (ht : took.length ≤ 900) (h : W4 σ0 σ a b c t B ad z l sent acked took) (s0 : Option Addr) (s0n s0z : Nat) (s30 s31 : Int) :
    ∃ σ', W4 σ0 σ' a b c t B ad z l sent acked took ∧ tl L (k + 2) n σ s0 s0n s0z a 0 b 0 c 0 ad took.length z s30 s31 = lpAt Tryd.prog env L (k + 2) 4 [true, true, true, true, true, false, true] [] n [(0, .slice s0 s0n s0z), (3, .pointer (some ⟨a, 0, none⟩)), (4, .pointer (some ⟨b, 0, none⟩)), (5, .pointer (some ⟨c, 0, none⟩)), (6, .slice ad took.length z), (30, .int .i64 s30), (31, .int .i64 (IntKind.wrap .i64 (s31 + 1)))] σ' := by
  obtain ⟨qa, qb, qc, q9, hA, hb, hC, hR, hO, hB⟩ := h.ex
  obtain ⟨ad1, z1, e1, e2, e3⟩ := h.ldb
  obtain ⟨ad', z', qs', σ', g1, g2, g3, g4⟩ := list_spec L k hC (by omega)
  have n1 : (((l.length : Nat) : Int) != (l.length : Int)) = false := by simp
  have n2 : (((sent : Nat) : Int) != (sent : Int)) = false := by simp
  have n3 : (((acked : Nat) : Int) != (acked : Int)) = false := by simp
  unfold tl
  rw [counts_spec hA L (k + 1), bnd_some, asT_t, show (#[Value.int .i64 l.length, .int .i64 sent, .int .i64 acked] : Array Value).toList = [.int .i64 l.length, .int .i64 sent, .int .i64 acked] from rfl, uncons_c, asI_i, uncons_c, asI_i, uncons_c, asI_i, endl_n,
    e1, asSl_s, n1, br_false, e2, asI_i, n2, br_false, e3, asI_i, n3, br_false, g1, bnd_some, asSl_s, same_texts L (k + 1) g2 (hR.same g3 (by simp)) (by omega) (by omega), bnd_some, asB_b, not_true, br_false]
  exact ⟨σ', h.idle g3, rfl⟩
end

end Go.AM.Wp.S
