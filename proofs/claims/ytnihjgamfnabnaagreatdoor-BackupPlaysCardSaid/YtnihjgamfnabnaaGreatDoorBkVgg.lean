/-
  Texts laid together: BkVg, BkVh, BkVi, BkArgB, BkVj.
-/
import Derived.Test.YtnihjgamfnabnaaGreatDoorBkVeg
import Derived.Test.YtnihjgamfnabnaaGreatDoorBkVag
import Derived.Test.YtnihjgamfnabnaaGreatDoorEqPl
import Derived.Test.YtnihjgamfnabnaaGreatDoorBkNg
import Derived.Test.YtnihjgamfnabnaaGreatDoorEnvBk
set_option linter.unusedVariables false
set_option linter.unusedSimpArgs false
set_option linter.unusedSectionVars false
namespace Go.AM.Bk
open Go.Proofs
theorem stepR' (o : OpB) (v : Int) : (c10 o).set 3 (.int .i64 v) = c10 { o with r := { o.r with seq := v } } := rfl
theorem code_gerr (L k : Nat) {σ : St} {v : Value} {c : Int} (h : GErr σ v c) : ∃ σ', evCall Tryz.prog env L (k + 2) 27 [v] σ = some (.int .i64 c, σ') ∧ Same σ σ' [] := by
  obtain ⟨q, w, a, rfl, hg, hq⟩ := h
  have hg1 : (σ.new (Blk.own [Value.int .i64 0] 70)).get q = some (.own [.string w, .int .i64 a, .iface 70 (.int .i64 c)] 164) := by rw [get_new (by omega)]; exact hg
  rw [f27_eq, E.as_prim]
  have h : Td.asG [.iface 162 (.pointer (some ⟨q, 0, none⟩)), .iface 146 (.pointer (some ⟨σ.next, 0, none⟩))] (σ.new (Blk.own [Value.int .i64 0] 70)) =
      some (.bool true, (σ.new (Blk.own [Value.int .i64 0] 70)).set σ.next (.own [Value.int .i64 c] 70)) := by
    simp only [Td.asG, get_new_same]
    rw [if_pos (by simp), if_neg (by simp), if_neg (by simp), if_neg (by simp), if_pos (by simp), ld_own _ hg1 (v := .iface 70 (.int .i64 c)) rfl]
    exact put_own _ (get_new_same _ _) (by simp) rfl
  rw [h, bnd_some, asB_b, not_true, br_false, ld_own _ (get_set_same _ _ _) (v := .int .i64 c) rfl, asI_i]
  refine ⟨_, rfl, ⟨by simp, fun k hk _ => ?_⟩⟩
  rw [get_set (by omega), get_new (by omega)]
structure QX (σ0 σ : St) (nd g wn gr : Nat) (N M : NS) (gs hs : GS) (P : List Nat) (m d : Nat) (a : Nat → Nat) (F : Nat → List Nat) (G GF X : List Nat) : Prop where
  n : NdX σ0 σ nd g m d a F N [P, G, GF, X]
  gg : Grp σ g G gs
  dg : DG σ gr GF hs
  dn : DN σ wn gr M X
def QP (σ0 σ : St) (nd g wn gr : Nat) (N M : NS) (gs hs : GS) (P : List Nat) : Prop := ∃ m d a F G GF X, QX σ0 σ nd g wn gr N M gs hs P m d a F G GF X
def Kb (σ σ' : St) (P : List Nat) : Prop := ∀ q ∈ P, σ'.get q = σ.get q
theorem Kb.trans {a b c : St} {P : List Nat} (h : Kb a b P) (k : Kb b c P) : Kb a c P := fun q hq => (k q hq).trans (h q hq)
section
variable {σ0 σ : St} {nd g wn gr : Nat} {N M : NS} {gs hs : GS} {P : List Nat} {m d : Nat} {a : Nat → Nat} {F : Nat → List Nat} {G GF X : List Nat}
theorem QX.lt (h : QX σ0 σ nd g wn gr N M gs hs P m d a F G GF X) : ∀ q ∈ P, q < σ.next := h.n.lt (by simp)
theorem QX.code (h : QX σ0 σ nd g wn gr N M gs hs P m d a F G GF X) {σ' : St} {m' : Nat} {a' : Nat → Nat} {F' : Nat → List Nat} {N' : NS} (hn : NdX σ0 σ' nd g m' d a' F' N' [P, G, GF, X]) (k : Kp σ σ' [P, G, GF, X]) : QX σ0 σ' nd g wn gr N' M gs hs P m' d a' F' G GF X ∧ Kb σ σ' P := by
  refine ⟨⟨hn, h.gg.moved (k G (by simp)) (hn.lt (by simp)), h.dg.moved (k GF (by simp)) (hn.lt (by simp)), ?_⟩, k P (by simp)⟩
  obtain ⟨a2, w, s, F2, FD, FI, FB, ad, nb, z, dn, rfl, hx⟩ := h.dn
  exact ⟨a2, w, s, F2, FD, FI, FB, ad, nb, z, dn, rfl, hx.moved (k _ (by simp)) (hn.lt (by simp))⟩
theorem QX.idle (h : QX σ0 σ nd g wn gr N M gs hs P m d a F G GF X) {σ' : St} (hs' : Same σ σ' []) : QX σ0 σ' nd g wn gr N M gs hs P m d a F G GF X ∧ Kb σ σ' P :=
  h.code (h.n.idle hs') (h.n.kept hs')
theorem QX.off (h : QX σ0 σ nd g wn gr N M gs hs P m d a F G GF X) (i j : Nat) (hij : i ≠ j) {A B : List Nat} (hi : [P, G, GF, X][i]? = some A) (hj : [P, G, GF, X][j]? = some B) : ∀ q ∈ A, q ∉ B := h.n.im.dis (i + 5) (j + 5) (by omega) (by simpa using hi) (by simpa using hj)
theorem QX.doc (h : QX σ0 σ nd g wn gr N M gs hs P m d a F G GF X) {σ' : St} {X' : List Nat} {M' : NS} (hT : Turn σ σ' X X') (hd : DN σ' wn gr M' X') : QX σ0 σ' nd g wn gr N M' gs hs P m d a F G GF X' ∧ Kb σ σ' P :=
  ⟨⟨h.n.turned 3 rfl hT, h.gg.same hT.same (h.off 1 3 (by omega) rfl rfl), h.dg.same hT.same (h.off 2 3 (by omega) rfl rfl), hd⟩, fun q hq => hT.same.2 q (h.lt q hq) (h.off 0 3 (by omega) rfl rfl q hq)⟩
theorem QX.dnSame (h : QX σ0 σ nd g wn gr N M gs hs P m d a F G GF X) {σ' : St} {S : List Nat} (hs' : Same σ σ' S) (hS : ∀ q ∈ X, q ∉ S) : DN σ' wn gr M X := by
  have hl := h.n.lt (H := X) (by simp)
  obtain ⟨a2, w, s, F2, FD, FI, FB, ad, nb, z, dn, rfl, hx⟩ := h.dn
  exact ⟨a2, w, s, F2, FD, FI, FB, ad, nb, z, dn, rfl, hx.moved (fun q hq => hs'.2 q (hl q hq) (hS q hq)) (fun q hq => by have := hl q hq; have := hs'.1; omega)⟩
theorem QX.grp (h : QX σ0 σ nd g wn gr N M gs hs P m d a F G GF X) {σ' : St} {G' : List Nat} {gs' : GS} (hT : Turn σ σ' G G') (hg : Grp σ' g G' gs') : QX σ0 σ' nd g wn gr N M gs' hs P m d a F G' GF X ∧ Kb σ σ' P :=
  ⟨⟨h.n.turned 1 rfl hT, hg, h.dg.same hT.same (h.off 2 1 (by omega) rfl rfl), h.dnSame hT.same (h.off 3 1 (by omega) rfl rfl)⟩, fun q hq => hT.same.2 q (h.lt q hq) (h.off 0 1 (by omega) rfl rfl q hq)⟩
theorem QX.dgrp (h : QX σ0 σ nd g wn gr N M gs hs P m d a F G GF X) {σ' : St} {GF' : List Nat} {hs' : GS} (hT : Turn σ σ' GF GF') (hg : DG σ' gr GF' hs') : QX σ0 σ' nd g wn gr N M gs hs' P m d a F G GF' X ∧ Kb σ σ' P :=
  ⟨⟨h.n.turned 2 rfl hT, h.gg.same hT.same (h.off 1 2 (by omega) rfl rfl), hg, h.dnSame hT.same (h.off 3 2 (by omega) rfl rfl)⟩, fun q hq => hT.same.2 q (h.lt q hq) (h.off 0 2 (by omega) rfl rfl q hq)⟩
theorem QX.own (h : QX σ0 σ nd g wn gr N M gs hs P m d a F G GF X) {σ' : St} {P' : List Nat} (hT : Turn σ σ' P P') : QX σ0 σ' nd g wn gr N M gs hs P' m d a F G GF X :=
  ⟨h.n.turned 0 rfl hT, h.gg.same hT.same (h.off 1 0 (by omega) rfl rfl), h.dg.same hT.same (h.off 2 0 (by omega) rfl rfl), h.dnSame hT.same (h.off 3 0 (by omega) rfl rfl)⟩
theorem QX.gx (h : QX σ0 σ nd g wn gr N M gs hs P m d a F G GF X) : ∀ q ∈ GF, q ∉ X := h.off 2 3 (by omega) rfl rfl
end
set_option maxRecDepth 100000 in
theorem pl_tail (L k : Nat) (hL : 100000 < L) {σ0 σ : St} {nd g wn gr c : Nat} {N : NS} {gs : GS} {P : List Nat} (hQ : QP σ0 σ nd g wn gr N N gs gs P) (hI : N.Inv c) (hc : c ≤ 899) (KK : St → Res) :
    ∃ σ', tlA L (k + 12) nd 0 wn 0 KK true σ = KK σ' ∧ Same σ σ' [] := by
  unfold tlA tlR
  obtain ⟨m, d, a, F, G, GF, X, h⟩ := hQ
  obtain ⟨a2, w, s, F2, FD, FI, FB, ad, nb, z, dn, hX, hx⟩ := h.dn
  obtain ⟨σ1, g1, s1⟩ := nimage_spec L (k + 10) h.n
  have hbl := h.n.im.blen
  have e1 : (strs N.im.bl).toArray.toList = strs N.im.bl := rfl
  have s2 : Same σ1 (σ1.new (.own (strs N.im.bl) 45)) [] := Same.new _ _ _
  have g2 : (σ1.new (.own (strs N.im.bl) 45)).get σ1.next = some (.own (strs N.im.bl) 45) := get_new_same _ _
  rw [g1, bnd_some, asT_t, toList2, uncons_c, asAgL_a, e1, uncons_c, asI_i, endl_n, need_of (by rw [strs_len, hbl]; rfl), tmp_put2 σ1 _ (strs N.im.bl) 45 (by rw [strs_len, hbl]; rfl) (strs_one _)]
  generalize σ1.new (.own (strs N.im.bl) 45) = σ2 at s2 g2
  have s02 := s1.trans s2
  have hx2 := hx.idle s02
  have h2 := (h.idle s02).1
  obtain ⟨qi, adi, zi, hFI, hcI, _, hRi, _⟩ := hx2.img.ex
  obtain ⟨ad3, z3, q3, σ3, g3, hR3, _, s3⟩ := flat_spec L (k + 11) (by omega) σ2 (b := N.im.bl) hbl
  have hx3 := hx2.idle s3
  have h3 := (h2.idle s3).1
  have hcI3 : σ3.get w = _ := (s3.2 w (hx2.img.lt w (by rw [hFI]; simp)) (by simp)).trans hcI
  have g4 := same_spec L (k + 11) (by omega) hR3 (hRi.same s3 (by simp)) hbl
  obtain ⟨σ5, g5, s5⟩ := napplied_spec L (k + 10) hL h3.n hI hc
  have hx5 := hx3.idle s5
  have h5 := (h3.idle s5).1
  obtain ⟨σ6, g6, s6⟩ := dapplied_spec L (k + 11) hL hx5 hI hc
  have hx6 := hx5.idle s6
  have h6 := (h5.idle s6).1
  obtain ⟨σ7, g7, s7⟩ := nready_spec L (k + 7) hL h6.n hI hc h6.gg
  have hx7 := hx6.idle s7
  have h7 := (h6.idle s7).1
  obtain ⟨σ8, g8, s8⟩ := dready_spec L (k + 8) hL hx7 hI hc h7.dg
  have hb : ∀ i : Int, (i != i) = false := fun i => by simp
  have hld2 : ∀ K : Value → Res, σ2.ld wn (0 + 1) K = K (ptr w) := fun K => ld_at hx2.nd (0 + 1) _ rfl K
  have hld3 : ∀ K : Value → Res, σ3.ld wn (0 + 1) K = K (ptr w) := fun K => ld_at hx3.nd (0 + 1) _ rfl K
  refine ⟨σ8, ?_, ((((s02.trans s3).trans s5).trans s6).trans s7).trans s8⟩
  unfold NS.apV at g5 g6
  rw [not_true, br_false, hld2, asP_p, adr_some, ld_at hcI (0 + 2) (.int .i64 (N.im.km : Nat)) rfl, asI_i, hb, br_false, lds_all (n := 32) g2 (by rw [strs_len, hbl]), g3, bnd_some, asSl_s, hld3, asP_p, hld2, asP_p, chk_same, adr_some, ld_at hcI3 (0 + 3) _ rfl, asSl_s, ld_at hcI (0 + 3) _ rfl, asSl_s, chk_same, g4, bnd_some, asB_b, not_true, br_false, g5, bnd_some, asAgL_a]
  show (uncons [Value.int .i64 (N.apl 0), .int .i64 (N.apl 1), .int .i64 (N.apl 2), .int .i64 (N.apl 3)] _) = _
  rw [uncons_c, asI_i, uncons_c, asI_i, uncons_c, asI_i, uncons_c, asI_i, endl_n, g6, bnd_some, asAgL_a]
  show (uncons [Value.int .i64 (N.apl 0), .int .i64 (N.apl 1), .int .i64 (N.apl 2), .int .i64 (N.apl 3)] _) = _
  rw [uncons_c, asI_i, uncons_c, asI_i, uncons_c, asI_i, uncons_c, asI_i, endl_n, beq_self_eq_true, beq_self_eq_true, beq_self_eq_true, beq_self_eq_true, show (!(true && (true && (true && (true && true))))) = false from rfl, br_false, g7, bnd_some, asI_i, g8, bnd_some, asI_i, hb, br_false]
set_option maxRecDepth 100000 in
theorem pl_tail0 (L k : Nat) (hL : 100000 < L) {σ0 σ : St} {nd g wn gr c : Nat} {N : NS} {gs : GS} {P : List Nat} (hQ : QP σ0 σ nd g wn gr N N gs gs P) (hI : N.Inv c) (hc : c ≤ 899) (KK : St → Res) :
    ∃ σ', tlD L (k + 12) nd 0 wn 0 KK σ = KK σ' ∧ Same σ σ' [] := by
  unfold tlD tlR
  obtain ⟨m, d, a, F, G, GF, X, h⟩ := hQ
  obtain ⟨a2, w, s, F2, FD, FI, FB, ad, nb, z, dn, hX, hx⟩ := h.dn
  obtain ⟨σ1, g1, s1⟩ := nimage_spec L (k + 10) h.n
  have hbl := h.n.im.blen
  have e1 : (strs N.im.bl).toArray.toList = strs N.im.bl := rfl
  have s2 : Same σ1 (σ1.new (.own (strs N.im.bl) 45)) [] := Same.new _ _ _
  have g2 : (σ1.new (.own (strs N.im.bl) 45)).get σ1.next = some (.own (strs N.im.bl) 45) := get_new_same _ _
  rw [g1, bnd_some, asT_t, toList2, uncons_c, asAgL_a, e1, uncons_c, asI_i, endl_n, need_of (by rw [strs_len, hbl]; rfl), tmp_put2 σ1 _ (strs N.im.bl) 45 (by rw [strs_len, hbl]; rfl) (strs_one _)]
  generalize σ1.new (.own (strs N.im.bl) 45) = σ2 at s2 g2
  have s02 := s1.trans s2
  have hx2 := hx.idle s02
  have h2 := (h.idle s02).1
  obtain ⟨qi, adi, zi, hFI, hcI, _, hRi, _⟩ := hx2.img.ex
  obtain ⟨ad3, z3, q3, σ3, g3, hR3, _, s3⟩ := flat_spec L (k + 11) (by omega) σ2 (b := N.im.bl) hbl
  have hx3 := hx2.idle s3
  have h3 := (h2.idle s3).1
  have hcI3 : σ3.get w = _ := (s3.2 w (hx2.img.lt w (by rw [hFI]; simp)) (by simp)).trans hcI
  have g4 := same_spec L (k + 11) (by omega) hR3 (hRi.same s3 (by simp)) hbl
  obtain ⟨σ5, g5, s5⟩ := napplied_spec L (k + 10) hL h3.n hI hc
  have hx5 := hx3.idle s5
  have h5 := (h3.idle s5).1
  obtain ⟨σ6, g6, s6⟩ := dapplied_spec L (k + 11) hL hx5 hI hc
  have hx6 := hx5.idle s6
  have h6 := (h5.idle s6).1
  obtain ⟨σ7, g7, s7⟩ := nready_spec L (k + 7) hL h6.n hI hc h6.gg
  have hx7 := hx6.idle s7
  have h7 := (h6.idle s7).1
  obtain ⟨σ8, g8, s8⟩ := dready_spec L (k + 8) hL hx7 hI hc h7.dg
  have hb : ∀ i : Int, (i != i) = false := fun i => by simp
  have hld2 : ∀ K : Value → Res, σ2.ld wn (0 + 1) K = K (ptr w) := fun K => ld_at hx2.nd (0 + 1) _ rfl K
  have hld3 : ∀ K : Value → Res, σ3.ld wn (0 + 1) K = K (ptr w) := fun K => ld_at hx3.nd (0 + 1) _ rfl K
  refine ⟨σ8, ?_, ((((s02.trans s3).trans s5).trans s6).trans s7).trans s8⟩
  unfold NS.apV at g5 g6
  rw [hld2, asP_p, adr_some, ld_at hcI (0 + 2) (.int .i64 (N.im.km : Nat)) rfl, asI_i, hb, br_false, lds_all (n := 32) g2 (by rw [strs_len, hbl]), g3, bnd_some, asSl_s, hld3, asP_p, hld2, asP_p, chk_same, adr_some, ld_at hcI3 (0 + 3) _ rfl, asSl_s, ld_at hcI (0 + 3) _ rfl, asSl_s, chk_same, g4, bnd_some, asB_b, not_true, br_false, g5, bnd_some, asAgL_a]
  show (uncons [Value.int .i64 (N.apl 0), .int .i64 (N.apl 1), .int .i64 (N.apl 2), .int .i64 (N.apl 3)] _) = _
  rw [uncons_c, asI_i, uncons_c, asI_i, uncons_c, asI_i, uncons_c, asI_i, endl_n, g6, bnd_some, asAgL_a]
  show (uncons [Value.int .i64 (N.apl 0), .int .i64 (N.apl 1), .int .i64 (N.apl 2), .int .i64 (N.apl 3)] _) = _
  rw [uncons_c, asI_i, uncons_c, asI_i, uncons_c, asI_i, uncons_c, asI_i, endl_n, beq_self_eq_true, beq_self_eq_true, beq_self_eq_true, beq_self_eq_true, show (!(true && (true && (true && (true && true))))) = false from rfl, br_false, g7, bnd_some, asI_i, g8, bnd_some, asI_i, hb, br_false]
end Go.AM.Bk

namespace Go.AM.Bk
open Go.Proofs
section
variable {σ0 σ : St} {nd g wn gr c : Nat} {N : NS} {gs : GS} {P : List Nat}
theorem QP.idle {M : NS} {hs : GS} (h : QP σ0 σ nd g wn gr N M gs hs P) {σ' : St} (hs' : Same σ σ' []) : QP σ0 σ' nd g wn gr N M gs hs P ∧ Kb σ σ' P := by
  obtain ⟨m, d, a, F, G, GF, X, h⟩ := h
  exact ⟨⟨m, d, a, F, G, GF, X, (h.idle hs').1⟩, (h.idle hs').2⟩
theorem QP.own {M : NS} {hs : GS} (h : QP σ0 σ nd g wn gr N M gs hs P) {σ' : St} {P' : List Nat} (hT : Turn σ σ' P P') : QP σ0 σ' nd g wn gr N M gs hs P' := by
  obtain ⟨m, d, a, F, G, GF, X, h⟩ := h
  exact ⟨m, d, a, F, G, GF, X, h.own hT⟩
theorem QP.lt {M : NS} {hs : GS} (h : QP σ0 σ nd g wn gr N M gs hs P) : ∀ q ∈ P, q < σ.next := by
  obtain ⟨m, d, a, F, G, GF, X, h⟩ := h
  exact h.lt
theorem QP.kept {M : NS} {hs : GS} (h : QP σ0 σ nd g wn gr N M gs hs P) : Kept' σ0.next σ0 σ := by
  obtain ⟨m, d, a, F, G, GF, X, h⟩ := h
  exact h.n.im.kept
theorem pl_taken (L k : Nat) (hq : QP σ0 σ nd g wn gr N N gs gs P) (hI : N.Inv c) (hc : c ≤ 890) (v : Nat) (hv : v < 4) :
    ∃ sv, (∀ K : Value → Res, σ.ld wn (2 + v) K = K (ptr sv)) ∧ evCall Tryz.prog env L (k + 1) 30 [ptr sv] σ = some (.int .i64 (N.st v).last, σ) := by
  obtain ⟨m, d, a, F, G, GF, X, h⟩ := hq
  obtain ⟨a2, w, s, F2, FD, FI, FB, ad, nb, z, dn, rfl, hx⟩ := h.dn
  exact ⟨s v, hx.stg v hv _ rfl, S.taken_spec (hx.st v hv) L k (small hI (by omega) hv)⟩
theorem pl_take (L k : Nat) (hq : QP σ0 σ nd g wn gr N N gs gs P) (hI : N.Inv c) (hc : c ≤ 890) (v : Int) (r : S.Rec) :
    ∃ x e y σ1 σ2 N', evCall Tryz.prog env L (k + 12) 21 [ptr nd, .int .i64 v, r.agg] σ = some (.tuple #[.int .i64 x, e], σ1) ∧ Kb σ σ1 P ∧ evCall Tryz.prog env L (k + 12) 31 [ptr wn, .int .i64 v, r.agg] σ1 = some (.tuple #[.int .i64 x, .int .i64 y], σ2) ∧ Kb σ1 σ2 P ∧
      QP σ0 σ2 nd g wn gr N' N' gs gs P ∧ N'.Inv (c + 1) ∧ ((e = .nilIface ∧ y = 0) ∨ (E.Err σ2 e y v ∧ y ≠ 0)) := by
  obtain ⟨m, d, a, F, G, GF, X, h⟩ := hq
  by_cases hv : 0 ≤ v ∧ v < 4
  · obtain ⟨u, rfl⟩ : ∃ u : Nat, v = u := ⟨v.toNat, by omega⟩
    obtain ⟨F', σ1, g1, hn1, k1⟩ := ntake_spec L (k + 8) h.n hI (by omega) u (by omega) r
    obtain ⟨h1, kb1⟩ := h.code hn1 k1
    obtain ⟨a2, w, s, F2, FD, FI, FB, ad, nb, z, dn, rfl, hx⟩ := h1.dn
    obtain ⟨F3, σ2, g2, hx2, t2⟩ := dtake_spec L (k + 9) hx hI (by omega) u (by omega) r
    obtain ⟨h2, kb2⟩ := h1.doc t2 ⟨a2, w, s, F3, FD, FI, FB, ad, nb, z, dn, rfl, hx2⟩
    exact ⟨_, _, _, σ1, σ2, N.take u r, g1, kb1, g2, kb2, ⟨_, _, _, _, _, _, _, h2⟩, hI.take u r, .inl ⟨rfl, rfl⟩⟩
  · obtain ⟨e, σ1, g1, hE, s1⟩ := ntake_out L (k + 9) σ nd v (by omega) r
    obtain ⟨σ2, g2, s2⟩ := dtake_out L (k + 11) σ1 wn v (by omega) r
    obtain ⟨h1, kb1⟩ := h.idle s1
    obtain ⟨h2, kb2⟩ := h1.idle s2
    exact ⟨_, _, _, σ1, σ2, N, g1, kb1, g2, kb2, ⟨_, _, _, _, _, _, _, h2⟩, hI.mono (by omega), .inr ⟨hE.same s2, by decide⟩⟩
theorem pl_begin (L k : Nat) (hL : 100000 < L) (hq : QP σ0 σ nd g wn gr N N gs gs P) (hI : N.Inv c) (hc : c ≤ 890) :
    ∃ x e y σ1 σ2 N', evCall Tryz.prog env L (k + 12) 22 [ptr nd] σ = some (.tuple #[.int .i64 x, e], σ1) ∧ evCall Tryz.prog env L (k + 12) 32 [ptr wn] σ1 = some (.tuple #[.int .i64 x, .int .i64 y], σ2) ∧ Kb σ σ2 P ∧
      QP σ0 σ2 nd g wn gr N' N' gs gs P ∧ N'.Inv (c + 1) ∧ ((e = .nilIface ∧ y = 0) ∨ (E.Err σ2 e y 0 ∧ y ≠ 0)) := by
  obtain ⟨m, d, a, F, G, GF, X, h⟩ := hq
  obtain ⟨v, σ1, g1, k1, hor⟩ := nbegin_spec L (k + 6) hL h.n hI (by omega) h.gg
  rcases hor with ⟨hm, ⟨e, rfl, hE⟩, s1⟩ | ⟨hm, hr, ⟨e, rfl, hE⟩, s1⟩ | ⟨hm, hr, rfl, hn1⟩
  · obtain ⟨h1, kb1⟩ := h.idle s1
    have hgx := h1.gx
    obtain ⟨a2, w, s, F2, FD, FI, FB, ad, nb, z, dn, rfl, hx⟩ := h1.dn
    obtain ⟨v2, σ2, g2, hor2⟩ := dbegin_spec L (k + 6) hL hx hI (by omega) h1.dg hgx
    rcases hor2 with ⟨_, rfl, s2⟩ | ⟨hm2, _⟩ | ⟨hm2, _⟩
    · obtain ⟨h2, kb2⟩ := h1.idle s2
      exact ⟨_, _, _, σ1, σ2, N, g1, g2, kb1.trans kb2, ⟨_, _, _, _, _, _, _, h2⟩, hI.mono (by omega), .inr ⟨hE.err.same s2, by decide⟩⟩
    · exact absurd hm2 hm
    · exact absurd hm2 hm
  · obtain ⟨h1, kb1⟩ := h.idle s1
    have hgx := h1.gx
    obtain ⟨a2, w, s, F2, FD, FI, FB, ad, nb, z, dn, rfl, hx⟩ := h1.dn
    obtain ⟨v2, σ2, g2, hor2⟩ := dbegin_spec L (k + 6) hL hx hI (by omega) h1.dg hgx
    rcases hor2 with ⟨hm2, _⟩ | ⟨_, _, rfl, s2⟩ | ⟨_, hr2, _⟩
    · exact absurd hm hm2
    · obtain ⟨h2, kb2⟩ := h1.idle s2
      exact ⟨_, _, _, σ1, σ2, N, g1, g2, kb1.trans kb2, ⟨_, _, _, _, _, _, _, h2⟩, hI.mono (by omega), .inr ⟨hE.err.same s2, by decide⟩⟩
    · exact absurd hr hr2
  · obtain ⟨h1, kb1⟩ := h.code hn1 k1
    have hgx := h1.gx
    obtain ⟨a2, w, s, F2, FD, FI, FB, ad, nb, z, dn, rfl, hx⟩ := h1.dn
    obtain ⟨v2, σ2, g2, hor2⟩ := dbegin_spec L (k + 6) hL hx hI (by omega) h1.dg hgx
    rcases hor2 with ⟨hm2, _⟩ | ⟨_, hr2, _⟩ | ⟨_, _, rfl, FB', ad', z', hx2, t2⟩
    · exact absurd hm hm2
    · exact absurd hr2 hr
    · obtain ⟨h2, kb2⟩ := h1.doc t2 ⟨a2, w, s, F2, FD, FI, FB', ad', 32, z', 0, rfl, hx2⟩
      exact ⟨_, _, _, σ1, σ2, _, g1, g2, kb1.trans kb2, ⟨_, _, _, _, _, _, _, h2⟩, (hI.begun hm hr).1, .inl ⟨rfl, rfl⟩⟩
theorem pl_step (L k : Nat) (hL : 100000 < L) (hq : QP σ0 σ nd g wn gr N N gs gs P) (hI : N.Inv c) (hc : c ≤ 890) :
    ∃ b e y σ1 σ2 N', evCall Tryz.prog env L (k + 12) 23 [ptr nd] σ = some (.tuple #[.bool b, e], σ1) ∧ evCall Tryz.prog env L (k + 12) 33 [ptr wn] σ1 = some (.tuple #[.bool b, .int .i64 y], σ2) ∧ Kb σ σ2 P ∧
      QP σ0 σ2 nd g wn gr N' N' gs gs P ∧ N'.Inv c ∧ ((e = .nilIface ∧ y = 0) ∨ (E.Err σ2 e y 0 ∧ y ≠ 0)) := by
  obtain ⟨m, d, a, F, G, GF, X, h⟩ := hq
  obtain ⟨v, F', σ1, g1, k1, hor⟩ := nstep_spec L (k + 3) hL (by omega) h.n hI h.gg (by simp)
  rcases hor with ⟨hm, ⟨e, rfl, hE⟩, s1⟩ | ⟨bl, j, hm, hw, rfl, hn1⟩
  · obtain ⟨h1, kb1⟩ := h.idle s1
    have hgx := h1.gx
    obtain ⟨a2, w, s, F2, FD, FI, FB, ad, nb, z, dn, rfl, hx⟩ := h1.dn
    obtain ⟨v2, σ2, g2, hor2⟩ := dnstep_spec L (k + 6) hL (by omega) hx hI h1.dg hgx
    rcases hor2 with ⟨_, rfl, rfl⟩ | ⟨_, _, hm2, _⟩
    · exact ⟨_, _, _, σ2, σ2, N, g1, g2, kb1, ⟨_, _, _, _, _, _, _, h1⟩, hI, .inr ⟨hE.err, by decide⟩⟩
    · exact absurd hm hm2
  · obtain ⟨h1, kb1⟩ := h.code hn1 k1
    have hgx := h1.gx
    obtain ⟨a2, w, s, F2, FD, FI, FB, ad, nb, z, dn, rfl, hx⟩ := h1.dn
    obtain ⟨v2, σ2, g2, hor2⟩ := dnstep_spec L (k + 6) hL (by omega) hx hI h1.dg hgx
    rcases hor2 with ⟨hm2, _⟩ | ⟨bl2, j2, _, hw2, rfl, F3, FD3, FI3, dn3, hx2, t2⟩
    · exact absurd hm2 hm
    · rw [hw] at hw2
      cases hw2
      obtain ⟨h2, kb2⟩ := h1.doc t2 ⟨a2, w, s, F3, FD3, FI3, FB, ad, nb, z, dn3, rfl, hx2⟩
      exact ⟨_, _, _, σ1, σ2, _, g1, g2, kb1.trans kb2, ⟨_, _, _, _, _, _, _, h2⟩, hI.step (by omega) gs, .inl ⟨rfl, rfl⟩⟩
theorem pl_crash (L k : Nat) (hL : 100000 < L) (hq : QP σ0 σ nd g wn gr N N gs gs P) (hI : N.Inv c) (hc : c ≤ 890) (keep : Int) (h0 : 0 ≤ keep) (h1 : keep < 18446744073709551616) :
    ∃ σ1 σ2 N', evCall Tryz.prog env L (k + 12) 24 [ptr nd, .int .u64 keep] σ = some (.nilIface, σ1) ∧ Kb σ σ1 P ∧ evCall Tryz.prog env L (k + 12) 34 [ptr wn, .int .u64 keep] σ1 = some (.int .i64 0, σ2) ∧ Kb σ1 σ2 P ∧
      QP σ0 σ2 nd g wn gr N' N' gs gs P ∧ N'.Inv c := by
  obtain ⟨x, rfl⟩ : ∃ x : Nat, keep = x := ⟨keep.toNat, by omega⟩
  obtain ⟨m, d, a, F, G, GF, X, h⟩ := hq
  obtain ⟨m', F', σ1, g1, hn1, k1⟩ := ncrash_spec L k hL (by omega) h.n hI h.gg (by simp) (x : Int)
  obtain ⟨h1, kb1⟩ := h.code hn1 k1
  have hgx := h1.gx
  obtain ⟨a2, w, s, F2, FD, FI, FB, ad, nb, z, dn, rfl, hx⟩ := h1.dn
  obtain ⟨w2, F3, FD3, FI3, σ2, g2, hx2, t2⟩ := dncrash_spec L (k + 4) hL (by omega) hx hI h1.dg hgx x (by omega)
  obtain ⟨h2, kb2⟩ := h1.doc t2 ⟨a2, w2, s, F3, FD3, FI3, FB, ad, nb, z, dn, rfl, hx2⟩
  exact ⟨σ1, σ2, _, g1, kb1, g2, kb2, ⟨_, _, _, _, _, _, _, h2⟩, hI.crash (by omega) _ gs⟩
theorem pl_promote (L k : Nat) (hL : 100000 < L) (hq : QP σ0 σ nd g wn gr N N gs gs P) (hI : N.Inv c) (hc : c ≤ 890) :
    ∃ x σ1 σ2 N', evCall Tryz.prog env L (k + 12) 25 [ptr nd] σ = some (.int .i64 x, σ1) ∧ evCall Tryz.prog env L (k + 12) 38 [ptr wn] σ1 = some (.int .i64 x, σ2) ∧ Kb σ σ2 P ∧
      QP σ0 σ2 nd g wn gr N' N' gs gs P ∧ N'.Inv c := by
  obtain ⟨m, d, a, F, G, GF, X, h⟩ := hq
  obtain ⟨F', σ1, g1, hn1, k1⟩ := npromote_spec L (k + 2) hL (by omega) h.n hI h.gg (by simp)
  obtain ⟨h1, kb1⟩ := h.code hn1 k1
  have hgx := h1.gx
  obtain ⟨a2, w, s, F2, FD, FI, FB, ad, nb, z, dn, rfl, hx⟩ := h1.dn
  obtain ⟨F3, FD3, FI3, dn3, σ2, g2, hx2, t2⟩ := dpromote_spec L (k + 5) hL (by omega) hx hI h1.dg hgx
  obtain ⟨h2, kb2⟩ := h1.doc t2 ⟨a2, w, s, F3, FD3, FI3, FB, ad, nb, z, dn3, rfl, hx2⟩
  exact ⟨_, σ1, σ2, _, g1, g2, kb1.trans kb2, ⟨_, _, _, _, _, _, _, h2⟩, hI.promote (by omega) gs⟩
theorem pl_group (L k : Nat) (hL : 100000 < L) (hq : QP σ0 σ nd g wn gr N N gs gs P) (m' v : Int) (gone : Bool) (fn : Nat)
    (hfn : ∀ {σ : St} {G : List Nat} {gs : GS}, Grp σ g G gs → ∃ r G' σ', evCall Tryz.prog env L (k + 12) fn [ptr g, .int .i64 v, .int .i64 m'] σ = some (r, σ') ∧ Turn σ σ' G G' ∧ ((putE gs m' v gone ≠ 0 ∧ GErr σ' r (putE gs m' v gone) ∧ Grp σ' g G' gs) ∨ (putE gs m' v gone = 0 ∧ r = .nilIface ∧ Grp σ' g G' (gs.add m' v gone)))) :
    ∃ r x σ1 σ2 σ3 gs', evCall Tryz.prog env L (k + 12) fn [ptr g, .int .i64 v, .int .i64 m'] σ = some (r, σ1) ∧ Kb σ σ1 P ∧ evCall Tryz.prog env L (k + 12) 27 [r] σ1 = some (.int .i64 x, σ2) ∧ Kb σ1 σ2 P ∧
      evCall Tryz.prog env L (k + 12) 36 [ptr gr, .int .i64 v, .int .i64 m', .bool gone] σ2 = some (.int .i64 x, σ3) ∧ QP σ0 σ3 nd g wn gr N N gs' gs' P := by
  obtain ⟨m, d, a, F, G, GF, X, h⟩ := hq
  obtain ⟨r, G', σ1, g1, t1, hor⟩ := hfn h.gg
  obtain ⟨gs', hg1, hgs, hcode⟩ : ∃ gs', Grp σ1 g G' gs' ∧ gs' = (if putE gs m' v gone = 0 then gs.add m' v gone else gs) ∧ ∃ σ2, evCall Tryz.prog env L (k + 12) 27 [r] σ1 = some (.int .i64 (putE gs m' v gone), σ2) ∧ Same σ1 σ2 [] := by
    rcases hor with ⟨h1, h2, h3⟩ | ⟨h1, rfl, h3⟩
    · exact ⟨gs, h3, by rw [if_neg h1], code_gerr L (k + 10) h2⟩
    · exact ⟨_, h3, by rw [if_pos h1], by rw [h1]; exact E.code_nil L (k + 10) σ1⟩
  obtain ⟨σ2, g2, s2⟩ := hcode
  obtain ⟨h1, kb1⟩ := h.grp t1 hg1
  obtain ⟨h2, kb2⟩ := h1.idle s2
  obtain ⟨GF', σ3, g3, t3, hd3⟩ := dchange L (k + 10) hL h2.dg m' v gone
  rw [← hgs] at hd3
  obtain ⟨h3, kb3⟩ := h2.dgrp t3 hd3
  exact ⟨r, _, σ1, σ2, σ3, gs', g1, kb1, g2, kb2, g3, _, _, _, _, _, _, _, h3⟩
end
end Go.AM.Bk

namespace Go.AM.Bk
open Go.Proofs
section
variable {σ0 : St} {nd g wn gr : Nat}
theorem pl_steps (L k m0 : Nat) (hL : 100000 < L) {c : Nat} (hc : c ≤ 890) {gs : GS} {p : Nat} {o : OpB} {ad : Option Addr} {n1 z1 : Nat} {l87 : Int} {i : Nat} (hi : i ≤ 100) : ∀ (n j : Nat) (σ : St) (N : NS), j ≤ 40 → 40 - j < n → σ.get p = some (.own (c10 o) 61) → QP σ0 σ nd g wn gr N N gs gs [p] → N.Inv c →
    ∃ σ' N', lpAt Tryz.prog env L (k + 12) 6 [true, true, true, true, true, true, true, true, false, true, false, true, true, false, true, true, true, false, true, true, true, true, true, true, false, true] [m0] n [(1, .slice ad n1 z1), (5, ptr g), (7, ptr gr), (10, ptr nd), (12, ptr wn), (15, ptr p), (16, .bool true), (25, .int .i64 j), (87, .int .i64 l87), (88, .int .i64 i)] σ =
      lpAt Tryz.prog env L (k + 12) 6 [true, true, true, true, true, true, true, true, false, true] [] m0 [(1, .slice ad n1 z1), (5, ptr g), (7, ptr gr), (10, ptr nd), (12, ptr wn), (87, .int .i64 l87), (88, .int .i64 ((i + 1 : Nat) : Int))] σ' ∧ QP σ0 σ' nd g wn gr N' N' gs gs [p] ∧ N'.Inv c
  | 0, j, σ, N, _, hn, _, _, _ => by omega
  | n + 1, j, σ, N, hj, hn, gp, hQ, hI => by
    rw [p6_l29]
    have hwi : IntKind.wrap .i64 ((i : Int) + 1) = ((i + 1 : Nat) : Int) := by rw [wrap_in _ (by omega) (by omega)]; omega
    obtain ⟨σ2, e2, s2⟩ := pl_tail L k hL hQ hI (by omega) (nx L (k + 12) m0 ad n1 z1 g 0 gr 0 nd 0 wn 0 l87 i)
    have hnx : nx L (k + 12) m0 ad n1 z1 g 0 gr 0 nd 0 wn 0 l87 i σ2 = lpAt Tryz.prog env L (k + 12) 6 [true, true, true, true, true, true, true, true, false, true] [] m0 [(1, .slice ad n1 z1), (5, ptr g), (7, ptr gr), (10, ptr nd), (12, ptr wn), (87, .int .i64 l87), (88, .int .i64 ((i + 1 : Nat) : Int))] σ2 := by unfold nx; rw [hwi]
    rw [hnx] at e2
    rw [asP_p, adr_some, ld_at gp (0 + 2) (.int .i64 o.n) rfl, asI_i]
    by_cases h1 : (j : Int) < o.n
    rotate_left
    · rw [decide_eq_false h1, br_false]
      exact ⟨σ2, N, e2, (hQ.idle s2).1, hI⟩
    rw [decide_eq_true h1, br_true]
    by_cases h2 : j = 40
    · rw [decide_eq_false (by omega), br_false]
      exact ⟨σ2, N, e2, (hQ.idle s2).1, hI⟩
    rw [decide_eq_true (by omega), br_true, br_true]
    obtain ⟨b, e, y, σ3, σ4, N', g3, g4, kb, hQ4, hI4, hE⟩ := pl_step L k hL hQ hI hc
    obtain ⟨σ5, g5, s5⟩ := E.place_ok L (k + 8) (by omega) (a := 0) hE
    have hw : IntKind.wrap .i64 ((j : Int) + 1) = ((j + 1 : Nat) : Int) := by rw [wrap_in _ (by omega) (by omega)]; omega
    have gp5 : σ5.get p = _ := ((hQ4.idle s5).2 p (by simp)).trans ((kb p (by simp)).trans gp)
    obtain ⟨σ6, N6, e6, h6⟩ := pl_steps L k m0 hL hc hi n (j + 1) σ5 N' (by omega) (by omega) gp5 (hQ4.idle s5).1 hI4
    refine ⟨σ6, N6, ?_, h6⟩
    rw [g3, bnd_some, asT_t, toList2, uncons_c, asB_b, uncons_c, endl_n, g4, bnd_some, asT_t, toList2, uncons_c, asB_b, uncons_c, asI_i, endl_n, beq_self_eq_true, br_true, g5, bnd_some, asB_b, hw]
    exact e6
theorem pl_loop (L k : Nat) (hL : 100000 < L) {ad : Option Addr} {l : List OpB} {z : Nat} (hl : l.length ≤ 80) (hkeep : ∀ o ∈ l, 0 ≤ o.keep ∧ o.keep < 18446744073709551616) (hH : Holds σ0 10 c10 ad l) : ∀ (n i : Nat) (σ : St) (N : NS) (gs : GS), i ≤ l.length → l.length - i < n → QP σ0 σ nd g wn gr N N gs gs [] → N.Inv i →
    ∃ σ', lpAt Tryz.prog env L (k + 12) 6 [true, true, true, true, true, true, true, true, false, true] [] n [(1, .slice ad l.length z), (5, ptr g), (7, ptr gr), (10, ptr nd), (12, ptr wn), (87, .int .i64 l.length), (88, .int .i64 i)] σ = some (.bool true, σ')
  | 0, i, σ, N, gs, _, hn, _, _ => by omega
  | n + 1, i, σ, N, gs, hi, hn, hQ, hI => by
    rw [p6_l12]
    by_cases hie : i = l.length
    · subst hie
      rw [decide_eq_false (by omega), br_false]
      exact ⟨σ, rfl⟩
    have hget : l[i]? = some l[i] := List.getElem?_eq_getElem (by omega)
    have hkp := hkeep l[i] (List.getElem_mem _)
    obtain ⟨q, e, hat⟩ := hH.lds hQ.kept c10_len hget
    generalize l[i] = o at *
    subst e
    have hwi : IntKind.wrap .i64 ((i : Int) + 1) = ((i + 1 : Nat) : Int) := by rw [wrap_in _ (by omega) (by omega)]; omega
    have hld : ∀ K : List Value → Res, σ.lds q (0 + Int.toNat (i : Int) * 10) 10 K = K (c10 o) := fun K => by
      rw [hat 0 10 _ (by omega) (by simp)]; rfl
    rw [decide_eq_true (by omega), br_true, need_of (by simp [inRange]; omega), adr_some, hld]
    obtain ⟨σ1, hput, g1, s1, n1⟩ := tmp_put σ [.int .i64 0, .int .i64 0, .int .i64 0, .int .i64 0, .int .i64 0, .int .i64 0, .string ⟨#[]⟩, .int .i64 0, .int .u64 0, .bool false] (c10 o) 61 rfl rfl
    have hQ1 : QP σ0 σ1 nd g wn gr N N gs gs [σ.next] := hQ.own ⟨s1, fun x hx => by simp at hx; subst hx; exact ⟨.inr (Nat.le_refl _), by omega⟩⟩
    generalize σ.next = p at *
    show ∃ σ', (uncons [Value.int .i64 o.kind, .int .i64 o.v, .int .i64 o.n, .int .i64 o.r.seq, .int .i64 o.r.kind, .int .i64 o.r.block, .string o.r.data, .int .i64 o.r.number, .int .u64 o.keep, .bool o.next] _) = _
    rw [uncons_c, asI_i, uncons_c, asI_i, uncons_c, asI_i, uncons_c, asI_i, uncons_c, asI_i, uncons_c, asI_i, uncons_c, asS_s, uncons_c, asI_i, uncons_c, asI_i, uncons_c, asB_b, endl_n]
    have hput' : ∀ K : St → Res, (σ.new (.own [.int .i64 0, .int .i64 0, .int .i64 0, .int .i64 0, .int .i64 0, .int .i64 0, .string ⟨#[]⟩, .int .i64 0, .int .u64 0, .bool false] 61)).put p 0 [.int .i64 o.kind, .int .i64 o.v, .int .i64 o.n, .int .i64 o.r.seq, .int .i64 o.r.kind, .int .i64 o.r.block, .string o.r.data, .int .i64 o.r.number, .int .u64 o.keep, .bool o.next] K = K σ1 := hput
    rw [hput', ld_at g1 0 (.int .i64 o.kind) rfl, asI_i]
    generalize hKK : nx L (k + 12) n (some ⟨q, 0, none⟩) l.length z g 0 gr 0 nd 0 wn 0 l.length i = KK
    -- what follows
    have rec_ : ∀ {σ2 : St} {N2 : NS} {gs2 : GS}, QP σ0 σ2 nd g wn gr N2 N2 gs2 gs2 [p] → N2.Inv (i + 1) → ∃ σ', lpAt Tryz.prog env L (k + 12) 6 [true, true, true, true, true, true, true, true, false, true] [] n [(1, .slice (some ⟨q, 0, none⟩) l.length z), (5, ptr g), (7, ptr gr), (10, ptr nd), (12, ptr wn), (87, .int .i64 l.length), (88, .int .i64 ((i + 1 : Nat) : Int))] σ2 = some (.bool true, σ') := fun {σ2 N2 gs2} hQ2 hI2 =>
      pl_loop L k hL hl hkeep hH n (i + 1) σ2 N2 gs2 (by omega) (by omega) (hQ2.own ⟨Same.refl _ _, by simp⟩) hI2
    have hnx : ∀ st, KK st = lpAt Tryz.prog env L (k + 12) 6 [true, true, true, true, true, true, true, true, false, true] [] n [(1, .slice (some ⟨q, 0, none⟩) l.length z), (5, ptr g), (7, ptr gr), (10, ptr nd), (12, ptr wn), (87, .int .i64 l.length), (88, .int .i64 ((i + 1 : Nat) : Int))] st := fun st => by rw [← hKK]; unfold nx; rw [hwi]
    have fin : ∀ {σ2 : St} {N2 : NS} {gs2 : GS} (R : Res), QP σ0 σ2 nd g wn gr N2 N2 gs2 gs2 [p] → N2.Inv (i + 1) → (∃ σ3, R = KK σ3 ∧ Same σ2 σ3 []) → ∃ σ', R = some (.bool true, σ') := fun {σ2 N2 gs2} R hQ2 hI2 hR => by
      obtain ⟨σ3, e3, s3⟩ := hR
      obtain ⟨σ4, e4⟩ := rec_ (hQ2.idle s3).1 hI2
      exact ⟨σ4, (e3.trans (hnx σ3)).trans e4⟩
    by_cases h1 : o.kind = 1
    · -- Take
      have take : ∀ {σ2 : St} {o2 : OpB}, QP σ0 σ2 nd g wn gr N N gs gs [p] → σ2.get p = some (.own (c10 o2) 61) → ∃ x e y σ3 σ4 σ5 N', evCall Tryz.prog env L (k + 12) 21 [ptr nd, .int .i64 o2.v, .agg #[.int .i64 o2.r.seq, .int .i64 o2.r.kind, .int .i64 o2.r.block, .string o2.r.data, .int .i64 o2.r.number]] σ2 = some (.tuple #[.int .i64 x, e], σ3) ∧ σ3.get p = some (.own (c10 o2) 61) ∧
          evCall Tryz.prog env L (k + 12) 31 [ptr wn, .int .i64 o2.v, .agg #[.int .i64 o2.r.seq, .int .i64 o2.r.kind, .int .i64 o2.r.block, .string o2.r.data, .int .i64 o2.r.number]] σ3 = some (.tuple #[.int .i64 x, .int .i64 y], σ4) ∧ σ4.get p = some (.own (c10 o2) 61) ∧
          evCall Tryz.prog env L (k + 12) 15 [e, .int .i64 o2.v, .int .i64 y] σ4 = some (.bool true, σ5) ∧ QP σ0 σ5 nd g wn gr N' N' gs gs [p] ∧ N'.Inv (i + 1) := by
        intro σ2 o2 hQ2 gp2
        obtain ⟨x, e, y, σ3, σ4, N', g3, kb3, g4, kb4, hQ4, hI4, hE⟩ := pl_take L k hQ2 hI (by omega) o2.v o2.r
        obtain ⟨σ5, g5, s5⟩ := E.place_ok L (k + 8) (by omega) (a := o2.v) hE
        have gp3 : σ3.get p = _ := (kb3 p (by simp)).trans gp2
        exact ⟨x, e, y, σ3, σ4, σ5, N', g3, gp3, g4, (kb4 p (by simp)).trans gp3, g5, (hQ4.idle s5).1, hI4⟩
      rw [show (o.kind == 1) = true by simpa using h1, br_true, ld_at g1 9 (.bool o.next) rfl, asB_b]
      have tk := take hQ1 g1
      obtain ⟨x, e, y, σ3, σ4, σ5, N', g3, gp3, g4, gp4, g5, hQ5, hI5⟩ := tk
      obtain ⟨σ6, e6, s6⟩ := pl_tail L k hL hQ5 hI5 (by omega) KK
      have hl5 : ∀ {st : St} {o2 : OpB}, st.get p = some (.own (c10 o2) 61) → ∀ K : List Value → Res, st.lds p 3 5 K = K [.int .i64 o2.r.seq, .int .i64 o2.r.kind, .int .i64 o2.r.block, .string o2.r.data, .int .i64 o2.r.number] := fun h K => by rw [lds_own (n := 5) _ h (by simp [c10])]; rfl
      have hrest : ∀ K : Value → Res, σ1.ld p 1 K = K (.int .i64 o.v) := fun K => ld_at g1 1 (.int .i64 o.v) rfl K
      cases hnx : o.next with
      | false =>
        rw [br_false]
        rw [hrest, asI_i, hl5 g1, uncons_c, asI_i, uncons_c, asI_i, uncons_c, asI_i, uncons_c, asS_s, uncons_c, asI_i, endl_n, g3, bnd_some, asT_t, toList2, uncons_c, asI_i, uncons_c, endl_n, ld_at gp3 1 (.int .i64 o.v) rfl, asI_i, hl5 gp3, uncons_c, asI_i, uncons_c, asI_i, uncons_c, asI_i, uncons_c, asS_s, uncons_c, asI_i, endl_n, g4, bnd_some, asT_t, toList2, uncons_c, asI_i, uncons_c, asI_i, endl_n, beq_self_eq_true, br_true, ld_at gp4 1 (.int .i64 o.v) rfl, asI_i, g5, bnd_some, asB_b]
        exact fin _ hQ5 hI5 ⟨σ6, e6, s6⟩
      | true =>
        rw [br_true, hrest, asI_i]
        by_cases hv0 : o.v ≥ 0
        rotate_left
        · rw [decide_eq_false hv0, br_false]
          rw [hrest, asI_i, hl5 g1, uncons_c, asI_i, uncons_c, asI_i, uncons_c, asI_i, uncons_c, asS_s, uncons_c, asI_i, endl_n, g3, bnd_some, asT_t, toList2, uncons_c, asI_i, uncons_c, endl_n, ld_at gp3 1 (.int .i64 o.v) rfl, asI_i, hl5 gp3, uncons_c, asI_i, uncons_c, asI_i, uncons_c, asI_i, uncons_c, asS_s, uncons_c, asI_i, endl_n, g4, bnd_some, asT_t, toList2, uncons_c, asI_i, uncons_c, asI_i, endl_n, beq_self_eq_true, br_true, ld_at gp4 1 (.int .i64 o.v) rfl, asI_i, g5, bnd_some, asB_b]
          exact fin _ hQ5 hI5 ⟨σ6, e6, s6⟩
        rw [decide_eq_true hv0, br_true, hrest, asI_i]
        by_cases hv4 : o.v < 4
        rotate_left
        · rw [decide_eq_false hv4, br_false]
          rw [hrest, asI_i, hl5 g1, uncons_c, asI_i, uncons_c, asI_i, uncons_c, asI_i, uncons_c, asS_s, uncons_c, asI_i, endl_n, g3, bnd_some, asT_t, toList2, uncons_c, asI_i, uncons_c, endl_n, ld_at gp3 1 (.int .i64 o.v) rfl, asI_i, hl5 gp3, uncons_c, asI_i, uncons_c, asI_i, uncons_c, asI_i, uncons_c, asS_s, uncons_c, asI_i, endl_n, g4, bnd_some, asT_t, toList2, uncons_c, asI_i, uncons_c, asI_i, endl_n, beq_self_eq_true, br_true, ld_at gp4 1 (.int .i64 o.v) rfl, asI_i, g5, bnd_some, asB_b]
          exact fin _ hQ5 hI5 ⟨σ6, e6, s6⟩
        obtain ⟨u, hu⟩ : ∃ u : Nat, o.v = u := ⟨o.v.toNat, by omega⟩
        obtain ⟨sv, hsv, gt⟩ := pl_taken L (k + 11) hQ1 hI (by omega) u (by omega)
        have hsv' : ∀ K : Value → Res, σ1.ld wn (0 + 2 + Int.toNat o.v * 1) K = K (ptr sv) := fun K => by rw [hu, show 0 + 2 + Int.toNat (u : Int) * 1 = 2 + u by simp]; exact hsv K
        obtain ⟨σ7, hp7, g7, s7⟩ := put_cell g1 3 (.int .i64 (IntKind.wrap .i64 ((N.st u).last + 1))) (by simp [c10]) rfl
        rw [stepR'] at g7
        have hpl := hQ1.lt p (by simp)
        have hQ7 : QP σ0 σ7 nd g wn gr N N gs gs [p] := hQ1.own ⟨s7, fun x hx => by simp at hx; subst hx; exact ⟨.inl (by simp), by have := s7.1; omega⟩⟩
        obtain ⟨x8, e8, y8, τ3, τ4, τ5, N8, t3, tp3, t4, tp4, t5, hQ8, hI8⟩ := take hQ7 g7
        obtain ⟨τ6, f6, u6⟩ := pl_tail L k hL hQ8 hI8 (by omega) KK
        rw [decide_eq_true hv4, br_true, hrest, asI_i, need_of (by simp [inRange]; omega), hsv', asP_p, gt, bnd_some, asI_i, hp7]
        rw [ld_at g7 1 (.int .i64 o.v) rfl, asI_i, hl5 g7, uncons_c, asI_i, uncons_c, asI_i, uncons_c, asI_i, uncons_c, asS_s, uncons_c, asI_i, endl_n, t3, bnd_some, asT_t, toList2, uncons_c, asI_i, uncons_c, endl_n, ld_at tp3 1 (.int .i64 o.v) rfl, asI_i, hl5 tp3, uncons_c, asI_i, uncons_c, asI_i, uncons_c, asI_i, uncons_c, asS_s, uncons_c, asI_i, endl_n, t4, bnd_some, asT_t, toList2, uncons_c, asI_i, uncons_c, asI_i, endl_n, beq_self_eq_true, br_true, ld_at tp4 1 (.int .i64 o.v) rfl, asI_i, t5, bnd_some, asB_b]
        exact fin _ hQ8 hI8 ⟨τ6, f6, u6⟩
    rw [show (o.kind == 1) = false by simpa using h1, br_false]
    by_cases h2 : o.kind = 2
    · obtain ⟨x, e, y, σ3, σ4, N', g3, g4, kb, hQ4, hI4, hE⟩ := pl_begin L k hL hQ1 hI (by omega)
      obtain ⟨σ5, g5, s5⟩ := E.place_ok L (k + 8) (by omega) (a := 0) hE
      have hQ5 := (hQ4.idle s5).1
      obtain ⟨σ6, e6, s6⟩ := pl_tail L k hL hQ5 hI4 (by omega) KK
      rw [show (o.kind == 2) = true by simpa using h2, br_true, g3, bnd_some, asT_t, toList2, uncons_c, asI_i, uncons_c, endl_n, g4, bnd_some, asT_t, toList2, uncons_c, asI_i, uncons_c, asI_i, endl_n, beq_self_eq_true, br_true, g5, bnd_some, asB_b]
      exact fin _ hQ5 hI4 ⟨σ6, e6, s6⟩
    rw [show (o.kind == 2) = false by simpa using h2, br_false]
    by_cases h3 : o.kind = 3
    · obtain ⟨σ3, N', e3, hQ3, hI3⟩ := pl_steps L k n hL (c := i) (by omega) (p := p) (o := o) (ad := some ⟨q, 0, none⟩) (n1 := l.length) (z1 := z) (l87 := l.length) (i := i) (by omega) L 0 σ1 N (by omega) (by omega) g1 hQ1 hI
      obtain ⟨σ4, e4⟩ := rec_ hQ3 (hI3.mono (by omega))
      rw [show (o.kind == 3) = true by simpa using h3, br_true]
      exact ⟨σ4, e3.trans e4⟩
    rw [show (o.kind == 3) = false by simpa using h3, br_false]
    by_cases h4 : o.kind = 4
    · obtain ⟨σ3, σ4, N', g3, kb3, g4, kb4, hQ4, hI4⟩ := pl_crash L k hL hQ1 hI (by omega) o.keep hkp.1 hkp.2
      obtain ⟨σ5, g5, s5⟩ := E.place_ok L (k + 8) (by omega) (σ := σ4) (v := .nilIface) (c := 0) (a := 0) (.inl ⟨rfl, rfl⟩)
      have hQ5 := (hQ4.idle s5).1
      have gp3 : σ3.get p = _ := (kb3 p (by simp)).trans g1
      obtain ⟨σ6, e6, s6⟩ := pl_tail L k hL hQ5 (hI4.mono (Nat.le_succ i)) (by omega) KK
      rw [show (o.kind == 4) = true by simpa using h4, br_true, ld_at g1 8 (.int .u64 o.keep) rfl, asI_i, g3, bnd_some, ld_at gp3 8 (.int .u64 o.keep) rfl, asI_i, ld_at g1 8 (.int .u64 o.keep) rfl, asI_i, chk_same, g4, bnd_some, asI_i, g5, bnd_some, asB_b]
      exact fin _ hQ5 (hI4.mono (Nat.le_succ i)) ⟨σ6, e6, s6⟩
    rw [show (o.kind == 4) = false by simpa using h4, br_false]
    have grp : ∀ (fn : Nat) (gone : Bool), (∀ {σ : St} {G : List Nat} {gs : GS}, Grp σ g G gs → ∃ r G' σ', evCall Tryz.prog env L (k + 12) fn [ptr g, .int .i64 o.v, .int .i64 o.n] σ = some (r, σ') ∧ Turn σ σ' G G' ∧ ((putE gs o.n o.v gone ≠ 0 ∧ GErr σ' r (putE gs o.n o.v gone) ∧ Grp σ' g G' gs) ∨ (putE gs o.n o.v gone = 0 ∧ r = .nilIface ∧ Grp σ' g G' (gs.add o.n o.v gone)))) →
        ∃ r x σ3 σ4 σ5 gs', evCall Tryz.prog env L (k + 12) fn [ptr g, .int .i64 o.v, .int .i64 o.n] σ1 = some (r, σ3) ∧ σ3.get p = some (.own (c10 o) 61) ∧ evCall Tryz.prog env L (k + 12) 27 [r] σ3 = some (.int .i64 x, σ4) ∧ σ4.get p = some (.own (c10 o) 61) ∧ evCall Tryz.prog env L (k + 12) 36 [ptr gr, .int .i64 o.v, .int .i64 o.n, .bool gone] σ4 = some (.int .i64 x, σ5) ∧ QP σ0 σ5 nd g wn gr N N gs' gs' [p] := by
      intro fn gone hfn
      obtain ⟨r, x, σ3, σ4, σ5, gs', g3, kb3, g4, kb4, g5, hQ5⟩ := pl_group L k hL hQ1 o.n o.v gone fn hfn
      have gp3 : σ3.get p = _ := (kb3 p (by simp)).trans g1
      exact ⟨r, x, σ3, σ4, σ5, gs', g3, gp3, g4, (kb4 p (by simp)).trans gp3, g5, hQ5⟩
    have hI' := hI.mono (Nat.le_succ i)
    by_cases h5 : o.kind = 5
    · obtain ⟨r, x, σ3, σ4, σ5, gs', g3, gp3, g4, gp4, g5, hQ5⟩ := grp 35 false (fun h => gadd_spec L (k + 8) hL h o.n o.v)
      obtain ⟨σ6, e6, s6⟩ := pl_tail L k hL hQ5 hI' (by omega) KK
      rw [show (o.kind == 5) = true by simpa using h5, br_true, ld_at g1 1 (.int .i64 o.v) rfl, asI_i, ld_at g1 2 (.int .i64 o.n) rfl, asI_i, g3, bnd_some, g4, bnd_some, asI_i, ld_at gp4 1 (.int .i64 o.v) rfl, asI_i, ld_at g1 1 (.int .i64 o.v) rfl, asI_i, chk_same, ld_at gp3 1 (.int .i64 o.v) rfl, asI_i, chk_same, ld_at gp4 2 (.int .i64 o.n) rfl, asI_i, ld_at g1 2 (.int .i64 o.n) rfl, asI_i, chk_same, ld_at gp3 2 (.int .i64 o.n) rfl, asI_i, chk_same, g5, bnd_some, asI_i, beq_self_eq_true]
      exact fin _ hQ5 hI' ⟨σ6, e6, s6⟩
    rw [show (o.kind == 5) = false by simpa using h5, br_false]
    by_cases h6 : o.kind = 6
    · obtain ⟨r, x, σ3, σ4, σ5, gs', g3, gp3, g4, gp4, g5, hQ5⟩ := grp 37 true (fun h => gremove_spec L (k + 8) hL h o.n o.v)
      obtain ⟨σ6, e6, s6⟩ := pl_tail L k hL hQ5 hI' (by omega) KK
      rw [show (o.kind == 6) = true by simpa using h6, br_true, ld_at g1 1 (.int .i64 o.v) rfl, asI_i, ld_at g1 2 (.int .i64 o.n) rfl, asI_i, g3, bnd_some, g4, bnd_some, asI_i, ld_at gp4 1 (.int .i64 o.v) rfl, asI_i, ld_at g1 1 (.int .i64 o.v) rfl, asI_i, chk_same, ld_at gp3 1 (.int .i64 o.v) rfl, asI_i, chk_same, ld_at gp4 2 (.int .i64 o.n) rfl, asI_i, ld_at g1 2 (.int .i64 o.n) rfl, asI_i, chk_same, ld_at gp3 2 (.int .i64 o.n) rfl, asI_i, chk_same, g5, bnd_some, asI_i, beq_self_eq_true]
      exact fin _ hQ5 hI' ⟨σ6, e6, s6⟩
    rw [show (o.kind == 6) = false by simpa using h6, br_false]
    by_cases h7 : o.kind = 7
    · obtain ⟨x, σ3, σ4, N', g3, g4, kb, hQ4, hI4⟩ := pl_promote L k hL hQ1 hI (by omega)
      obtain ⟨σ6, e6, s6⟩ := pl_tail L k hL hQ4 (hI4.mono (Nat.le_succ i)) (by omega) KK
      rw [show (o.kind == 7) = true by simpa using h7, br_true, g3, bnd_some, asI_i, g4, bnd_some, asI_i, beq_self_eq_true]
      exact fin _ hQ4 (hI4.mono (Nat.le_succ i)) ⟨σ6, e6, s6⟩
    rw [show (o.kind == 7) = false by simpa using h7, br_false]
    obtain ⟨σ6, e6, s6⟩ := pl_tail0 L k hL hQ1 hI' (by omega) KK
    exact fin _ hQ1 hI' ⟨σ6, e6, s6⟩
end
end Go.AM.Bk

namespace Go.AM.Bk
open Go.Proofs
theorem intOf {σ : St} {row : List Value} (h : Go.AM.Img Tryz.prog σ 3 row) : ∃ n : Int, row = c1 n := by
  obtain ⟨n, e, _⟩ := Go.AM.Img.int_inv Tryz.underlying3 h
  exact ⟨n, e⟩
set_option maxRecDepth 20000 in
theorem recB {σ : St} {row : List Value} (h : Go.AM.Img Tryz.prog σ 58 row) : ∃ r : S.Rec, row = S.c5 r := by
  obtain ⟨h1, h2⟩ := h.struct_inv Tryz.underlying58
  have hl : row.length = 5 := by rw [h1]; kernel_rfl
  match row, hl with
  | [x, y, b, s, m], _ =>
    have hx := h2 _ (List.mem_of_getElem? (i := 0) rfl)
    have hy := h2 _ (List.mem_of_getElem? (i := 1) rfl)
    have hb := h2 _ (List.mem_of_getElem? (i := 2) rfl)
    have hs := h2 _ (List.mem_of_getElem? (i := 3) rfl)
    have hm := h2 _ (List.mem_of_getElem? (i := 4) rfl)
    have e3 : Tryz.prog.cellsOf 3 = 1 := by kernel_rfl
    have e9 : Tryz.prog.cellsOf 9 = 1 := by kernel_rfl
    simp only [e3] at hx hy hb hm
    simp only [e9] at hs
    obtain ⟨n0, w0, _⟩ := Go.AM.Img.int_inv Tryz.underlying3 hx
    obtain ⟨n1, w1, _⟩ := Go.AM.Img.int_inv Tryz.underlying3 hy
    obtain ⟨n2, w2, _⟩ := Go.AM.Img.int_inv Tryz.underlying3 hb
    obtain ⟨t, w3, _⟩ := Go.AM.Img.str_inv Tryz.underlying9 hs
    obtain ⟨n4, w4, _⟩ := Go.AM.Img.int_inv Tryz.underlying3 hm
    simp at w0 w1 w2 w3 w4
    exact ⟨⟨n0, n1, n2, t, n4⟩, by rw [w0, w1, w2, w3, w4]; rfl⟩
set_option maxRecDepth 20000 in
theorem opB {σ : St} {row : List Value} (h : Go.AM.Img Tryz.prog σ 61 row) : ∃ o : OpB, row = c10 o := by
  obtain ⟨h1, h2⟩ := h.struct_inv Tryz.underlying61
  have hl : row.length = 10 := by rw [h1]; kernel_rfl
  match row, hl with
  | [x, y, z, r0, r1, r2, r3, r4, kp, b], _ =>
    have hx := h2 _ (List.mem_of_getElem? (i := 0) rfl)
    have hy := h2 _ (List.mem_of_getElem? (i := 1) rfl)
    have hz := h2 _ (List.mem_of_getElem? (i := 2) rfl)
    have hr := h2 _ (List.mem_of_getElem? (i := 3) rfl)
    have hk := h2 _ (List.mem_of_getElem? (i := 4) rfl)
    have hb := h2 _ (List.mem_of_getElem? (i := 5) rfl)
    have e3 : Tryz.prog.cellsOf 3 = 1 := by kernel_rfl
    have e58 : Tryz.prog.cellsOf 58 = 5 := by kernel_rfl
    have e59 : Tryz.prog.cellsOf 59 = 1 := by kernel_rfl
    have e4 : Tryz.prog.cellsOf 4 = 1 := by kernel_rfl
    simp only [e3] at hx hy hz
    simp only [e58] at hr
    simp only [e59] at hk
    simp only [e4] at hb
    obtain ⟨n0, w0, _⟩ := Go.AM.Img.int_inv Tryz.underlying3 hx
    obtain ⟨n1, w1, _⟩ := Go.AM.Img.int_inv Tryz.underlying3 hy
    obtain ⟨n2, w2, _⟩ := Go.AM.Img.int_inv Tryz.underlying3 hz
    obtain ⟨r, wr⟩ := recB hr
    obtain ⟨n3, w3, hu⟩ := Go.AM.Img.int_inv Tryz.underlying59 hk
    obtain ⟨c, w4⟩ := Go.AM.Img.bool_inv Tryz.underlying4 hb
    simp [S.c5] at w0 w1 w2 w3 w4 wr
    obtain ⟨a0, a1, a2, a3, a4⟩ := wr
    exact ⟨⟨n0, n1, n2, r, n3, c⟩, by rw [w0, w1, w2, w3, w4, a0, a1, a2, a3, a4]; rfl⟩
end Go.AM.Bk

namespace Go.AM.Bk
open Go.Proofs
structure OpP where
  o : OpB
  h0 : 0 ≤ o.keep
  h1 : o.keep < 18446744073709551616
def c10P (p : OpP) : List Value := c10 p.o
theorem holds_opp {σ : St} {ad : Option Addr} {l : List OpP} (h : Holds σ 10 c10P ad l) : Holds σ 10 c10 ad (l.map OpP.o) := by
  intro hne
  obtain ⟨q, vs, e, hc, hq, hl, hg⟩ := h (fun h0 => hne (by rw [h0]; rfl))
  refine ⟨q, vs, e, hc, hq, by simpa using hl, fun i a ha j v hj hv => ?_⟩
  rw [List.getElem?_map] at ha
  obtain ⟨p, hp, rfl⟩ := Option.map_eq_some_iff.1 ha
  exact hg i p hp j v hj hv
set_option maxRecDepth 20000 in
theorem opP {σ : St} {row : List Value} (h : Go.AM.Img Tryz.prog σ 61 row) : ∃ o : OpP, row = c10P o := by
  obtain ⟨o, e⟩ := opB h
  obtain ⟨h1, h2⟩ := h.struct_inv Tryz.underlying61
  have hk := h2 _ (List.mem_of_getElem? (i := 4) rfl)
  have e59 : Tryz.prog.cellsOf 59 = 1 := by kernel_rfl
  simp only [e59] at hk
  obtain ⟨n3, w3, wf⟩ := Go.AM.Img.int_inv Tryz.underlying59 hk
  rw [e] at w3
  have w4 : [Value.int .u64 o.keep] = [Value.int .u64 n3] := w3
  have e3 : o.keep = n3 := by
    injection w4 with a
    injection a
  have hb : 0 ≤ n3 ∧ n3 ≤ 18446744073709551615 := by simpa [Lit.wf, IntKind.min, IntKind.max, IntKind.bits, IntKind.signed] using wf
  exact ⟨⟨o, by omega, by omega⟩, e⟩
theorem plays_holds (L k : Nat) (hL : 100000 < L) {σ0 : St} {ad0 ad1 : Option Addr} {l0 : List Int} {l1 : List OpP} (h0 : Holds σ0 1 c1 ad0 l0) (h1' : Holds σ0 10 c10P ad1 l1) :
    ∃ σ', evCall Tryz.prog env L (k + 13) 6 [.slice ad0 l0.length 0, .slice ad1 l1.length 0] σ0 = some (.bool true, σ') := by
  have h1 := holds_opp h1'
  have hkeep : ∀ o ∈ l1.map OpP.o, 0 ≤ o.keep ∧ o.keep < 18446744073709551616 := fun o ho => by
    obtain ⟨p, _, rfl⟩ := List.mem_map.1 ho
    exact ⟨p.h0, p.h1⟩
  rw [show l1.length = (l1.map OpP.o).length by simp]
  generalize l1.map OpP.o = l at h1 hkeep
  rw [p6_eq]
  obtain ⟨σ1, g1, s1⟩ := awake_spec L k hL σ0
  have hk1 : Kept' σ0.next σ0 σ1 := ⟨s1.1, fun k hk => s1.2 k hk (by simp)⟩
  rw [g1, bnd_some, asB_b, not_true, br_false]
  obtain ⟨b, g2, hb⟩ := few_spec80 L (k + 11) hL hk1 0 h1
  rw [g2, bnd_some, asB_b]
  obtain ⟨σ3, g3, _⟩ := awake_spec L k hL σ1
  cases b with
  | false => rw [not_false, br_true, g3, bnd_some, asB_b]; exact ⟨σ3, rfl⟩
  | true =>
  rw [not_true, br_false]
  by_cases h10 : ((l0.length : Nat) : Int) > 10
  · rw [decide_eq_true h10, br_true, g3, bnd_some, asB_b]; exact ⟨σ3, rfl⟩
  rw [decide_eq_false h10, br_false]
  rcases gnew_spec L (k + 9) hL hk1 0 (by omega) h0 with ⟨e, σ2, hno, e2, s2⟩ | ⟨g, σ2, hok, e2, hG2, s2, hg⟩
  · rcases dgnew_spec L (k + 10) hL (hk1.step s2 (by simp)) 0 (by omega) h0 with ⟨x, y, σ4, _, e4, s4⟩ | ⟨_, _, hok, _⟩
    · rw [e2, bnd_some, asT_t, toList2, uncons_c, asP_p, uncons_c, endl_n, e4, bnd_some, asT_t]
      show ∃ σ', (uncons [Value.pointer none, .int .i64 x, .int .i64 y] _) = _
      rw [uncons_c, asP_p, uncons_c, asI_i, uncons_c, asI_i, endl_n]
      exact ⟨σ4, rfl⟩
    · exact absurd hok hno
  rcases dgnew_spec L (k + 10) hL (hk1.step s2 (by simp)) 0 (by omega) h0 with ⟨_, _, _, hno, _⟩ | ⟨gr, σ4, _, e4, hD4, s4, hgr⟩
  · exact absurd hok hno
  have hO1 : Owns σ0 σ2 [[g], []] := (((Owns.start σ0).idle s1).more (Same.refl _ _) (F := []) (by simp)).more s2 (fun q hq => by have := hG2.lt q hq; simp at hq; subst hq; omega)
  have hO2 : Owns σ0 σ4 [[gr], [g], []] := hO1.more s4 (fun q hq => by have := hD4.lt q hq; simp at hq; subst hq; omega)
  have hO3 : Owns σ0 σ4 [[], [g], [gr], []] := hO2.swap.more (Same.refl _ _) (F := []) (by simp)
  obtain ⟨d, FDk, σ5, e5, hDk, hO5, s5⟩ := new66 L (k + 11) hO3
  obtain ⟨nd, m, a, F, σ6, e6, h6, k6⟩ := nnew_spec L (k + 1) hL (g := g) hDk hO5
  obtain ⟨a9, F9, σ7, e7, hR7, s7, q7⟩ := D.rnew_spec L (k + 11) (by omega) σ6 66 (by omega)
  obtain ⟨wn, w, s, F2, FI, σ8, e8, hx8, s8, q8⟩ := dnnew_spec L (k + 5) hL (gr := gr) (show D.Ref σ7 a9 F9 fresh66 [] from hR7)
  have s68 := s7.trans s8
  have n7 := s7.1
  have hT : Turn σ6 σ8 [] (xs F2 wn F9 FI []).flatten := ⟨s68, fun q hq => ⟨.inr (by
    obtain ⟨H, hH, hqH⟩ := List.mem_flatten.1 hq
    simp only [xs, List.mem_cons, List.not_mem_nil, or_false] at hH
    have hq8 : ∀ H', H' ∈ xs F2 wn [] FI [] → ∀ q ∈ H', σ6.next ≤ q := fun H' hH' q hq => by have := q8 H' hH' q hq; omega
    rcases hH with rfl | rfl | rfl | rfl | rfl | rfl | rfl | rfl
    · exact hq8 _ (by simp [xs]) q hqH
    · exact hq8 _ (by simp [xs]) q hqH
    · exact hq8 _ (by simp [xs]) q hqH
    · exact hq8 _ (by simp [xs]) q hqH
    · exact hq8 _ (by simp [xs]) q hqH
    · exact q7 q hqH
    · exact hq8 _ (by simp [xs]) q hqH
    · simp at hqH), hx8.flat q hq⟩⟩
  have hG6 : Grp σ6 g [g] (gOf l0) := ((hG2.idle s4).idle s5).moved (fun q hq => k6 [g] (by simp) q hq) (h6.lt (by simp))
  have hD6 : DG σ6 gr [gr] (gOf l0) := (hD4.idle s5).moved (fun q hq => k6 [gr] (by simp) q hq) (h6.lt (by simp))
  have hQ : QP σ0 σ8 nd g wn gr newN newN (gOf l0) (gOf l0) [] := ⟨m, d, a, F, [g], [gr], _, ⟨h6.turned 3 (A := []) rfl hT, hG6.idle s68, hD6.idle s68, ⟨a9, w, s, F2, F9, FI, [], none, 0, 0, 0, rfl, hx8⟩⟩⟩
  obtain ⟨σ9, e9⟩ := pl_loop (z := 0) L k hL (hb rfl) hkeep h1 L 0 σ8 newN (gOf l0) (by omega) (by have := hb rfl; omega) hQ newN_inv
  refine ⟨σ9, ?_⟩
  rw [e2, bnd_some, asT_t, toList2, uncons_c, asP_p, uncons_c, endl_n, e4, bnd_some, asT_t]
  show (uncons [ptr gr, .int .i64 0, .int .i64 0] _) = _
  rw [uncons_c, asP_p, uncons_c, asI_i, uncons_c, asI_i, endl_n, show (Option.isNone (some (⟨g, 0, none⟩ : Addr))) = false from rfl, br_false, show (Option.isNone (some (⟨gr, 0, none⟩ : Addr))) = false from rfl, br_false, e5, bnd_some, asP_p, e6, bnd_some, asT_t, toList2, uncons_c, asP_p, uncons_c, endl_n,
    show evCall Tryz.prog env L (k + 12) 9 [.int .i64 66] σ6 = some (ptr a9, σ7) from e7, bnd_some, asP_p, e8, bnd_some, asT_t, toList2, uncons_c, asP_p, uncons_c, asI_i, endl_n, eqNil_nil, not_true, br_false, show ((0 : Int) != 0) = false from rfl, br_false]
  exact e9
end Go.AM.Bk
