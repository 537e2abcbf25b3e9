/-
  Texts laid together: BkVe, BkVf.
-/
import Derived.Test.YtnihjgamfnabnaaGreatDoorBkVag
set_option linter.unusedVariables false
set_option linter.unusedSimpArgs false
set_option linter.unusedSectionVars false
namespace Go.AM.Bk
open Go.Proofs
section
variable {σ : St} {wn gr a w : Nat} {s : Nat → Nat} {F : Nat → List Nat} {FD FI FB : List Nat} {ad : Option Addr} {nb z : Nat} {dn : Int} {N : NS} {c : Nat}
theorem ddrop_loop (L k : Nat) (hL : 100000 < L) (hc : c ≤ 899) {mk : Int} (hmk : (N.im.km : Int) = mk) {l : List Nat} (hl : ∀ v ∈ l, v < 4) (hl4 : l.length ≤ 4) (hnd : l.Nodup) {adl : Option Addr} {zl : Nat} {ql : List Nat} (hI : N.Inv c) : ∀ (n i : Nat) (σ : St) (F : Nat → List Nat), i ≤ l.length → l.length - i < n → Row c1 1 3 σ adl zl ql (ints l) → (∀ x ∈ ql, x ∉ (xs F wn FD FI FB).flatten) → DNX σ wn gr a w s F FD FI FB ad nb z dn (N.dropL mk (l.take i)) →
    ∃ F' σ2, lpAt Tryz.prog env L (k + 2) 78 [true, true] [] n [(0, ptr wn), (2, .slice adl l.length zl), (17, .int .i64 l.length), (18, .int .i64 i)] σ = some (.tuple #[], σ2) ∧ DNX σ2 wn gr a w s F' FD FI FB ad nb z dn (N.dropL mk l) ∧ Turn σ σ2 (xs F wn FD FI FB).flatten (xs F' wn FD FI FB).flatten
  | 0, i, σ, F, _, hn, _, _, _ => by omega
  | n + 1, i, σ, F, hi, hn, hR, hqX, h => by
    rw [f78_l2]
    by_cases hie : i = l.length
    · subst hie
      rw [List.take_length] at h
      rw [decide_eq_false (by omega), br_false]
      exact ⟨F, σ, rfl, h, Turn.idle (Same.refl _ _) h.flat⟩
    have hget : l[i]? = some l[i] := List.getElem?_eq_getElem (by omega)
    have hlv := hl l[i] (List.getElem_mem _)
    have htk : l.take (i + 1) = l.take i ++ [l[i]] := by rw [List.take_add_one, hget]; rfl
    have hno : l[i] ∉ l.take i := by
      intro hx
      have h2 := hnd
      rw [← List.take_append_drop i l, List.nodup_append] at h2
      have hdr : l.drop i = l[i] :: l.drop (i + 1) := List.drop_eq_getElem_cons (by omega)
      exact h2.2.2 _ hx _ (by rw [hdr]; exact List.mem_cons_self) rfl
    obtain ⟨p, e, hat⟩ := hR.at (fun _ => rfl) (i := i) (a := (l[i] : Int)) (by unfold ints; rw [List.getElem?_map, hget]; rfl)
    generalize l[i] = v at *
    have hds := dropL_snoc N mk (l.take i) v hno
    rw [← htk] at hds
    have hsv : (N.dropL mk (l.take i)).st v = N.st v := by unfold NS.dropL; simp [hno]
    subst e
    have hw : IntKind.wrap .i64 ((i : Int) + 1) = ((i + 1 : Nat) : Int) := by rw [wrap_in _ (by omega) (by omega)]; omega
    have hv4 := hI.st v hlv
    have hlen := hv4.len
    have hf1 := hv4.f1
    have hS := h.st v hlv
    rw [hsv] at hS
    obtain ⟨qs, adS, zS, hFv, hqs, hcS, hRS⟩ := hS.ex
    have hin : inRange (i : Int) (l.length : Nat) = true := by simp [inRange]; omega
    have iv : inRange (v : Int) 4 = true := by simp [inRange]; omega
    have hldl : ∀ K : Value → Res, σ.ld p (0 + Int.toNat (i : Int) * 1) K = K (.int .i64 v) := fun K => hat 0 (.int .i64 v) _ (by omega) rfl (by simp) K
    have hIm : DI σ w a (N.im.t : Nat) (N.im.km : Nat) N.im.bl FI := h.img
    obtain ⟨qi, adi, zi, hFI, hcI, hbl, hRi, _⟩ := hIm.ex
    rw [hmk] at hcI
    have hld1 : ∀ K : Value → Res, σ.ld wn (0 + 1) K = K (ptr w) := fun K => ld_at h.nd (0 + 1) _ rfl K
    have hldm : ∀ K : Value → Res, σ.ld w (0 + 2) K = K (.int .i64 mk) := fun K => ld_at hcI (0 + 2) _ rfl K
    rw [decide_eq_true (by omega), br_true, need_of hin, adr_some, hldl, asI_i, need_of iv, h.stg v hlv _ (by simp), asP_p, adr_some, ld_at hcS (0 + 2) (.int .i64 (N.st v).mark) rfl, asI_i, hld1, asP_p, adr_some, hldm, asI_i, hw]
    by_cases hm : (N.st v).mark = mk
    · rw [show ((N.st v).mark != mk) = false by simpa using hm, br_false]
      rw [if_neg (by simpa using hm)] at hds
      have hE : N.dropL mk (l.take (i + 1)) = N.dropL mk (l.take i) := by
        rw [hds]
        have : upd (N.dropL mk (l.take i)).st v (N.st v) = (N.dropL mk (l.take i)).st := by
          funext u; unfold upd; by_cases hu : u = v
          · subst hu; simp [hsv]
          · simp [hu]
        rw [this]
      exact ddrop_loop L k hL hc hmk hl hl4 hnd hI n (i + 1) σ F (by omega) (by omega) hR hqX (by rw [hE]; exact h)
    · rw [if_pos hm] at hds
      rw [show ((N.st v).mark != mk) = true by simpa using hm, br_true, need_of hin, adr_some, hldl, asI_i, need_of iv, h.stg v hlv _ (by simp), asP_p, hld1, asP_p, adr_some, hldm, asI_i]
      have next : ∀ {σ2 : St} {F' : List Nat}, Turn σ σ2 (F v) F' → S.Ref σ2 (s v) F' ((N.st v).drop mk).first ((N.st v).drop mk).rs ((N.st v).drop mk).rs.length ((N.st v).drop mk).mark →
          ∃ F'' σ3, lpAt Tryz.prog env L (k + 2) 78 [true, true] [] n [(0, ptr wn), (2, .slice (some ⟨p, 0, none⟩) l.length zl), (17, .int .i64 l.length), (18, .int .i64 ((i + 1 : Nat) : Int))] σ2 = some (.tuple #[], σ3) ∧ DNX σ3 wn gr a w s F'' FD FI FB ad nb z dn (N.dropL mk l) ∧ Turn σ σ3 (xs F wn FD FI FB).flatten (xs F'' wn FD FI FB).flatten := by
        intro σ2 F' hT hS2
        obtain ⟨h2, k2⟩ := h.turn v hlv hT hS2
        rw [← hds] at h2
        have hqF : ∀ x ∈ ql, x ∉ F v := fun x hx hxF => hqX x hx (List.mem_flatten.2 ⟨F v, List.mem_of_getElem? (xs_get F wn FD FI FB v hlv), hxF⟩)
        have hR2 := hR.same hT.same hqF
        obtain ⟨F'', σ3, e3, h3, k3⟩ := ddrop_loop L k hL hc hmk hl hl4 hnd hI n (i + 1) σ2 _ (by omega) (by omega) hR2 (fun x hx hxX => by
          rcases (k2.sub x hxX).1 with h | h
          · exact hqX x hx h
          · have := hR.lt x hx; omega) h2
        exact ⟨F'', σ3, e3, h3, k2.trans k3⟩
      rcases S.rdrop_spec hS L k ⟨by omega, by omega, by omega⟩ (by omega) (Nat.le_refl _) mk with ⟨j, r, F', σ2, g2, hS2, hT2, hjl, hj, hh, hno2⟩ | ⟨g2, hno2⟩
      · have hup := upTo_some hj hh hno2
        rw [g2, bnd_some, asI_i]
        refine next hT2 ?_
        unfold SS.drop
        rw [hup]
        dsimp only
        rw [List.length_drop]
        exact hS2
      · have hup := upTo_none (rs := (N.st v).rs) (m := mk) (fun r hr => by
          obtain ⟨j, hj⟩ := List.mem_iff_getElem?.1 hr
          exact hno2 j r (List.getElem?_eq_some_iff.1 hj).1 hj)
        rw [g2, bnd_some, asI_i]
        refine next (.idle (Same.refl _ _) hS.lt) ?_
        unfold SS.drop
        rw [hup]
        exact hS
theorem ddrop_spec (L k : Nat) (hL : 100000 < L) (hc : c ≤ 899) (h : DNX σ wn gr a w s F FD FI FB ad nb z dn N) (hI : N.Inv c) {GF : List Nat} {gs : GS} (hG : DG σ gr GF gs) :
    ∃ F' σ', evCall Tryz.prog env L (k + 3) 78 [ptr wn] σ = some (.tuple #[], σ') ∧ DNX σ' wn gr a w s F' FD FI FB ad nb z dn (N.drop gs) ∧ Turn σ σ' (xs F wn FD FI FB).flatten (xs F' wn FD FI FB).flatten := by
  obtain ⟨adl, zl, ql, σ1, g1, hR, s1, hq⟩ := dat_spec L k (by omega) hG (N.im.km : Int)
  have h1 := h.idle s1
  have hal := at_len gs (N.im.km : Int)
  obtain ⟨qi, adi, zi, hFI, hcI, hbl, hRi, _⟩ := h.img.ex
  obtain ⟨F', σ2, e2, h2, k2⟩ := ddrop_loop (N := N) L k hL hc rfl (l := gs.at_ (N.im.km : Int)) (fun v hv => at_lt hv) hal (at_nodup _ _) hI L 0 σ1 F (by omega) (by omega) hR (fun x hx hxX => by have := hq x hx; have := h.flat x hxX; omega) (by
    have : N.dropL (N.im.km : Int) ((gs.at_ (N.im.km : Int)).take 0) = N := by unfold NS.dropL; simp
    rw [this]; exact h1)
  refine ⟨F', σ2, ?_, h2, Turn.before s1 k2 h.flat⟩
  rw [f78_eq, ld_at h.nd 6 (ptr gr) rfl, asP_p, ld_at h.nd 1 (ptr w) rfl, asP_p, adr_some, ld_at hcI (0 + 2) (.int .i64 (N.im.km : Nat)) rfl, asI_i, g1, bnd_some, asSl_s]
  exact e2
theorem DNX.still (h : DNX σ wn gr a w s F FD FI FB ad nb z dn N) : DNX σ wn gr a w s F FD FI FB ad nb z dn { N with im := { N.im with work := none } } :=
  ⟨h.own, h.nd, h.disk, h.img, h.st, fun mk bl k e => by cases e⟩
theorem DNX.imgT (h : DNX σ wn gr a w s F FD FI FB ad nb z dn N) {σ1 σ' : St} {FD' FI' : List Nat} {im' : IS} (hw' : im'.work = none) (hR : D.Ref σ' a FD' im'.S im'.W) (hI : DI σ' w a (im'.t : Nat) (im'.km : Nat) im'.bl FI') (hT1 : Turn σ σ1 FD FD') (hT2 : Turn σ1 σ' FI FI') :
    DNX σ' wn gr a w s F FD' FI' FB ad nb z dn { N with im := im' } ∧ Turn σ σ' (xs F wn FD FI FB).flatten (xs F wn FD' FI' FB).flatten ∧ (∀ {B : List ByteArray}, Row cS 1 9 σ ad z FB B → Row cS 1 9 σ' ad z FB B) := by
  have o1 : Owns σz σ1 (xs F wn FD' FI FB) := h.own.turned 5 (F := FD) rfl hT1
  have t1 : Turn σ σ1 (xs F wn FD FI FB).flatten (xs F wn FD' FI FB).flatten := turn_flat h.own 5 (F := FD) rfl hT1
  have o2 : Owns σz σ' (xs F wn FD' FI' FB) := o1.turned 6 (F := FI) rfl hT2
  have t2 : Turn σ1 σ' (xs F wn FD' FI FB).flatten (xs F wn FD' FI' FB).flatten := turn_flat o1 6 (F := FI) rfl hT2
  have n1 := hT1.same.1
  have hwn1 : σ1.get wn = _ := (hT1.same.2 wn h.ndlt (h.own.off 4 5 (by omega) rfl rfl wn (by simp))).trans h.nd
  have hwn2 : σ'.get wn = _ := (hT2.same.2 wn (by have := h.ndlt; omega) (o1.off 4 6 (by omega) rfl rfl wn (by simp))).trans hwn1
  refine ⟨⟨o2, hwn2, hR, hI, fun v hv => ?_, fun mk bl k e => by rw [hw'] at e; cases e⟩, t1.trans t2, fun hB => ?_⟩
  · have hs1 := (h.st v hv).same hT1.same (h.own.off v 5 (by omega) (xs_get F wn FD FI FB v hv) rfl)
    exact hs1.same hT2.same (o1.off v 6 (by omega) (xs_get F wn FD' FI FB v hv) rfl)
  · exact (hB.same hT1.same (h.own.off 7 5 (by omega) rfl rfl)).same hT2.same (o1.off 7 6 (by omega) rfl rfl)
theorem stepS_work {x : IS} {mk k : Nat} {bl : List ByteArray} (hk : k < 34) : (stepS x mk bl k).work = some (mk, bl, k + 1) := by
  unfold stepS
  split
  · rfl
  · split
    · rename_i h; subst h; rfl
    · split
      · rename_i h; subst h; rfl
      · omega
theorem dnstep_spec (L k : Nat) (hL : 100000 < L) (hc : c ≤ 899) (h : DNX σ wn gr a w s F FD FI FB ad nb z dn N) (hI : N.Inv c) {GF : List Nat} {gs : GS} (hG : DG σ gr GF gs) (hGX : ∀ q ∈ GF, q ∉ (xs F wn FD FI FB).flatten) :
    ∃ v σ', evCall Tryz.prog env L (k + 6) 33 [ptr wn] σ = some (v, σ') ∧
      ((N.mark = 0 ∧ v = .tuple #[.bool false, .int .i64 9] ∧ σ' = σ) ∨
       (∃ bl' j, N.mark ≠ 0 ∧ N.im.work = some (N.mark.toNat, bl', j) ∧ v = .tuple #[.bool (decide (j = 34)), .int .i64 0] ∧ ∃ F' FD' FI' dn', DNX σ' wn gr a w s F' FD' FI' FB ad nb z dn' (N.step gs) ∧ Turn σ σ' (xs F wn FD FI FB).flatten (xs F' wn FD' FI' FB).flatten)) := by
  rw [f33_eq, ld_at h.nd 7 (.int .i64 N.mark) rfl, asI_i]
  by_cases h0 : N.mark = 0
  · rw [show (N.mark == 0) = true by simpa using h0, br_true]
    exact ⟨_, σ, rfl, .inl ⟨h0, rfl, rfl⟩⟩
  obtain ⟨hm0, bl, j, hwk⟩ : 0 < N.mark ∧ ∃ bl k, N.im.work = some (N.mark.toNat, bl, k) := by
    rcases hI.wk with ⟨h, _⟩ | h
    · exact absurd h h0
    · exact h
  obtain ⟨hdn, hnb, hbl, hB⟩ := h.wk _ _ _ hwk
  subst hdn; subst hnb
  have hj34 := (hI.im.ok.bw _ _ _ hwk).1
  have hmN : ((N.mark.toNat : Nat) : Int) = N.mark := by omega
  have hw1 : IntKind.wrap .i64 ((j : Int) + 1) = ((j + 1 : Nat) : Int) := by rw [wrap_in _ (by omega) (by omega)]; omega
  have hw2 : IntKind.wrap .i64 (((j + 1 : Nat) : Int) - 1) = (j : Int) := by rw [wrap_in _ (by omega) (by omega)]; omega
  obtain ⟨σ1, hp1, g1, s1⟩ := put_cell h.nd 9 (.int .i64 ((j + 1 : Nat) : Int)) (by simp) rfl
  obtain ⟨h1, t1⟩ := h.still.cells N.mark ad 32 z ((j + 1 : Nat) : Int) s1 g1 (fun mk bl k e => by cases e)
  have hB1 : Row cS 1 9 σ1 ad z FB bl := hB.same s1 (h.own.off 7 4 (by omega) rfl rfl)
  obtain ⟨FD', FI', σ2, g2, hR2, hI2, σ', hT1, hT2⟩ := dstep_spec (s := N.im) h1.disk h1.img (h1.own.off 5 6 (by omega) rfl rfl) L k hL hI.im.ok hwk hB1 (h1.own.off 7 5 (by omega) rfl rfl)
  rw [hmN] at g2
  obtain ⟨h2, t2, hBB⟩ := h1.imgT (im' := { stepS N.im N.mark.toNat bl j with work := none }) rfl hR2 hI2 hT1 hT2
  have hB2 := hBB hB1
  have t02 := t1.trans t2
  rw [show (N.mark == 0) = false by simpa using h0, br_false, ld_at h.nd 9 (.int .i64 (j : Nat)) rfl, asI_i, hw1, hp1, ld_at h1.nd 1 (ptr w) rfl, asP_p, ld_at h1.nd 9 (.int .i64 ((j + 1 : Nat) : Int)) rfl, asI_i, hw2, ld_at h1.nd 8 (.slice ad 32 z) rfl, asSl_s, ld_at h1.nd 7 (.int .i64 N.mark) rfl, asI_i, g2, bnd_some, asB_b]
  by_cases hk : j = 34
  · have hE : N.step gs = NS.drop { N with im := stepS N.im N.mark.toNat bl j, mark := 0 } gs := by unfold NS.step; rw [hwk]; dsimp only; rw [if_pos hk]
    have hsw : ({ stepS N.im N.mark.toNat bl j with work := none } : IS) = stepS N.im N.mark.toNat bl j := by subst hk; rfl
    rw [hsw] at h2
    obtain ⟨σ3, hp3, g3, s3⟩ := put_cell h2.nd 7 (.int .i64 0) (by simp) rfl
    obtain ⟨h3, t3⟩ := h2.cells 0 ad 32 z ((j + 1 : Nat) : Int) s3 g3 (fun mk bl' k e => by subst hk; cases e)
    have t03 := t02.trans t3
    have hG3 := hG.same t03.same hGX
    have hI3 : NS.Inv { N with im := stepS N.im N.mark.toNat bl j, mark := 0 } c := by
      have htc := hI.tc
      rw [hwk] at htc
      simp at htc
      refine ⟨hI.im.step (by omega) hwk, ?_, hI.st, .inl ⟨rfl, by unfold stepS; rw [if_neg (by omega), if_neg (by omega), if_neg (by omega)]⟩⟩
      unfold stepS; rw [if_neg (by omega), if_neg (by omega), if_neg (by omega)]
      show N.im.t + 1 + 0 ≤ c
      omega
    have h3' : DNX σ3 wn gr a w s F FD' FI' FB ad 32 z ((j + 1 : Nat) : Int) { N with im := stepS N.im N.mark.toNat bl j, mark := 0 } := h3
    obtain ⟨F', σ4, g4, h4, t4⟩ := ddrop_spec L (k + 2) hL hc h3' hI3 hG3
    rw [decide_eq_true hk, not_true, br_false, hp3, g4, bnd_some, asT_t, toList0, endl_n]
    exact ⟨_, σ4, rfl, .inr ⟨bl, j, h0, hwk, by rw [decide_eq_true hk], F', FD', FI', _, by rw [hE]; exact h4, t03.trans t4⟩⟩
  · have hE : N.step gs = { N with im := stepS N.im N.mark.toNat bl j } := by unfold NS.step; rw [hwk]; dsimp only; rw [if_neg hk]
    rw [decide_eq_false hk, not_false, br_true]
    refine ⟨_, σ2, rfl, .inr ⟨bl, j, h0, hwk, by rw [decide_eq_false hk], F, FD', FI', ((j + 1 : Nat) : Int), ?_, t02⟩⟩
    rw [hE]
    refine ⟨h2.own, h2.nd, h2.disk, h2.img, h2.st, fun mk bl' k' e => ?_⟩
    have e' : (stepS N.im N.mark.toNat bl j).work = some (mk, bl', k') := e
    rw [stepS_work (by omega)] at e'
    cases e'
    exact ⟨rfl, rfl, hbl, hB2⟩
theorem dncrash_spec (L k : Nat) (hL : 100000 < L) (hc : c ≤ 899) (h : DNX σ wn gr a w s F FD FI FB ad nb z dn N) (hI : N.Inv c) {GF : List Nat} {gs : GS} (hG : DG σ gr GF gs) (hGX : ∀ q ∈ GF, q ∉ (xs F wn FD FI FB).flatten) (x : Nat) (hx : x < 18446744073709551616) :
    ∃ w' F' FD' FI' σ', evCall Tryz.prog env L (k + 8) 34 [ptr wn, .int .u64 (x : Nat)] σ = some (.int .i64 0, σ') ∧ DNX σ' wn gr a w' s F' FD' FI' FB ad nb z dn (N.crash (x : Int) gs) ∧ Turn σ σ' (xs F wn FD FI FB).flatten (xs F' wn FD' FI' FB).flatten := by
  obtain ⟨t, km, bl, hg, ht, hE, _⟩ := crashed_is hI hc (x : Int)
  have hok := hI.im.ok
  obtain ⟨FD', σ1, g1, hR1, hT1⟩ := D.rcrash_spec L (k + 6) x hx h.disk (by have := hok.wl; omega) (by have := hok.wl; omega) hok.wr
  have hsl : (D.lay (D.bit (x : Int)) 0 N.im.S N.im.W).length = 66 := (D.lay_len _ _ _ _).trans hI.im.sl
  have o1 : Owns σz σ1 (xs F wn FD' FI FB) := h.own.turned 5 (F := FD) rfl hT1
  have t1 : Turn σ σ1 (xs F wn FD FI FB).flatten (xs F wn FD' FI FB).flatten := turn_flat h.own 5 (F := FD) rfl hT1
  have n1 := hT1.same.1
  have hwn1 : σ1.get wn = _ := (hT1.same.2 wn h.ndlt (h.own.off 4 5 (by omega) rfl rfl wn (by simp))).trans h.nd
  obtain ⟨σ2, s2, hor⟩ := dopen_spec (W := []) L (k + 1) hL (by simp) (by omega) hR1
  rcases hor with ⟨t', km', bl', w', FI', ho, g2, hI2, hq2⟩ | ⟨ho, _⟩
  rotate_left
  · rw [show rdS (D.lay (D.bit (x : Int)) 0 N.im.S N.im.W) [] = rd (D.lay (D.bit (x : Int)) 0 N.im.S N.im.W) from rfl, hg.opn] at ho; cases ho
  rw [show rdS (D.lay (D.bit (x : Int)) 0 N.im.S N.im.W) [] = rd (D.lay (D.bit (x : Int)) 0 N.im.S N.im.W) from rfl, hg.opn] at ho
  cases ho
  have hT2 : Turn σ1 σ2 FI FI' := ⟨s2.mono (by simp), fun q hq => ⟨.inr (hq2 q hq), hI2.lt q hq⟩⟩
  have o2 : Owns σz σ2 (xs F wn FD' FI' FB) := o1.turned 6 (F := FI) rfl hT2
  have t2 : Turn σ1 σ2 (xs F wn FD' FI FB).flatten (xs F wn FD' FI' FB).flatten := turn_flat o1 6 (F := FI) rfl hT2
  have hwn2 : σ2.get wn = some (.own (dnc a w gr s N.mark ad nb z dn) 83) := (s2.2 wn (by have := h.ndlt; omega) (by simp)).trans hwn1
  obtain ⟨σ3, hp3, g3, s3⟩ := put_cell hwn2 1 (ptr w') (by simp) rfl
  have hwl2 : wn < σ2.next := (o2.own [wn] (by simp [xs]) wn (by simp)).2
  have hT3 : Turn σ2 σ3 [wn] [wn] := ⟨s3, fun q hq => ⟨.inl hq, by simp at hq; have := s3.1; omega⟩⟩
  have o3 : Owns σz σ3 (xs F wn FD' FI' FB) := o2.turned 4 (F := [wn]) rfl hT3
  have t3 : Turn σ2 σ3 (xs F wn FD' FI' FB).flatten (xs F wn FD' FI' FB).flatten := turn_flat o2 4 (F := [wn]) rfl hT3
  have h3 : DNX σ3 wn gr a w' s F FD' FI' FB ad nb z dn { N with im := ⟨D.lay (D.bit (x : Int)) 0 N.im.S N.im.W, [], t, km, bl, none⟩ } := by
    refine ⟨o3, g3, (hR1.idle s2).same s3 (o2.off 5 4 (by omega) rfl rfl), hI2.same s3 (o2.off 6 4 (by omega) rfl rfl), fun v hv => ?_, fun mk bl k e => by cases e⟩
    have hs1 := (h.st v hv).same hT1.same (h.own.off v 5 (by omega) (xs_get F wn FD FI FB v hv) rfl)
    exact (hs1.idle s2).same s3 (o2.off v 4 (by omega) (xs_get F wn FD' FI' FB v hv) rfl)
  obtain ⟨σ4, hp4, g4, s4⟩ := put_cell h3.nd 7 (.int .i64 0) (by simp) rfl
  obtain ⟨h4, t4⟩ := h3.cells 0 ad nb z dn s4 g4 (fun mk bl k e => by cases e)
  have t04 := ((t1.trans t2).trans t3).trans t4
  have hI4 := hI.crashed hc (x : Int)
  rw [hE] at hI4
  obtain ⟨F', σ5, g5, h5, t5⟩ := ddrop_spec L (k + 4) hL hc h4 hI4 (hG.same t04.same hGX)
  refine ⟨w', F', FD', FI', σ5, ?_, by unfold NS.crash; rw [hE]; exact h5, t04.trans t5⟩
  rw [f34_eq, ld_at h.nd 0 (ptr a) rfl, asP_p, g1, bnd_some, asT_t, toList0, endl_n, ld_at hwn1 0 (ptr a) rfl, asP_p, g2, bnd_some, asT_t, toList2, uncons_c, asP_p, uncons_c, asI_i, endl_n, show ((0 : Int) != 0) = false from rfl, br_false, hp3, hp4, g5, bnd_some, asT_t, toList0, endl_n]
end
end Go.AM.Bk

namespace Go.AM.Bk
open Go.Proofs
section
variable {σ : St} {wn gr a w : Nat} {s : Nat → Nat} {F : Nat → List Nat} {FD FI FB : List Nat} {ad : Option Addr} {nb z : Nat} {dn : Int} {N : NS} {c : Nat}
theorem dcut_loop (L k : Nat) (hc : c ≤ 899) : ∀ (n v : Nat) (x : Int) (σ : St) (F : Nat → List Nat) (N : NS), v ≤ 4 → 4 - v < n → N.Inv c → 0 ≤ x → x ≤ 1000 * v → DNX σ wn gr a w s F FD FI FB ad nb z dn N →
    ∃ F' σ', lpAt Tryz.prog env L k 38 [true, true, true, false, true] [] n [(0, ptr wn), (3, .int .i64 x), (12, .int .i64 v)] σ = some (.int .i64 (x + (((List.range 4).drop v).map fun v => ((N.st v).rs.length : Int)).sum), σ') ∧
      DNX σ' wn gr a w s F' FD FI FB ad nb z dn { N with st := fun u => if v ≤ u ∧ u < 4 then (N.st u).cut else N.st u } ∧ Turn σ σ' (xs F wn FD FI FB).flatten (xs F' wn FD FI FB).flatten
  | 0, v, x, σ, F, N, _, hn, _, _, _, _ => by omega
  | n + 1, v, x, σ, F, N, hv, hn, hI, hs0, hs1, h => by
    rw [f38_l5]
    by_cases hv4 : v = 4
    · subst hv4
      rw [decide_eq_false (by decide), br_false]
      have e0 : (List.range 4).drop 4 = [] := rfl
      refine ⟨F, σ, by rw [e0]; simp, ?_, Turn.idle (Same.refl _ _) h.flat⟩
      have : (fun u => if 4 ≤ u ∧ u < 4 then (N.st u).cut else N.st u) = N.st := by funext u; rw [if_neg (by omega)]
      rw [this]; exact h
    have hi := hI.st v (by omega)
    have hlen := hi.len
    have hf1 := hi.f1
    have hS := h.st v (by omega)
    obtain ⟨qs, adS, zS, hFv, hqs, hcS, hRS⟩ := hS.ex
    have hsl : s v < σ.next := hS.lt (s v) (by rw [hFv]; simp)
    obtain ⟨σ1, hp1, g1, s1⟩ := put_cell hcS 3 (.slice none 0 0) (by simp) rfl
    obtain ⟨σ2, hp2, g2, s2⟩ := put_cell g1 1 (.int .i64 0) (by simp) rfl
    have s12 : Same σ σ2 [s v] := s1.trans s2
    have hT : Turn σ σ2 (F v) [s v] := ⟨s12.mono (by rw [hFv]; simp), fun q hq => by
      simp at hq; subst hq
      exact ⟨.inl (by rw [hFv]; simp), by have := s12.1; omega⟩⟩
    have hS2 : S.Ref σ2 (s v) [s v] (N.st v).cut.first (N.st v).cut.rs (N.st v).cut.rs.length (N.st v).cut.mark := ⟨⟨[], none, 0, rfl, by simp, g2, Row.nil _ _ _ _⟩, fun q hq => by simp at hq; subst hq; have := s12.1; omega⟩
    have hw : IntKind.wrap .i64 ((v : Int) + 1) = ((v + 1 : Nat) : Int) := by rw [wrap_in _ (by omega) (by omega)]; omega
    have hw2 : IntKind.wrap .i64 (x + ((N.st v).rs.length : Int)) = x + ((N.st v).rs.length : Int) := wrap_in _ (by omega) (by omega)
    have iv : inRange (v : Int) 4 = true := by simp [inRange]; omega
    have hld := h.stg v (by omega) (0 + 2 + Int.toNat (v : Int) * 1) (by simp)
    obtain ⟨h1, k1⟩ := h.turn v (by omega) hT (x := (N.st v).cut) hS2
    have hI1 : NS.Inv { N with st := upd N.st v (N.st v).cut } c := ⟨hI.im, hI.tc, fun u hu => by
      dsimp only
      by_cases e : u = v
      · subst e; rw [upd_same]; exact (hI.st u hu).cut
      · rw [upd_ne _ _ e]; exact hI.st u hu, hI.wk⟩
    obtain ⟨F', σ3, e3, h3, k3⟩ := dcut_loop L k hc n (v + 1) (x + ((N.st v).rs.length : Int)) σ2 _ _ (by omega) (by omega) hI1 (by omega) (by omega) h1
    refine ⟨F', σ3, ?_, ?_, k1.trans k3⟩
    · rw [decide_eq_true (by omega), br_true, need_of iv, hld, asP_p, adr_some, ld_at hcS (0 + 3) _ rfl, asSl_s, need_of iv, hld, asP_p, need_of iv, hld, asP_p, adr_some, show ∀ K : St → Res, σ.put (s v) (0 + 3) [Value.slice none 0 0] K = K σ1 from hp1, adr_some, show ∀ K : St → Res, σ1.put (s v) (0 + 1) [Value.int .i64 0] K = K σ2 from hp2, hw, hw2]
      refine e3.trans ?_
      rw [range_drop v (by omega), List.map_cons, List.sum_cons]
      have : (((List.range 4).drop (v + 1)).map fun u => ((upd N.st v (N.st v).cut u).rs.length : Int)) = (((List.range 4).drop (v + 1)).map fun u => ((N.st u).rs.length : Int)) := by
        apply List.map_congr_left
        intro u hu
        rw [upd_ne]
        intro e
        subst e
        have := List.mem_drop_iff_getElem.1 hu
        obtain ⟨i, hi, e⟩ := this
        simp at e
        omega
      dsimp only
      rw [this, Int.add_assoc]
    · have : (fun u => if v ≤ u ∧ u < 4 then (N.st u).cut else N.st u) = fun u => if v + 1 ≤ u ∧ u < 4 then (upd N.st v (N.st v).cut u).cut else upd N.st v (N.st v).cut u := by
        funext u
        by_cases e : u = v
        · subst e; rw [upd_same, if_pos (by omega), if_neg (by omega)]
        · rw [upd_ne _ _ e]
          by_cases h1 : v ≤ u ∧ u < 4
          · rw [if_pos h1, if_pos (by omega)]
          · rw [if_neg h1, if_neg (by omega)]
      rw [this]
      exact h3
theorem turn_off {σ σ' : St} {X X' G : List Nat} (h : Turn σ σ' X X') (hG : ∀ q ∈ G, q < σ.next) (hX : ∀ q ∈ G, q ∉ X) : ∀ q ∈ G, q ∉ X' := fun q hq hx => by
  rcases (h.sub q hx).1 with h1 | h1
  · exact hX q hq h1
  · have := hG q hq; omega
theorem dsteps_loop (L k : Nat) (hL : 100000 < L) (hc : c ≤ 899) {GF : List Nat} {gs : GS} : ∀ (r n : Nat) (σ : St) (F : Nat → List Nat) (FD FI : List Nat) (dn : Int) (N : NS), r < n → N.Inv c → (∀ mk' bl' j, N.im.work = some (mk', bl', j) → 35 - j ≤ r) → DNX σ wn gr a w s F FD FI FB ad nb z dn N → DG σ gr GF gs → (∀ q ∈ GF, q ∉ (xs F wn FD FI FB).flatten) →
    ∃ F' FD' FI' dn' n' σ', lpAt Tryz.prog env L (k + 6) 38 [true, false] [] n [(0, ptr wn)] σ = lpAt Tryz.prog env L (k + 6) 38 [true, false] [] (n' + 1) [(0, ptr wn)] σ' ∧ DNX σ' wn gr a w s F' FD' FI' FB ad nb z dn' (N.steps gs r) ∧ Turn σ σ' (xs F wn FD FI FB).flatten (xs F' wn FD' FI' FB).flatten ∧ (N.steps gs r).mark = 0
  | r, 0, σ, F, FD, FI, dn, N, hn, _, _, _, _, _ => by omega
  | 0, n + 1, σ, F, FD, FI, dn, N, hn, hI, hr, h, hG, hGX => by
    rcases hI.wk with ⟨h1, h2⟩ | ⟨_, bl, k, hw⟩
    · exact ⟨F, FD, FI, dn, n, σ, rfl, h, Turn.idle (Same.refl _ _) h.flat, h1⟩
    · have := hr _ _ _ hw
      have := (hI.im.ok.bw _ _ _ hw).1
      omega
  | r + 1, n + 1, σ, F, FD, FI, dn, N, hn, hI, hr, h, hG, hGX => by
    by_cases h0 : N.mark = 0
    · have hw : N.im.work = none := by
        rcases hI.wk with ⟨_, h2⟩ | ⟨h1, _⟩
        · exact h2
        · omega
      refine ⟨F, FD, FI, dn, n, σ, rfl, ?_, Turn.idle (Same.refl _ _) h.flat, ?_⟩
      · rw [steps_idle gs _ hw]; exact h
      · rw [steps_idle gs _ hw]; exact h0
    · obtain ⟨v, σ1, g1, hor⟩ := dnstep_spec L k hL hc h hI hG hGX
      rcases hor with ⟨hx, _⟩ | ⟨bl', j, _, hw, rfl, F1, FD1, FI1, dn1, h1, t1⟩
      · exact absurd hx h0
      have hj := (hI.im.ok.bw _ _ _ hw).1
      have hrj := hr _ _ _ hw
      obtain ⟨F2, FD2, FI2, dn2, n2, σ2, e2, h2, t2, hm2⟩ := dsteps_loop L k hL hc r n σ1 F1 FD1 FI1 dn1 (N.step gs) (by omega) (hI.step hc gs) (fun mk' bl'' j' hw' => by
        by_cases hj34 : j = 34
        · subst hj34
          rw [step_last gs hw] at hw'
          cases hw'
        · have := (step_work gs hw (by omega)).1
          rw [this] at hw'
          cases hw'
          omega) h1 (hG.same t1.same hGX) (turn_off t1 hG.lt hGX)
      refine ⟨F2, FD2, FI2, dn2, n2, σ2, ?_, h2, t1.trans t2, hm2⟩
      rw [f38_l1, ld_at h.nd (0 + 7) (.int .i64 N.mark) rfl, asI_i, show (N.mark != 0) = true by simpa using h0, br_true, g1, bnd_some, asT_t, toList2, uncons_c, asB_b, uncons_c, asI_i, endl_n]
      exact e2
theorem dpromote_spec (L k : Nat) (hL : 100000 < L) (hc : c ≤ 899) (h : DNX σ wn gr a w s F FD FI FB ad nb z dn N) (hI : N.Inv c) {GF : List Nat} {gs : GS} (hG : DG σ gr GF gs) (hGX : ∀ q ∈ GF, q ∉ (xs F wn FD FI FB).flatten) :
    ∃ F' FD' FI' dn' σ', evCall Tryz.prog env L (k + 7) 38 [ptr wn] σ = some (.int .i64 ((N.fin gs).held : Nat), σ') ∧ DNX σ' wn gr a w s F' FD' FI' FB ad nb z dn' (N.promote gs) ∧ Turn σ σ' (xs F wn FD FI FB).flatten (xs F' wn FD' FI' FB).flatten := by
  obtain ⟨F1, FD1, FI1, dn1, n1, σ1, e1, h1, t1, hm⟩ := dsteps_loop L k hL hc 35 L σ F FD FI dn N (by omega) hI (fun _ _ _ _ => by omega) h hG hGX
  have hI1 : (N.steps gs 35).Inv c := NS.Inv.steps hc gs 35 hI
  obtain ⟨F2, σ2, e2, h2, t2⟩ := dcut_loop L (k + 6) hc L 0 0 σ1 F1 (N.steps gs 35) (by omega) (by omega) hI1 (by omega) (by omega) h1
  refine ⟨F2, FD1, FI1, dn1, σ2, ?_, ?_, t1.trans t2⟩
  · rw [f38_eq, e1, f38_l1, ld_at h1.nd (0 + 7) (.int .i64 (N.steps gs 35).mark) rfl, asI_i, show ((N.steps gs 35).mark != 0) = false by rw [hm]; rfl, br_false]
    refine e2.trans ?_
    unfold NS.fin NS.held
    simp [List.range, List.range.loop]
    omega
  · have : (fun u => if 0 ≤ u ∧ u < 4 then ((N.steps gs 35).st u).cut else (N.steps gs 35).st u) = fun u => if u < 4 then ((N.steps gs 35).st u).cut else (N.steps gs 35).st u := by funext u; simp
    rw [this] at h2
    exact h2
theorem dapplied_loop (L k : Nat) (h : DNX σ wn gr a w s F FD FI FB ad nb z dn N) (hI : N.Inv c) (hc : c ≤ 899) {t0 t1 : Nat} (ht0 : σ.next ≤ t0) (ht1 : σ.next ≤ t1) (h01 : t0 ≠ t1) : ∀ (n v : Nat) (σ' : St), v ≤ 4 → 4 - v < n → Same σ σ' [] → σ'.get t1 = some (.own (apC N v) 68) → (∃ x, σ'.get t0 = some (.own x 68) ∧ x.length = 4) → t0 < σ'.next → t1 < σ'.next →
    ∃ σ2, lpAt Tryz.prog env L k 39 [true, true, false, true] [] n [(0, ptr wn), (2, ptr t0), (3, ptr t1), (5, .int .i64 v)] σ' = some (N.apV, σ2) ∧ Same σ σ2 []
  | 0, v, σ', _, hn, _, _, _, _, _ => by omega
  | n + 1, v, σ', hv, hn, hs, g1, ⟨x, g0, hx⟩, l0, l1 => by
    have el := f39_l3 L k n σ' wn 0 t0 0 t1 0 (v : Int)
    by_cases hv4 : v = 4
    · subst hv4
      have hput := fun (K : St → Res) => put_all (ws := apC N 4) g0 (by rw [hx]; rfl) rfl K
      have s3 := Same.set σ' t0 (.own (apC N 4) 68)
      have g3 : (σ'.set t0 (.own (apC N 4) 68)).get t0 = some (.own (apC N 4) 68) := get_set_same _ _ _
      generalize σ'.set t0 (.own (apC N 4) 68) = σ3 at hput s3 g3
      have hA : apC N 4 = [Value.int .i64 (N.apl 0), .int .i64 (N.apl 1), .int .i64 (N.apl 2), .int .i64 (N.apl 3)] := rfl
      rw [hA] at g1 hput g3
      rw [decide_eq_false (by decide), br_false, lds_all (n := 4) g1 rfl, uncons_c, asI_i, uncons_c, asI_i, uncons_c, asI_i, uncons_c, asI_i, endl_n, hput, lds_all (n := 4) g3 rfl, uncons_c, asI_i, uncons_c, asI_i, uncons_c, asI_i, uncons_c, asI_i, endl_n] at el
      exact ⟨σ3, el, hs.fresh s3 (fun x hx => .inr (by simp at hx; omega))⟩
    have hi := hI.st v (by omega)
    have hlen := hi.len
    have hf1 := hi.f1
    have h' := h.idle hs
    obtain ⟨qs, adS, zS, hFv, hqs, hcS, hRS⟩ := (h'.st v (by omega)).ex
    have hw : IntKind.wrap .i64 ((v : Int) + 1) = ((v + 1 : Nat) : Int) := by rw [wrap_in _ (by omega) (by omega)]; omega
    have hw2 : IntKind.wrap .i64 ((N.st v).first - 1) = N.apl v := wrap_in _ (by omega) (by omega)
    have iv : inRange (v : Int) 4 = true := by simp [inRange]; omega
    rw [decide_eq_true (by omega), br_true, need_of iv, h'.stg v (by omega) _ (by simp), asP_p, adr_some, ld_at hcS (0 + 0) (.int .i64 (N.st v).first) rfl, asI_i, need_of iv, hw2, put_int g1 _ _ _ (by simp [apC]; omega), hw, apC_set N v (by omega)] at el
    have s2 := Same.set σ' t1 (.own (apC N (v + 1)) 68)
    obtain ⟨σ3, e3, s3⟩ := dapplied_loop L k h hI hc ht0 ht1 h01 n (v + 1) _ (by omega) (by omega) (hs.fresh s2 (fun x hx => .inr (by simp at hx; omega))) (get_set_same _ _ _) ⟨x, (s2.2 t0 l0 (by simpa using h01)).trans g0, hx⟩ (by simpa using l0) (by simpa using l1)
    exact ⟨σ3, el.trans e3, s3⟩
theorem dapplied_spec (L k : Nat) (hL : 100000 < L) (h : DNX σ wn gr a w s F FD FI FB ad nb z dn N) (hI : N.Inv c) (hc : c ≤ 899) : ∃ σ', evCall Tryz.prog env L (k + 1) 39 [ptr wn] σ = some (N.apV, σ') ∧ Same σ σ' [] := by
  rw [f39_eq]
  have s1 : Same σ (σ.new (.own [.int .i64 0, .int .i64 0, .int .i64 0, .int .i64 0] 68)) [] := Same.new _ _ _
  have g1 : (σ.new (.own [.int .i64 0, .int .i64 0, .int .i64 0, .int .i64 0] 68)).get σ.next = some (.own [.int .i64 0, .int .i64 0, .int .i64 0, .int .i64 0] 68) := get_new_same _ _
  have n1 : (σ.new (.own [.int .i64 0, .int .i64 0, .int .i64 0, .int .i64 0] 68)).next = σ.next + 1 := rfl
  generalize σ.new (.own [.int .i64 0, .int .i64 0, .int .i64 0, .int .i64 0] 68) = σ1 at s1 g1 n1
  have s2 : Same σ1 (σ1.new (.own [.int .i64 0, .int .i64 0, .int .i64 0, .int .i64 0] 68)) [] := Same.new _ _ _
  have g2 : (σ1.new (.own [.int .i64 0, .int .i64 0, .int .i64 0, .int .i64 0] 68)).get σ1.next = some (.own [.int .i64 0, .int .i64 0, .int .i64 0, .int .i64 0] 68) := get_new_same _ _
  have n2 : (σ1.new (.own [.int .i64 0, .int .i64 0, .int .i64 0, .int .i64 0] 68)).next = σ1.next + 1 := rfl
  generalize σ1.new (.own [.int .i64 0, .int .i64 0, .int .i64 0, .int .i64 0] 68) = σ2 at s2 g2 n2
  exact dapplied_loop L k h hI hc (t0 := σ.next) (t1 := σ1.next) (by omega) (by omega) (by omega) L 0 σ2 (by omega) (by omega) (s1.trans s2) g2 ⟨_, (s2.2 σ.next (by omega) (by simp)).trans g1, rfl⟩ (by omega) (by omega)
end
theorem dstage_step (L k n : Nat) {σ : St} {wn i : Nat} {vs : List Value} (hn : σ.get wn = some (.own vs 83)) (hwn : wn < σ.next) (hl : vs.length = 10) (hi : i < 4) :
    ∃ x σ', lpAt Tryz.prog env L (k + 1) 29 [true, true, true, true, false, true] [] (n + 1) [(8, ptr wn), (23, .int .i64 i)] σ = lpAt Tryz.prog env L (k + 1) 29 [true, true, true, true, false, true] [] n [(8, ptr wn), (23, .int .i64 ((i + 1 : Nat) : Int))] σ' ∧
      σ'.get wn = some (.own (vs.set (2 + i) (ptr x)) 83) ∧ S.Ref σ' x [x] 1 [] 0 0 ∧ Same σ σ' [wn] ∧ σ.next ≤ x := by
  rw [f29_l6]
  have s1 : Same σ (σ.new (.own [.int .i64 (mx 1 (mn 1 1152921504606846975)), .int .i64 0, .int .i64 0, .slice none 0 0] 152)) [] := Same.new _ _ _
  have g1 : (σ.new (.own [.int .i64 (mx 1 (mn 1 1152921504606846975)), .int .i64 0, .int .i64 0, .slice none 0 0] 152)).get σ.next = some (.own [.int .i64 1, .int .i64 0, .int .i64 0, .slice none 0 0] 152) := get_new_same _ _
  have n1 : (σ.new (.own [.int .i64 (mx 1 (mn 1 1152921504606846975)), .int .i64 0, .int .i64 0, .slice none 0 0] 152)).next = σ.next + 1 := rfl
  rw [decide_eq_true (by omega), br_true, f72_eq, bnd_some, asP_p, need_of (by simp [inRange]; omega)]
  generalize σ.new (.own [.int .i64 (mx 1 (mn 1 1152921504606846975)), .int .i64 0, .int .i64 0, .slice none 0 0] 152) = σ1 at s1 g1 n1
  have hn1 := (s1.2 wn hwn (by simp)).trans hn
  obtain ⟨σ2, hp2, g2, s2⟩ := put_cell hn1 (2 + i) (ptr σ.next) (by omega) rfl
  have hw : IntKind.wrap .i64 ((i : Int) + 1) = ((i + 1 : Nat) : Int) := by rw [wrap_in _ (by omega) (by omega)]; omega
  have hp2' : ∀ K : St → Res, σ1.put wn (0 + 2 + Int.toNat (i : Int) * 1) [ptr σ.next] K = K σ2 := fun K => by rw [show 0 + 2 + Int.toNat (i : Int) * 1 = 2 + i by simp]; exact hp2 K
  refine ⟨σ.next, σ2, by rw [hp2', hw], g2, ⟨⟨[], none, 0, rfl, by simp, (s2.2 σ.next (by omega) (by simp; omega)).trans g1, Row.nil _ _ _ _⟩, fun q hq => by simp at hq; have := s2.1; omega⟩, (s1.mono (by simp)).trans s2, Nat.le_refl _⟩
def pf (i : Nat) : Nat := if i < 8 then (match i with | 0 => 4 | 1 => 3 | 2 => 2 | 3 => 1 | 4 => 5 | 5 => 7 | 6 => 6 | _ => 0) else i
theorem pf_lt {i : Nat} (h : i < 8) : pf i < 8 := by
  rcases (by omega : i = 0 ∨ i = 1 ∨ i = 2 ∨ i = 3 ∨ i = 4 ∨ i = 5 ∨ i = 6 ∨ i = 7) with rfl | rfl | rfl | rfl | rfl | rfl | rfl | rfl <;> decide
theorem pf_inj : ∀ i j, pf i = pf j → i = j := by
  intro i j h
  by_cases hi : i < 8 <;> by_cases hj : j < 8
  · have : ∀ i, i < 8 → ∀ j, j < 8 → pf i = pf j → i = j := by decide
    exact this i hi j hj h
  · have := pf_lt hi
    rw [h] at this
    unfold pf at this; rw [if_neg hj] at this; omega
  · have := pf_lt hj
    rw [← h] at this
    unfold pf at this; rw [if_neg hi] at this; omega
  · unfold pf at h; rw [if_neg hi, if_neg hj] at h; exact h
theorem owns_one {σ : St} {A : List Nat} (h : ∀ q ∈ A, q < σ.next) : Owns σz σ [A] :=
  ⟨kz σ, fun F hF q hq => by simp at hF; subst hF; exact ⟨Nat.zero_le _, h q hq⟩, fun i j F G hij hi hj => by
    match i, j, hij, hi, hj with
    | 0, 0, hij, _, _ => exact absurd rfl hij
    | 0, j + 1, _, _, hj => simp at hj
    | i + 1, _, _, hi, _ => simp at hi⟩
theorem dnnew_spec (L k : Nat) (hL : 100000 < L) {σ : St} {a gr : Nat} {FD : List Nat} (hD : D.Ref σ a FD fresh66 []) :
    ∃ wn w s F FI σ', evCall Tryz.prog env L (k + 7) 29 [ptr a, ptr gr] σ = some (.tuple #[ptr wn, .int .i64 0], σ') ∧ DNX σ' wn gr a w s F FD FI [] none 0 0 0 newN ∧ Same σ σ' [] ∧ (∀ H ∈ xs F wn [] FI [], ∀ q ∈ H, σ.next ≤ q) := by
  obtain ⟨σ1, s1, hor⟩ := dopen_spec (W := []) L k hL (by simp) (by simp [fresh66]) hD
  rcases hor with ⟨t', km', bl', w, FI, ho, g1, hI1, hq1⟩ | ⟨ho, _⟩
  rotate_left
  · rw [show rdS fresh66 [] = rd fresh66 from rfl, good66.opn] at ho; cases ho
  rw [show rdS fresh66 [] = rd fresh66 from rfl, good66.opn] at ho
  cases ho
  have o0 : Owns σz σ [FD] := owns_one hD.lt
  have o1 : Owns σz σ1 [FI, FD] := o0.more s1 (fun q hq => ⟨hq1 q hq, hI1.lt q hq⟩)
  rw [f29_eq, g1, bnd_some, asT_t, toList2, uncons_c, asP_p, uncons_c, asI_i, endl_n, show ((0 : Int) != 0) = false from rfl, br_false, need_true, need_true]
  have s2 : Same σ1 (σ1.new (.own [ptr a, ptr w, .pointer none, .pointer none, .pointer none, .pointer none, ptr gr, .int .i64 0, .slice none 0 0, .int .i64 0] 83)) [] := Same.new _ _ _
  have g2 : (σ1.new (.own [ptr a, ptr w, .pointer none, .pointer none, .pointer none, .pointer none, ptr gr, .int .i64 0, .slice none 0 0, .int .i64 0] 83)).get σ1.next = some (.own [ptr a, ptr w, .pointer none, .pointer none, .pointer none, .pointer none, ptr gr, .int .i64 0, .slice none 0 0, .int .i64 0] 83) := get_new_same _ _
  have n2 : (σ1.new (.own [ptr a, ptr w, .pointer none, .pointer none, .pointer none, .pointer none, ptr gr, .int .i64 0, .slice none 0 0, .int .i64 0] 83)).next = σ1.next + 1 := rfl
  generalize σ1.new (.own [ptr a, ptr w, .pointer none, .pointer none, .pointer none, .pointer none, ptr gr, .int .i64 0, .slice none 0 0, .int .i64 0] 83) = σ2 at s2 g2 n2
  obtain ⟨m, rfl⟩ : ∃ m, L = m + 5 := ⟨L - 5, by omega⟩
  have n01 := s1.1
  generalize hwn : σ1.next = wn at *
  have o2 : Owns σz σ2 [[wn], FI, FD] := o1.more s2 (fun q hq => by simp at hq; subst hq; omega)
  obtain ⟨x0, σ3, e3, g3, h3, s3, l3⟩ := dstage_step (m + 5) (k + 5) (m + 4) (i := 0) g2 (by omega) rfl (by omega)
  have n3 := s3.1
  have x0l := h3.lt x0 (by simp)
  obtain ⟨x1, σ4, e4, g4, h4, s4, l4⟩ := dstage_step (m + 5) (k + 5) (m + 3) (i := 1) g3 (by omega) rfl (by omega)
  have n4 := s4.1
  have x1l := h4.lt x1 (by simp)
  obtain ⟨x2, σ5, e5, g5, h5, s5, l5⟩ := dstage_step (m + 5) (k + 5) (m + 2) (i := 2) g4 (by omega) rfl (by omega)
  have n5 := s5.1
  have x2l := h5.lt x2 (by simp)
  obtain ⟨x3, σ6, e6, g6, h6, s6, l6⟩ := dstage_step (m + 5) (k + 5) (m + 1) (i := 3) g5 (by omega) rfl (by omega)
  have n6 := s6.1
  have x3l := h6.lt x3 (by simp)
  have o6 : Owns σz σ6 [[], [x3], [x2], [x1], [x0], [wn], FI, FD] := by
    have hlt : ∀ H ∈ [[wn], FI, FD], ∀ q ∈ H, q < σ2.next := fun H hH q hq => (o2.own H hH q hq).2
    have b2 : Owns σz (⟨fun _ => none, σ2.next⟩ : St) [[wn], FI, FD] := owns_movedz o2 hlt
    have b3 : Owns σz (⟨fun _ => none, σ3.next⟩ : St) [[x0], [wn], FI, FD] := b2.more ⟨n3, fun _ _ _ => rfl⟩ (fun q hq => by simp at hq; subst hq; exact ⟨l3, x0l⟩)
    have b4 : Owns σz (⟨fun _ => none, σ4.next⟩ : St) [[x1], [x0], [wn], FI, FD] := b3.more ⟨n4, fun _ _ _ => rfl⟩ (fun q hq => by simp at hq; subst hq; exact ⟨l4, x1l⟩)
    have b5 : Owns σz (⟨fun _ => none, σ5.next⟩ : St) [[x2], [x1], [x0], [wn], FI, FD] := b4.more ⟨n5, fun _ _ _ => rfl⟩ (fun q hq => by simp at hq; subst hq; exact ⟨l5, x2l⟩)
    have b6 : Owns σz (⟨fun _ => none, σ6.next⟩ : St) [[x3], [x2], [x1], [x0], [wn], FI, FD] := b5.more ⟨n6, fun _ _ _ => rfl⟩ (fun q hq => by simp at hq; subst hq; exact ⟨l6, x3l⟩)
    have b7 : Owns σz (⟨fun _ => none, σ6.next⟩ : St) [[], [x3], [x2], [x1], [x0], [wn], FI, FD] := b6.more (Same.refl _ _) (by simp)
    exact owns_movedz b7 (fun H hH q hq => (b7.own H hH q hq).2)
  have o7 : Owns σz σ6 (xs (fun v => match v with | 0 => [x0] | 1 => [x1] | 2 => [x2] | _ => [x3]) wn FD FI []) := o6.map pf pf_inj (fun i H hH => by
    match i, hH with
    | 0, hH => exact hH
    | 1, hH => exact hH
    | 2, hH => exact hH
    | 3, hH => exact hH
    | 4, hH => exact hH
    | 5, hH => exact hH
    | 6, hH => exact hH
    | 7, hH => exact hH
    | i + 8, hH => simp [xs] at hH)
  have s26 : Same σ2 σ6 [wn] := ((s3.trans s4).trans s5).trans s6
  have hFDw : ∀ q ∈ FD, q ∉ [wn] := o2.off 2 0 (by omega) rfl rfl
  have hFIw : ∀ q ∈ FI, q ∉ [wn] := o2.off 1 0 (by omega) rfl rfl
  have hne : ∀ x, wn < x → x ∉ [wn] := fun x hx h => by simp at h; omega
  have r0 := ((h3.same s4 (fun q hq => by simp at hq; subst hq; exact hne _ (by omega))).same s5 (fun q hq => by simp at hq; subst hq; exact hne _ (by omega))).same s6 (fun q hq => by simp at hq; subst hq; exact hne _ (by omega))
  have r1 := (h4.same s5 (fun q hq => by simp at hq; subst hq; exact hne _ (by omega))).same s6 (fun q hq => by simp at hq; subst hq; exact hne _ (by omega))
  have r2 := h5.same s6 (fun q hq => by simp at hq; subst hq; exact hne _ (by omega))
  have s06 : Same σ σ6 [] := (s1.trans s2).fresh s26 (fun x hx => .inr (by simp at hx; omega))
  refine ⟨wn, w, fun v => match v with | 0 => x0 | 1 => x1 | 2 => x2 | _ => x3, _, FI, σ6, ?_, ⟨o7, g6, (hD.idle (s1.trans s2)).same s26 hFDw, (hI1.same s2 (by simp)).same s26 hFIw, four r0 r1 r2 h6, fun mk bl k e => by cases e⟩, s06, fun H hH q hq => ?_⟩
  · have e7 := ((e3.trans e4).trans e5).trans e6
    refine e7.trans ?_
    rw [f29_l6, decide_eq_false (by decide), br_false]
  · simp only [xs, List.mem_cons, List.not_mem_nil, or_false] at hH
    rcases hH with rfl | rfl | rfl | rfl | rfl | rfl | rfl | rfl
    · simp at hq; omega
    · simp at hq; omega
    · simp at hq; omega
    · simp at hq; omega
    · simp at hq; omega
    · simp at hq
    · exact hq1 q hq
    · simp at hq
end Go.AM.Bk
