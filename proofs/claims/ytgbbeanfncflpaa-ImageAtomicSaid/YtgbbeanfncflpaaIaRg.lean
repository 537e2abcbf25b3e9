/-
  Texts laid together: IaR, IaT, Am22, IaU, IaV, IaW, IaArgs, IaX, IaY.
-/
import Derived.Test.YtgbbeanfncflpaaIaAg
import Derived.Test.YtgbbeanfncflpaaAm13g
import Derived.Test.YtgbbeanfncflpaaEnvIa
set_option linter.unusedVariables false
set_option linter.unusedSimpArgs false
set_option linter.unusedSectionVars false
/-
  THE IMAGE's calls: Step.
-/
namespace Go.AM.Ia
open Go.Proofs

def stepS (s : IS) (mk' : Nat) (bl' : List ByteArray) (k : Nat) : IS :=
  if k < 32 then { s with W := s.W ++ [⟨((2 + 32 * ((s.t + 1) % 2) + k : Nat) : Int), mkSec (bsec ((s.t + 1 : Nat) : Int) (bl'.getD k ⟨#[]⟩))⟩], work := some (mk', bl', k + 1) }
  else if k = 32 then { s with S := D.lay (fun _ => true) 0 s.S s.W, W := [], work := some (mk', bl', 33) }
  else if k = 33 then { s with W := s.W ++ [⟨(((s.t + 1) % 2 : Nat) : Int), mkSec (hsec ((s.t + 1 : Nat) : Int) (mk' : Nat))⟩], work := some (mk', bl', 34) }
  else ⟨D.lay (fun _ => true) 0 s.S s.W, [], s.t + 1, mk', bl', none⟩
theorem long_at {bl : List ByteArray} (h : long bl = false) {i : Nat} {s : ByteArray} (hs : bl[i]? = some s) : s.size ≤ 16 := by
  unfold long at h
  have := List.any_eq_false.1 h s (List.mem_of_getElem? hs)
  simpa using this

section
variable {σ0 σ : St} {m d : Nat} {s : IS} {R : List (List Nat)}
set_option maxRecDepth 20000 in
theorem step_spec (h : ImS σ0 σ m d s R) (L k0 : Nat) (hL : 100000 < L) (hok : s.Ok) :
    ∃ v σ', evCall Try.prog env L (k0 + 8) 12 [ptr m] σ = some (v, σ') ∧ (∀ H ∈ R, ∀ q ∈ H, σ'.get q = σ.get q) ∧
      ((s.work = none ∧ (∃ e, v = .tuple #[.bool false, e] ∧ Err σ' e 9 0) ∧ ImS σ0 σ' m d s R) ∨
       (∃ mk' bl' k, s.work = some (mk', bl', k) ∧ v = .tuple #[.bool (decide (k = 34)), .nilIface] ∧ ImS σ0 σ' m d (stepS s mk' bl' k) R)) := by
  rw [f12_eq, busyI_spec h L (k0 + 6), bnd_some, asB_b]
  cases hw : s.work with
  | none =>
    obtain ⟨q, σ3, g3, hq, hql, s3⟩ := wrapi_spec L (k0 + 5) σ 0 9 (by decide)
    rw [show (none : Option (Nat × List ByteArray × Nat)).isSome = false from rfl, not_false, br_true, g3, bnd_some]
    exact ⟨_, σ3, rfl, h.keep s3, .inl ⟨rfl, ⟨_, rfl, q, rfl, hq, hql⟩, h.idle s3⟩⟩
  | some p =>
    obtain ⟨mk', bl', k⟩ := p
    obtain ⟨F, G, w, h1, h2, h3, h4, h5⟩ := h.ex
    obtain ⟨b, mk2, bl2, done, e1, e2, e3, e4, e5⟩ : ∃ b mk' bl' done, s.work = some (mk', bl', done) ∧ w = some ⟨b, 0, none⟩ ∧ b ∈ G ∧ b ≠ m ∧ Wk σ b ((s.t + 1 : Nat) : Int) (mk' : Nat) bl' (done : Nat) := by
      rcases h5 with ⟨e, _⟩ | h5
      · rw [hw] at e; cases e
      · exact h5
    rw [hw] at e1
    cases e1
    subst e2
    obtain ⟨hk34, hlg, hbl, hmk, hmt, hwd⟩ := hok.bw mk' bl' k hw
    have hsl := hok.sl
    have hwl := hok.wl
    have htl := hok.tl
    have hbF : b ∉ F := h3.off 1 0 (by omega) rfl rfl b e3
    have hmF : m ∉ F := h3.off 1 0 (by omega) rfl rfl m h4
    have hblt := h3.lt 1 rfl b e3
    have hwk : IntKind.wrap .i64 ((k : Int) + 1) = ((k + 1 : Nat) : Int) := by rw [wrap_in _ (by omega) (by omega)]; omega
    rw [show (some (mk', bl', k) : Option (Nat × List ByteArray × Nat)).isSome = true from rfl, not_true, br_false, ld_at h2.ex 35 _ (imc_work _ _ _ _ _ h2.len), asP_p, adr_some, ld_at e5.ex (0 + 34) _ (wkc_done _ _ _ _ hbl), asI_i, adr_some, ld_at e5.ex (0 + 34) _ (wkc_done _ _ _ _ hbl), asI_i, adr_some, hwk, put_at e5.ex (0 + 34) (.int .i64 ((k + 1 : Nat) : Int)) (by rw [wkc_len, hbl]; decide) rfl, Nat.zero_add, wkc_set _ _ _ _ _ hbl]
    have s1 := Same.set σ b (.own (wkc ((s.t + 1 : Nat) : Int) (mk' : Nat) bl' ((k + 1 : Nat) : Int)) 63)
    have hW1 : Wk (σ.set b (.own (wkc ((s.t + 1 : Nat) : Int) (mk' : Nat) bl' ((k + 1 : Nat) : Int)) 63)) b ((s.t + 1 : Nat) : Int) (mk' : Nat) bl' ((k + 1 : Nat) : Int) := ⟨get_set_same _ _ _, hbl⟩
    have hT1 : Turn σ (σ.set b (.own (wkc ((s.t + 1 : Nat) : Int) (mk' : Nat) bl' ((k + 1 : Nat) : Int)) 63)) G G := ⟨s1.mono (fun x hx => by simp at hx; subst hx; exact e3), fun q hq => ⟨.inl hq, by have := h3.lt 1 rfl q hq; simpa using this⟩⟩
    generalize σ.set b (.own (wkc ((s.t + 1 : Nat) : Int) (mk' : Nat) bl' ((k + 1 : Nat) : Int)) 63) = σ1 at s1 hW1 hT1
    have h11 := h1.same s1 (fun q hq => by simp; rintro rfl; exact hbF hq)
    have h21 := h2.same s1 (by simp; exact Ne.symm e4)
    have hO1 : Owns σ0 σ1 (F :: G :: R) := h3.turned 1 rfl hT1
    have hk1 : ∀ H ∈ R, ∀ q ∈ H, σ1.get q = σ.get q := rest_kept h3 hT1.same (fun x hx => .inr (.inl hx))
    have hat : ∀ {σ' : St}, ∃ σ'', evCall Try.prog env L (k0 + 7) 24 [.agg #[.int .i64 ((s.t + 1 : Nat) : Int), .int .i64 (mk' : Int)]] σ' = some (.int .i64 ((2 + 32 * ((s.t + 1) % 2) : Nat) : Int), σ'') ∧ Same σ' σ'' [] := by
      intro σ'
      have s9 : Same σ' (σ'.new (Blk.own [Value.int .i64 ((s.t + 1 : Nat) : Int), Value.int .i64 (mk' : Int)] 53)) [] := Same.new _ _ _
      have g9 : (σ'.new (Blk.own [Value.int .i64 ((s.t + 1 : Nat) : Int), Value.int .i64 (mk' : Int)] 53)).get σ'.next = some (Blk.own [Value.int .i64 ((s.t + 1 : Nat) : Int), Value.int .i64 (mk' : Int)] 53) := get_new_same _ _
      have e45 : evCall Try.prog env L (k0 + 7) 24 [.agg [.int .i64 ((s.t + 1 : Nat) : Int), .int .i64 (mk' : Int)].toArray] σ' = _ := f24_eq L (k0 + 6) σ' _ _
      have hv : IntKind.wrap .i64 ((2 : Int) + IntKind.wrap .i64 ((32 : Int) * Int.tmod ((s.t + 1 : Nat) : Int) 2)) = ((2 + 32 * ((s.t + 1) % 2) : Nat) : Int) := by
        rw [tmod2, wrap_in ((32 : Int) * (((s.t + 1) % 2 : Nat) : Int)) (by omega) (by omega), wrap_in _ (by omega) (by omega)]; omega
      rw [ld_at g9 0 _ rfl, asI_i, hv] at e45
      exact ⟨_, e45, s9⟩
    have rw2 : ∀ {σ' : St}, σ'.get b = σ1.get b → ∀ K : List Value → Res, σ'.lds b (0 + 0) 2 K = K [.int .i64 ((s.t + 1 : Nat) : Int), .int .i64 (mk' : Int)] := fun e K => by rw [hW1.ex] at e; rw [lds_own K e (by rw [wkc_len, hbl]; decide)]; rfl
    have hblt1 := hO1.lt 1 rfl b e3
    -- a sector is laid
    have lay : ∀ {σ2 : St} {ad : Option Addr} {z : Nat} {qs : List Nat} {l : List UInt8} (x : Nat), Same σ1 σ2 [] → Row c8 1 5 σ2 ad z qs l → l.length = 64 → x < 66 → ∃ σ', (bnd (evCall Try.prog env L (k0 + 7) 23 [ptr d, .int .i64 (x : Int), .slice ad 64 z] σ2) fun v64 v65 => some (Value.tuple #[Value.bool false, Value.nilIface], v65)) = some (.tuple #[.bool false, .nilIface], σ') ∧ (∀ H ∈ R, ∀ q ∈ H, σ'.get q = σ.get q) ∧
        ∀ n', k + 1 = n' → ImS σ0 σ' m d { s with W := s.W ++ [⟨(x : Int), mkSec l⟩], work := some (mk', bl', n') } R := by
      intro σ2 ad z qs l x s2 hR hl hx
      obtain ⟨v, σ3, g3, hor⟩ := D.write_spec (h11.idle s2) L (k0 + 4) (row_bytes hR) (z := z) (by omega) (x : Int)
      rw [hl] at g3
      rcases hor with ⟨F', hl', _, _, rfl, hD3, hT3⟩ | ⟨hno, _⟩ | ⟨_, hno, _⟩
      · have hO2 := hO1.idle s2
        have hO3 : Owns σ0 σ3 (F' :: G :: R) := hO2.turned 0 rfl hT3
        rw [g3, bnd_some]
        refine ⟨σ3, rfl, fun H hH q hq => ?_, fun n' hn' => ⟨F', G, _, by rw [mkSec_of hl]; exact hD3, (h21.same s2 (by simp)).same hT3.same hmF, hO3, h4, .inr ⟨b, mk', bl', n', rfl, rfl, e3, e4, ?_, hbl⟩⟩⟩
        · rw [rest_kept hO2 hT3.same (fun x hx => .inl hx) H hH q hq, s2.2 q (hO1.own H (by simp [hH]) q hq).2 (by simp), hk1 H hH q hq]
        · subst hn'
          rw [hT3.same.2 b (hO2.lt 1 rfl b e3) (hO2.off 1 0 (by omega) rfl rfl b e3), s2.2 b hblt1 (by simp)]; exact hW1.ex
      · exact absurd ⟨by omega, by omega⟩ hno
      · exact absurd hl hno
    -- all is laid fast
    have flush : ∃ F' σ', evCall Try.prog env L (k0 + 7) 26 [ptr d] σ1 = some (.tuple #[], σ') ∧ D.Disk σ' d F' (D.lay (fun _ => true) 0 s.S s.W) [] ∧ Img σ' m d (s.t : Nat) (s.km : Nat) s.bl (some ⟨b, 0, none⟩) ∧ Owns σ0 σ' (F' :: G :: R) ∧ σ'.get b = σ1.get b ∧ ∀ H ∈ R, ∀ q ∈ H, σ'.get q = σ.get q := by
      obtain ⟨F', σ2, g2, hD2, hT2⟩ := D.flush_spec L (k0 + 4) h11 (by omega) (by omega) hok.wr
      refine ⟨F', σ2, g2, hD2, h21.same hT2.same hmF, hO1.turned 0 rfl hT2, hT2.same.2 b hblt1 hbF, fun H hH q hq => ?_⟩
      rw [rest_kept hO1 hT2.same (fun x hx => .inl hx) H hH q hq, hk1 H hH q hq]
    by_cases hk32 : k < 32
    · have hget : bl'[k]? = some bl'[k] := List.getElem?_eq_getElem (by omega)
      have hsz := long_at hlg hget
      obtain ⟨σ2, g2, s2⟩ := hat (σ' := σ1)
      have hmi : (mk' : Int) = ((mk' : Nat) : Int) := rfl
      have hb2 : σ2.get b = σ1.get b := s2.2 b hblt1 (by simp)
      have h22 := h21.same s2 (by simp)
      obtain ⟨ad3, z3, q3, σ3, g3, hR3, s3, f3⟩ := bsector_spec L (k0 + 1) hL σ2 ((s.t + 1 : Nat) : Int) (mk' : Int) bl'[k] hsz
      have h23 := h22.same s3 (by simp)
      have hdv : IntKind.wrap .i64 (Int.tdiv (k : Int) 8) = ((k / 8 : Nat) : Int) := by
        have : Int.tdiv (k : Int) 8 = ((k / 8 : Nat) : Int) := by rw [Int.tdiv_eq_ediv_of_nonneg (by omega)]; rfl
        rw [this, wrap_in _ (by omega) (by omega)]
      have hmd : Int.tmod (k : Int) 8 = ((k % 8 : Nat) : Int) := by rw [Int.tmod_eq_emod_of_nonneg (by omega)]; rfl
      have hoff : 0 + 2 + Int.toNat ((k / 8 : Nat) : Int) * 8 + Int.toNat ((k % 8 : Nat) : Int) * 1 = 2 + k := by rw [Int.toNat_natCast, Int.toNat_natCast]; omega
      have rdk : ∀ {σ' : St}, σ'.get b = σ1.get b → ∀ K : Value → Res, σ'.ld b (2 + k) K = K (.string bl'[k]) := fun e K => by rw [hW1.ex] at e; exact ld_own K e (wkc_get _ _ _ _ hget)
      have hadd : IntKind.wrap .i64 (((2 + 32 * ((s.t + 1) % 2) : Nat) : Int) + (k : Int)) = ((2 + 32 * ((s.t + 1) % 2) + k : Nat) : Int) := by rw [wrap_in _ (by omega) (by omega)]; omega
      obtain ⟨σ4, e4', hk4, hI4⟩ := lay (2 + 32 * ((s.t + 1) % 2) + k) (s2.trans s3) hR3 (bsec_len _ _ hsz) (by omega)
      have g3' : evCall Try.prog env L (k0 + 7) 25 [.agg #[.int .i64 ((s.t + 1 : Nat) : Int), .int .i64 (mk' : Int)], .string bl'[k]] σ2 = _ := g3
      have hgd : bl'.getD k ⟨#[]⟩ = bl'[k] := by rw [List.getD_eq_getElem?_getD, hget]; rfl
      rw [decide_eq_true (by omega), br_true, ld_at h21.ex 0 _ rfl, asP_p, adr_some, rw2 rfl, uncons_c, asI_i, uncons_c, asI_i, endl_n, g2, bnd_some, asI_i, ld_at h22.ex 0 _ rfl, asP_p, chk_same, adr_some, rw2 hb2, uncons_c, asI_i, uncons_c, asI_i, endl_n, rw2 rfl, uncons_c, asI_i, uncons_c, asI_i, endl_n, chk_same, adr_some, hdv, hmd, need_of (by simp [inRange]; omega), need_of (by simp [inRange]; omega), hoff, rdk hb2, asS_s, rdk rfl, asS_s, chk_same, g3', bnd_some, asSl_s, ld_at h23.ex 0 _ rfl, asP_p, chk_same, hadd, e4']
      exact ⟨_, σ4, rfl, hk4, .inr ⟨mk', bl', k, rfl, by rw [decide_eq_false (by omega)], by unfold stepS; rw [if_pos hk32, hgd]; exact hI4 _ rfl⟩⟩
    rw [decide_eq_false (by omega), br_false]
    by_cases hk2 : k = 32
    · obtain ⟨F', σ2, g2, hD2, hI2, hO2, hb2, hr2⟩ := flush
      rw [show ((k : Int) == 32) = true by rw [beq_iff_eq]; omega, br_true, ld_at h21.ex 0 _ rfl, asP_p, g2, bnd_some, asT_t, toList0, endl_n]
      refine ⟨_, σ2, rfl, hr2, .inr ⟨mk', bl', k, rfl, by rw [decide_eq_false (by omega)], ?_⟩⟩
      unfold stepS
      rw [if_neg hk32, if_pos hk2]
      refine ⟨F', G, _, hD2, hI2, hO2, h4, .inr ⟨b, mk', bl', 33, rfl, rfl, e3, e4, ?_, hbl⟩⟩
      rw [hb2, hW1.ex, hk2]
    rw [show ((k : Int) == 32) = false by rw [beq_eq_false_iff_ne]; omega, br_false]
    by_cases hk3 : k = 33
    · obtain ⟨ad3, z3, q3, σ3, g3, hR3, s3, f3⟩ := hsector_spec L (k0 + 1) hL σ1 ((s.t + 1 : Nat) : Int) (mk' : Int)
      have h23 := h21.same s3 (by simp)
      have hb3 : σ3.get b = σ1.get b := s3.2 b hblt1 (by simp)
      have g3' : evCall Try.prog env L (k0 + 7) 27 [.agg #[.int .i64 ((s.t + 1 : Nat) : Int), .int .i64 (mk' : Int)]] σ1 = _ := g3
      have r1 : ∀ {σ' : St}, σ'.get b = σ1.get b → ∀ K : Value → Res, σ'.ld b (0 + 0 + 0) K = K (.int .i64 ((s.t + 1 : Nat) : Int)) := fun e K => by rw [hW1.ex] at e; exact ld_own K e rfl
      obtain ⟨σ4, e4', hk4, hI4⟩ := lay ((s.t + 1) % 2) s3 hR3 (hsec_len _ _) (by omega)
      rw [show ((k : Int) == 33) = true by rw [beq_iff_eq]; omega, br_true, ld_at h21.ex 0 _ rfl, asP_p, adr_some, r1 rfl, asI_i, adr_some, rw2 rfl, uncons_c, asI_i, uncons_c, asI_i, endl_n, g3', bnd_some, asSl_s, ld_at h23.ex 0 _ rfl, asP_p, chk_same, r1 hb3, asI_i, chk_same, tmod2, e4']
      exact ⟨_, σ4, rfl, hk4, .inr ⟨mk', bl', k, rfl, by rw [decide_eq_false (by omega)], by unfold stepS; rw [if_neg hk32, if_neg hk2, if_pos hk3]; exact hI4 34 (by omega)⟩⟩
    have hk4 : k = 34 := by omega
    obtain ⟨F', σ2, g2, hD2, hI2, hO2, hb2, hr2⟩ := flush
    have hgb2 : σ2.get b = _ := hb2.trans hW1.ex
    rw [show ((k : Int) == 33) = false by rw [beq_eq_false_iff_ne]; omega, br_false, ld_at h21.ex 0 _ rfl, asP_p, g2, bnd_some, asT_t, toList0, endl_n, adr_some, rw2 hb2, uncons_c, asI_i, uncons_c, asI_i, endl_n, adr_some, lds_own _ hgb2 (by rw [wkc_len, hbl]; decide), wkc_blocks _ _ _ _ hbl, put_own _ hI2.ex (by rw [imc_len, hI2.len]; simp) rfl, imc_head, need_of (by rw [strs_len, hbl]; rfl)]
    have a1 := Same.set σ2 m (.own (imc d ((s.t + 1 : Nat) : Int) (mk' : Int) s.bl (some ⟨b, 0, none⟩)) 56)
    have b1 : (σ2.set m (.own (imc d ((s.t + 1 : Nat) : Int) (mk' : Int) s.bl (some ⟨b, 0, none⟩)) 56)).get m = some (.own (imc d ((s.t + 1 : Nat) : Int) (mk' : Int) s.bl (some ⟨b, 0, none⟩)) 56) := get_set_same _ _ _
    generalize σ2.set m (.own (imc d ((s.t + 1 : Nat) : Int) (mk' : Int) s.bl (some ⟨b, 0, none⟩)) 56) = σ3 at a1 b1
    rw [put_own _ b1 (by rw [imc_len, strs_len, hI2.len, hbl]; decide) (strs_one _), imc_over _ _ _ _ _ _ hI2.len hbl]
    have a2 := Same.set σ3 m (.own (imc d ((s.t + 1 : Nat) : Int) (mk' : Int) bl' (some ⟨b, 0, none⟩)) 56)
    have b2 : (σ3.set m (.own (imc d ((s.t + 1 : Nat) : Int) (mk' : Int) bl' (some ⟨b, 0, none⟩)) 56)).get m = some (.own (imc d ((s.t + 1 : Nat) : Int) (mk' : Int) bl' (some ⟨b, 0, none⟩)) 56) := get_set_same _ _ _
    generalize σ3.set m (.own (imc d ((s.t + 1 : Nat) : Int) (mk' : Int) bl' (some ⟨b, 0, none⟩)) 56) = σ4 at a2 b2
    rw [put_at b2 35 (.pointer none) (by rw [imc_len, hbl]; decide) rfl, imc_setw _ _ _ _ _ _ hbl]
    have a3 := Same.set σ4 m (.own (imc d ((s.t + 1 : Nat) : Int) (mk' : Int) bl' none) 56)
    have a13 := (a1.trans a2).trans a3
    have hmF' : m ∉ F' := hO2.off 1 0 (by omega) rfl rfl m h4
    refine ⟨_, _, rfl, fun H hH q hq => ?_, .inr ⟨mk', bl', k, rfl, by rw [decide_eq_true hk4], ?_⟩⟩
    rotate_left
    · unfold stepS
      rw [if_neg hk32, if_neg hk2, if_neg hk3]
      exact ⟨F', G, none, hD2.same a13 (fun q hq => by simp; rintro rfl; exact hmF' hq), ⟨get_set_same _ _ _, by have := hI2.lt; have := a13.1; omega, hbl⟩, img_turn hO2 h4 a13, h4, .inl ⟨rfl, rfl⟩⟩
    rw [rest_kept hO2 a13 (fun x hx => by simp at hx; subst hx; exact .inr (.inl h4)) H hH q hq, hr2 H hH q hq]
end
end Go.AM.Ia

/-
  WHAT HOLDS of a disk and its image, step by step; behind a crash.
-/
namespace Go.AM.Ia

theorem lay_snoc (kept : Nat → Bool) : ∀ (W : List D.Lw) (j : Nat) (S : List D.Sec) (w : D.Lw), D.lay kept j S (W ++ [w]) = if kept (j + W.length) = true then (D.lay kept j S W).set w.at_.toNat w.b else D.lay kept j S W
  | [], j, S, w => by simp [D.lay]
  | v :: W, j, S, w => by
    simp only [List.cons_append, D.lay, List.length_cons]
    rw [lay_snoc kept W (j + 1), show j + 1 + W.length = j + (W.length + 1) by omega]
theorem lay_other (kept : Nat → Bool) {i : Nat} : ∀ (W : List D.Lw) (j : Nat) (S : List D.Sec), (∀ w ∈ W, w.at_ ≠ (i : Int) ∧ 0 ≤ w.at_) → (D.lay kept j S W)[i]? = S[i]?
  | [], j, S, _ => rfl
  | v :: W, j, S, h => by
    simp only [D.lay]
    rw [lay_other kept W (j + 1) _ (fun w hw => h w (List.mem_cons_of_mem _ hw))]
    have := h v (by simp)
    split
    · rw [List.getElem?_set_ne (by omega)]
    · rfl
/-- What stays on a disk. -/
abbrev rd (S : List D.Sec) : Nat → List UInt8 := rdS S []
theorem rd_some {S : List D.Sec} {i : Nat} {s : D.Sec} (h : S[i]? = some s) : rd S i = s.1 := by unfold rd rdS; rw [h]; rfl
theorem rd_of {S S' : List D.Sec} {i : Nat} (h : S'[i]? = S[i]?) : rd S' i = rd S i := by unfold rd rdS; rw [h]
/-- The writes of an area. -/
def areaW (t : Nat) (bl : List ByteArray) (k : Nat) : List D.Lw := (List.range k).map fun i => ⟨((2 + 32 * (t % 2) + i : Nat) : Int), mkSec (bsec (t : Int) (bl.getD i ⟨#[]⟩))⟩
theorem areaW_succ (t : Nat) (bl : List ByteArray) (k : Nat) : areaW t bl (k + 1) = areaW t bl k ++ [⟨((2 + 32 * (t % 2) + k : Nat) : Int), mkSec (bsec (t : Int) (bl.getD k ⟨#[]⟩))⟩] := by
  unfold areaW; rw [List.range_succ, List.map_append]; rfl
theorem areaW_len (t : Nat) (bl : List ByteArray) (k : Nat) : (areaW t bl k).length = k := by unfold areaW; simp
theorem areaW_in {t : Nat} {bl : List ByteArray} {k : Nat} {w : D.Lw} (h : w ∈ areaW t bl k) : ∃ i, i < k ∧ w.at_ = ((2 + 32 * (t % 2) + i : Nat) : Int) := by
  unfold areaW at h
  obtain ⟨i, hi, rfl⟩ := List.mem_map.1 h
  exact ⟨i, List.mem_range.1 hi, rfl⟩
theorem area_laid {S : List D.Sec} {t : Nat} {bl : List ByteArray} (hS : S.length = 66) (hl : long bl = false) (hb : bl.length = 32) : ∀ k : Nat, k ≤ 32 → ∀ i, i < k → rd (D.lay (fun _ => true) 0 S (areaW t bl k)) (2 + 32 * (t % 2) + i) = bsec (t : Int) (bl.getD i ⟨#[]⟩)
  | 0, _, i, hi => by omega
  | k + 1, hk, i, hi => by
    have hget : ∀ i, i < 32 → ∃ s, bl[i]? = some s ∧ bl.getD i ⟨#[]⟩ = s := fun i hi => by
      have h : bl[i]? = some bl[i] := List.getElem?_eq_getElem (by omega)
      exact ⟨_, h, by rw [List.getD_eq_getElem?_getD, h]; rfl⟩
    have hlen := D.lay_len (fun _ => true) (areaW t bl k) 0 S
    rw [areaW_succ, lay_snoc, if_pos rfl]
    by_cases hik : i = k
    · subst hik
      obtain ⟨s, h1, h2⟩ := hget i (by omega)
      have hsz := long_at hl h1
      rw [rd_some (s := mkSec (bsec (t : Int) (bl.getD i ⟨#[]⟩))) (by rw [List.getElem?_set, Int.toNat_natCast, if_pos rfl, if_pos (by rw [hlen, hS]; omega)]), mkSec_of (by rw [h2]; exact bsec_len _ _ hsz)]
    · rw [rd_of (S := D.lay (fun _ => true) 0 S (areaW t bl k)) (by rw [List.getElem?_set_ne (by rw [Int.toNat_natCast]; omega)])]
      exact area_laid hS hl hb k (by omega) i (by omega)

/-- What holds. -/
structure IS.Inv (s : IS) : Prop where
  sl : s.S.length = 66
  tl : s.t ≤ 900
  good : Good (rd s.S) s.t s.km s.bl
  work : match s.work with
    | none => s.W = []
    | some (mk', bl', k) => long bl' = false ∧ bl'.length = 32 ∧ s.km < mk' ∧ mk' ≤ top ∧
      ((k ≤ 32 ∧ s.W = areaW (s.t + 1) bl' k) ∨ (k = 33 ∧ s.W = [] ∧ ∀ i, i < 32 → rd s.S (2 + 32 * ((s.t + 1) % 2) + i) = bsec ((s.t + 1 : Nat) : Int) (bl'.getD i ⟨#[]⟩)) ∨
       (k = 34 ∧ s.W = [⟨(((s.t + 1) % 2 : Nat) : Int), mkSec (hsec ((s.t + 1 : Nat) : Int) (mk' : Nat))⟩] ∧ ∀ i, i < 32 → rd s.S (2 + 32 * ((s.t + 1) % 2) + i) = bsec ((s.t + 1 : Nat) : Int) (bl'.getD i ⟨#[]⟩)))
theorem IS.Inv.ok {s : IS} (h : s.Inv) : s.Ok := by
  have hw := h.work
  have hsl := h.sl
  refine ⟨h.sl, ?_, ?_, by have := h.tl; omega, h.good.hm, fun mk' bl' done e => ?_⟩
  · cases e : s.work with
    | none => rw [e] at hw; dsimp only at hw; rw [hw]; simp
    | some p =>
      obtain ⟨mk', bl', k⟩ := p
      rw [e] at hw
      obtain ⟨_, _, _, _, h5 | h5 | h5⟩ := hw
      · rw [h5.2, areaW_len]; omega
      · rw [h5.2.1]; simp
      · rw [h5.2.1]; simp
  · cases e : s.work with
    | none => rw [e] at hw; dsimp only at hw; rw [hw]; intro w hw; cases hw
    | some p =>
      obtain ⟨mk', bl', k⟩ := p
      rw [e] at hw
      obtain ⟨_, _, _, _, h5 | h5 | h5⟩ := hw
      · rw [h5.2]
        intro w hw
        obtain ⟨i, hi, e⟩ := areaW_in hw
        rw [e]; omega
      · rw [h5.2.1]; intro w hw; cases hw
      · rw [h5.2.1]
        intro w hw
        simp at hw
        subst hw
        dsimp only
        omega
  · rw [e] at hw
    obtain ⟨w1, w2, w3, w4, h5 | h5 | h5⟩ := hw
    · exact ⟨by omega, w1, w2, w3, w4, by rw [h5.2, areaW_len]; exact Nat.le_refl _⟩
    · exact ⟨by omega, w1, w2, w3, w4, by rw [h5.2.1]; simp⟩
    · exact ⟨by omega, w1, w2, w3, w4, by rw [h5.2.1]; simp; omega⟩

theorem IS.Inv.begin {s : IS} (h : s.Inv) (hw : s.work = none) {b : List ByteArray} (hb : b.length = 32) (hl : long b = false) {mark : Int} (h1 : mark ≤ top) (h2 : s.km < mark) : IS.Inv { s with work := some (mark.toNat, b, 0) } := by
  have hww := h.work
  rw [hw] at hww
  exact ⟨h.sl, h.tl, h.good, hl, hb, by show s.km < mark.toNat; omega, by omega, .inl ⟨by omega, hww⟩⟩

theorem other_area {t i : Nat} (hi : i < 32) {j : Nat} : 2 + 32 * ((t + 1) % 2) + j ≠ 2 + 32 * (t % 2) + i ∨ 32 ≤ j := by omega

/-- Of writes to the other area nothing is seen. -/
theorem Good.layArea {S : List D.Sec} {t mk : Nat} {bl : List ByteArray} (h : Good (rd S) t mk bl) (kept : Nat → Bool) {bl' : List ByteArray} {k : Nat} (hk : k ≤ 32) : Good (rd (D.lay kept 0 S (areaW (t + 1) bl' k))) t mk bl := by
  have key : ∀ i, (i = 0 ∨ i = 1 ∨ ∃ j, j < 32 ∧ i = 2 + 32 * (t % 2) + j) → rd (D.lay kept 0 S (areaW (t + 1) bl' k)) i = rd S i := by
    intro i hi
    apply rd_of
    apply lay_other
    intro w hw
    obtain ⟨j, hj, e⟩ := areaW_in hw
    rw [e]
    rcases hi with rfl | rfl | ⟨j', hj', rfl⟩ <;> omega
  exact h.frame (key 0 (.inl rfl)) (key 1 (.inr (.inl rfl))) (fun i hi => key _ (.inr (.inr ⟨i, hi, rfl⟩)))
/-- The next head is laid. -/
theorem Good.layHead {S : List D.Sec} {t mk : Nat} {bl : List ByteArray} (h : Good (rd S) t mk bl) (hS : S.length = 66) (ht : t ≤ 900) {mk' : Nat} {bl' : List ByteArray} (hl : long bl' = false) (hb : bl'.length = 32) (hm : mk' ≤ top) (h1 : mk < mk')
    (ha : ∀ i, i < 32 → rd S (2 + 32 * ((t + 1) % 2) + i) = bsec ((t + 1 : Nat) : Int) (bl'.getD i ⟨#[]⟩)) : Good (rd (S.set ((t + 1) % 2) (mkSec (hsec ((t + 1 : Nat) : Int) (mk' : Nat))))) (t + 1) mk' bl' := by
  refine h.next (by omega) hb hm (by omega) ?_ ?_ (fun i s hi => ?_)
  · rw [rd_some (s := mkSec (hsec ((t + 1 : Nat) : Int) (mk' : Nat))) (by rw [List.getElem?_set, if_pos rfl, if_pos (by omega)]), mkSec_of (hsec_len _ _)]
  · exact rd_of (List.getElem?_set_ne (by omega))
  · have hil := (List.getElem?_eq_some_iff.1 hi).1
    refine ⟨?_, long_at hl hi⟩
    rw [rd_of (S := S) (List.getElem?_set_ne (by omega)), ha i (by omega), List.getD_eq_getElem?_getD, hi]
    rfl

theorem IS.Inv.step {s : IS} (h : s.Inv) (ht : s.t ≤ 899) {mk' : Nat} {bl' : List ByteArray} {k : Nat} (hw : s.work = some (mk', bl', k)) : (stepS s mk' bl' k).Inv := by
  have hww := h.work
  rw [hw] at hww
  obtain ⟨w1, w2, w3, w4, h5⟩ := hww
  have hsl := h.sl
  unfold stepS
  rcases h5 with ⟨hk, hW⟩ | ⟨hk, hW, ha⟩ | ⟨hk, hW, ha⟩
  · by_cases hk32 : k < 32
    · rw [if_pos hk32]
      exact ⟨h.sl, h.tl, h.good, w1, w2, w3, w4, .inl ⟨by omega, by rw [hW, areaW_succ]⟩⟩
    · have hk2 : k = 32 := by omega
      subst hk2
      rw [if_neg hk32, if_pos rfl, hW]
      have hg := h.good.layArea (fun _ => true) (bl' := bl') (k := 32) (Nat.le_refl _)
      have ha := area_laid (t := s.t + 1) hsl w1 w2 32 (Nat.le_refl _)
      have hln := D.lay_len (fun _ => true) (areaW (s.t + 1) bl' 32) 0 s.S
      generalize D.lay (fun _ => true) 0 s.S (areaW (s.t + 1) bl' 32) = S' at hg ha hln ⊢
      exact ⟨hln.trans hsl, h.tl, hg, w1, w2, w3, w4, .inr (.inl ⟨rfl, rfl, ha⟩)⟩
  · subst hk
    rw [if_neg (by omega), if_neg (by omega), if_pos rfl, hW]
    exact ⟨h.sl, h.tl, h.good, w1, w2, w3, w4, .inr (.inr ⟨rfl, rfl, ha⟩)⟩
  · subst hk
    rw [if_neg (by omega), if_neg (by omega), if_neg (by omega), hW]
    have e : D.lay (fun _ => true) 0 s.S [⟨(((s.t + 1) % 2 : Nat) : Int), mkSec (hsec ((s.t + 1 : Nat) : Int) (mk' : Nat))⟩] = s.S.set ((s.t + 1) % 2) (mkSec (hsec ((s.t + 1 : Nat) : Int) (mk' : Nat))) := rfl
    rw [e]
    exact ⟨by rw [List.length_set]; exact hsl, by dsimp only; omega, h.good.layHead hsl h.tl w1 w2 w4 w3 ha, rfl⟩

/-- Behind a crash: the old one, or the next one. -/
theorem IS.Inv.crash {s : IS} (h : s.Inv) (kept : Nat → Bool) : Good (rd (D.lay kept 0 s.S s.W)) s.t s.km s.bl ∨ ∃ mk' bl', s.work = some (mk', bl', 34) ∧ kept 0 = true ∧ Good (rd (D.lay kept 0 s.S s.W)) (s.t + 1) mk' bl' := by
  have hww := h.work
  cases hw : s.work with
  | none => rw [hw] at hww; dsimp only at hww; rw [hww]; exact .inl h.good
  | some p =>
    obtain ⟨mk', bl', k⟩ := p
    rw [hw] at hww
    obtain ⟨w1, w2, w3, w4, h5⟩ := hww
    rcases h5 with ⟨hk, hW⟩ | ⟨hk, hW, ha⟩ | ⟨hk, hW, ha⟩
    · rw [hW]; exact .inl (h.good.layArea kept hk)
    · rw [hW]; exact .inl h.good
    · rw [hW]
      by_cases hk0 : kept 0 = true
      · refine .inr ⟨mk', bl', by rw [hk], hk0, ?_⟩
        have e : D.lay kept 0 s.S [⟨(((s.t + 1) % 2 : Nat) : Int), mkSec (hsec ((s.t + 1 : Nat) : Int) (mk' : Nat))⟩] = s.S.set ((s.t + 1) % 2) (mkSec (hsec ((s.t + 1 : Nat) : Int) (mk' : Nat))) := by
          simp only [D.lay]; rw [if_pos hk0]; rfl
        rw [e]
        exact h.good.layHead h.sl h.tl w1 w2 w4 w3 ha
      · refine .inl ?_
        have e : D.lay kept 0 s.S [⟨(((s.t + 1) % 2 : Nat) : Int), mkSec (hsec ((s.t + 1 : Nat) : Int) (mk' : Nat))⟩] = s.S := by
          simp only [D.lay]; rw [if_neg hk0]
        rw [e]
        exact h.good
end Go.AM.Ia

/-
  WHAT COMES IN, deep: arguments whose elements hold slices of their own.
-/
namespace Go.AM
open Go.RowKit Go.ChangeShapes
variable [Laid]

/-- A cell that may be read: flat, or a slice. -/
def ok1 (ads : List Addr) (v : Value) : Bool :=
  match v with
  | .slice none n c => Nat.beq n 0 && Nat.beq c 0
  | .slice (some a) n c => decide (a ∈ ads) && decide (n ≤ c) && decide (c ≤ maxLen) && (a.spot.isNone || Nat.beq c 0)
  | v => flat1 v
theorem ok1_flat {ads : List Addr} {v : Value} (h : flat1 v = true) : ok1 ads v = true ∧ im ads v = v := by
  cases v <;> simp [flat1] at h <;> exact ⟨rfl, rfl⟩
theorem idx_mp {ads : List Addr} {a : Addr} (h : a ∈ ads) : mpOf ads (ads.idxOf a) = some ⟨a.block, a.off, 0⟩ := by simp [mpOf, idx_get h]
theorem ok1_rel {ads : List Addr} {v : Value} (h : ok1 ads v = true) : VRel (mpOf ads) (im ads v) v := by
  unfold ok1 at h
  split at h
  · rename_i n c
    simp at h
    obtain ⟨rfl, rfl⟩ := h
    exact .sl0
  · rename_i a n c
    simp only [Bool.and_eq_true, decide_eq_true_eq, Bool.or_eq_true, Option.isNone_iff_eq_none] at h
    obtain ⟨⟨⟨h1, h2⟩, h3⟩, h4⟩ := h
    exact VRel.slw (p := ⟨a.block, a.off, 0⟩) (o' := a.off) (sp := a.spot) (idx_mp h1) h2 (.inr rfl) (.inl rfl) h3 (h4.imp id Nat.eq_of_beq_eq_true)
  · rename_i h1 h2
    have := ok1_flat (ads := ads) h
    rw [this.2]
    exact flat1_rel _ v h

def stOfD (ads : List Addr) (W : World) : St where
  get r := match ads[r]? with
    | some a => match W.heap[a.block]? with
      | some (.cells cur _ _) => some (.ro (((cur.toList.drop a.off).takeWhile (ok1 ads)).map (im ads)))
      | _ => none
    | none => none
  next := ads.length

theorem rel_stOfD (ads : List Addr) (W : World) (hI : Laid.I W) : Rel (Base.of W) (mpOf ads) (stOfD ads W) W := by
  refine ⟨Below.refl _ _, fun q hq => ?_, fun q p B hp hB => ?_, fun q vs e h => ?_, fun q vs h => ?_, fun q kv h => ?_, fun q q' B B' p p' h hw => ?_, hI, fun b o he => (by cases he), fun _ _ _ _ _ => rfl⟩
  · have h1 : ads[q]? = none := List.getElem?_eq_none hq
    simp [mpOf, stOfD, h1]
  · simp only [mpOf, Option.map_eq_some_iff] at hp
    obtain ⟨a, ha, rfl⟩ := hp
    simp only [stOfD, ha] at hB
    split at hB
    · rename_i cur e fz hc
      exact (Array.getElem?_eq_some_iff.1 hc).1
    · cases hB
  · simp only [stOfD] at h
    split at h
    · split at h <;> cases h
    · cases h
  · simp only [stOfD] at h
    split at h
    · rename_i a ha
      split at h
      · rename_i cur e fz hc
        cases h
        refine ⟨⟨a.block, a.off, 0⟩, by simp [mpOf, ha], fun i x hx => ?_⟩
        rw [List.getElem?_map, Option.map_eq_some_iff] at hx
        obtain ⟨y, hy, rfl⟩ := hx
        have hpre : (cur.toList.drop a.off)[i]? = some y := by
          have h1 := List.takeWhile_prefix (ok1 ads) (l := cur.toList.drop a.off)
          have hlt : i < ((cur.toList.drop a.off).takeWhile (ok1 ads)).length := (List.getElem?_eq_some_iff.1 hy).1
          obtain ⟨t, ht⟩ := h1
          rw [← ht, List.getElem?_append_left hlt]
          exact hy
        have hgood : ok1 ads y = true := by
          have h1 := List.all_takeWhile (p := ok1 ads) (l := cur.toList.drop a.off)
          exact List.all_eq_true.1 h1 y (List.mem_of_getElem? hy)
        refine ⟨y, ?_, ok1_rel hgood⟩
        simp only [World.cell?, hc]
        rw [List.getElem?_drop, Array.getElem?_toList] at hpre
        exact hpre
      · cases h
    · cases h
  · simp only [stOfD] at h
    split at h
    · split at h <;> cases h
    · cases h
  · simp only [stOfD] at h
    split at h
    · split at h
      · cases h; cases hw
      · cases h
    · cases h

theorem run_lenD {p : Value → Bool} : ∀ {l : List Value} {n : Nat}, n ≤ l.length → (∀ i v, i < n → l[i]? = some v → p v = true) → n ≤ (l.takeWhile p).length
  | [], n, h, _ => by simpa using h
  | x :: l, 0, _, _ => by simp
  | x :: l, n + 1, h, hg => by
    have h1 := hg 0 x (by omega) rfl
    simp only [List.takeWhile_cons, h1, if_true, List.length_cons]
    have := run_lenD (l := l) (n := n) (by simpa using h) (fun i v hi hv => hg (i + 1) v (by omega) (by simpa using hv))
    omega

section
variable {H : Type} {enc : TypeId × Value → H} {P : Program}

/-- Elements that can be read: the memory they lie in, as the machine sees it. -/
theorem elems_img {W : World} {ads : List Addr} {a : Addr} {n : Nat} {e : TypeId} (ha : a ∈ ads) (hsp : a.spot = none) (hz : 0 < P.cellsOf e) (hn : 0 < n)
    (h : ∀ i, i < n → ∃ cs, W.cells? 0 (a.add (i * P.cellsOf e)) (P.cellsOf e) = some cs ∧ (∀ v ∈ cs, ok1 ads v = true) ∧ Img P (stOfD ads W) e (cs.map (im ads))) :
    ∃ vs, (stOfD ads W).get (ads.idxOf a) = some (.ro vs) ∧ n * P.cellsOf e ≤ vs.length ∧ ∀ i, i < n → Img P (stOfD ads W) e ((vs.drop (i * P.cellsOf e)).take (P.cellsOf e)) := by
  obtain ⟨b, o, sp⟩ := a
  simp only at hsp
  subst hsp
  have hidx := idx_get ha
  have hcell : ∀ i, i < n → ∀ j, j < P.cellsOf e → ∃ x, W.cell? ⟨b, o + (i * P.cellsOf e + j), none⟩ = some x ∧ ok1 ads x = true := by
    intro i hi j hj
    obtain ⟨cs, h5, h6, _⟩ := h i hi
    obtain ⟨h7, h8⟩ := cells_inv h5
    have h10 := h8 j hj
    rw [addr_add, addr_add] at h10
    have h11 : j < cs.length := by omega
    rw [List.getElem?_eq_getElem h11] at h10
    exact ⟨cs[j], by rw [← Nat.add_assoc]; exact h10, h6 _ (List.getElem_mem h11)⟩
  have hblk : ∃ cur el fz, W.heap[b]? = some (.cells cur el fz) := by
    obtain ⟨x, hx, _⟩ := hcell 0 hn 0 hz
    unfold World.cell? at hx
    split at hx
    · exact ⟨_, _, _, by assumption⟩
    · cases hx
  obtain ⟨cur, el, fz, hc⟩ := hblk
  have hflat : ∀ q, q < n * P.cellsOf e → ∃ x, (cur.toList.drop o)[q]? = some x ∧ ok1 ads x = true := by
    intro q hq
    have hdiv : q / P.cellsOf e < n := Nat.div_lt_of_lt_mul (by rw [Nat.mul_comm]; exact hq)
    have hmod := Nat.mod_lt q hz
    have hdm := Nat.div_add_mod q (P.cellsOf e)
    obtain ⟨x, hx, hg⟩ := hcell _ hdiv _ hmod
    rw [Nat.mul_comm, hdm] at hx
    refine ⟨x, ?_, hg⟩
    simp only [World.cell?, hc] at hx
    rw [List.getElem?_drop, Array.getElem?_toList]
    simpa using hx
  have hlen : n * P.cellsOf e ≤ (cur.toList.drop o).length := by
    rcases Nat.lt_or_ge (cur.toList.drop o).length (n * P.cellsOf e) with h | h
    · obtain ⟨x, hx, _⟩ := hflat _ h
      rw [List.getElem?_eq_none (Nat.le_refl _)] at hx
      cases hx
    · exact h
  have hget : (stOfD ads W).get (ads.idxOf ⟨b, o, none⟩) = some (.ro (((cur.toList.drop o).takeWhile (ok1 ads)).map (im ads))) := by simp [stOfD, hidx, hc]
  have hlen2 := run_lenD (p := ok1 ads) hlen (fun i v hi hv => by obtain ⟨x, hx, hg⟩ := hflat i hi; rw [hv] at hx; cases hx; exact hg)
  have hpre : ∀ i, i < n * P.cellsOf e → ((cur.toList.drop o).takeWhile (ok1 ads))[i]? = (cur.toList.drop o)[i]? := by
    intro i hi
    obtain ⟨t', ht⟩ := List.takeWhile_prefix (ok1 ads) (l := cur.toList.drop o)
    conv => rhs; rw [← ht]
    rw [List.getElem?_append_left (by omega)]
  refine ⟨_, hget, by rw [List.length_map]; exact hlen2, fun i hi => ?_⟩
  obtain ⟨cs, h5, _, h10⟩ := h i hi
  obtain ⟨h7, h8⟩ := cells_inv h5
  have heq : (((cur.toList.drop o).takeWhile (ok1 ads)).drop (i * P.cellsOf e)).take (P.cellsOf e) = cs := by
    apply List.ext_getElem?
    intro j
    rw [List.getElem?_take]
    by_cases hj : j < P.cellsOf e
    · have hij : i * P.cellsOf e + j < n * P.cellsOf e := by
        have := Nat.mul_le_mul_right (P.cellsOf e) (show i + 1 ≤ n from hi)
        rw [Nat.add_mul] at this
        omega
      rw [if_pos hj, List.getElem?_drop, hpre _ hij, ← h8 j hj, addr_add, addr_add]
      simp only [World.cell?, hc]
      rw [List.getElem?_drop, Array.getElem?_toList]
      simp [Nat.add_assoc]
    · rw [if_neg hj, List.getElem?_eq_none (by omega)]
  rw [← List.map_drop, ← List.map_take, heq]
  exact h10

/-- Types of which bools, whole numbers, strings, and slices of these are reached. -/
def deepT (P : Program) : Nat → TypeId → Bool
  | 0, _ => false
  | n + 1, t =>
    flatT P 8 t || match P.underlying t with
    | some (.slice e) => flatT P 8 e && Nat.blt 0 (P.cellsOf e)
    | some (.struct fs) => (fs.toList.all fun f => deepT P n f.type) && (List.range (P.cellsOf t)).all fun c => fs.toList.any fun f => Nat.ble f.offset c && Nat.blt c (f.offset + P.cellsOf f.type)
    | _ => false

theorem map_im_flat {ads : List Addr} {cs : List Value} (h : ∀ v ∈ cs, flat1 v = true) : cs.map (im ads) = cs := by
  conv => rhs; rw [← List.map_id cs]
  exact List.map_congr_left fun v hv => (ok1_flat (h v hv)).2

theorem image_slice {W : World} {ads : List Addr} {fuel : Nat} {t e : TypeId} {v : Value} {x : DataW H × List MemPlace} (hu : P.underlying t = some (.slice e)) (hf : flatT P 8 e = true) (hz : 0 < P.cellsOf e)
    (h : DataW.trod enc P W 0 (fun _ => true) true (fuel + 1) t [v] = some x) (ha : ∀ a n c, v = .slice (some a) n c → a ∈ ads) : ok1 ads v = true ∧ Img P (stOfD ads W) t [im ads v] := by
  unfold DataW.trod at h
  simp only [hu] at h
  split at h <;> try (simp_all; done)
  · rename_i heq1 heq2
    obtain rfl : v = .slice none 0 0 := by simpa using heq2
    exact ⟨rfl, .nil hu⟩
  · rename_i a len cap heq1 heq2
    obtain rfl : v = .slice (some a) len cap := by simpa using heq2
    cases heq1
    have hm := ha _ _ _ rfl
    split at h
    · rename_i hb
      obtain ⟨elems, he, h2⟩ := Option.bind_eq_some_iff.1 h
      have hel := mapM_some_length he
      simp only [List.length_range] at hel
      rw [if_pos trivial] at h2
      obtain ⟨rest, hrest, _⟩ := Option.map_eq_some_iff.1 h2
      have hrl := mapM_some_length hrest
      simp only [List.length_range] at hrl
      have hrow : ∀ i, i < len → ∃ cs y, W.cells? 0 (a.add (i * P.cellsOf e)) (P.cellsOf e) = some cs ∧ DataW.trod enc P W 0 (fun _ => true) true fuel e cs = some y := by
        intro i hi
        have h3 := mapM_some_get he i i (by simp [hi])
        have h4 : i < elems.length := by omega
        rw [List.getElem?_eq_getElem h4] at h3
        obtain ⟨cs, h5, h6⟩ := Option.bind_eq_some_iff.1 h3
        exact ⟨cs, _, h5, h6⟩
      have hspot : a.spot = none ∨ cap = 0 := by
        by_cases hc0 : cap = 0
        · exact .inr hc0
        · refine .inl ?_
          have hread : ∃ (cs : List Value), W.cells? 0 (a.add 0) (P.cellsOf e) = some cs := by
            by_cases hl : 0 < len
            · obtain ⟨cs, _, h5, _⟩ := hrow 0 hl
              rw [Nat.zero_mul] at h5
              exact ⟨cs, h5⟩
            · have h3 := mapM_some_get hrest 0 0 (List.getElem?_range (by omega))
              rw [List.getElem?_eq_getElem (show 0 < rest.length by omega)] at h3
              obtain ⟨cs, h5, _⟩ := Option.bind_eq_some_iff.1 h3
              rw [show len + 0 = 0 by omega, Nat.zero_mul] at h5
              exact ⟨cs, h5⟩
          obtain ⟨cs, h5⟩ := hread
          obtain ⟨h7, h8⟩ := cells_inv h5
          have h9 := h8 0 hz
          rw [List.getElem?_eq_getElem (show 0 < cs.length by omega)] at h9
          obtain ⟨b, o, sp⟩ := a
          cases sp with
          | none => rfl
          | some s =>
            exfalso
            unfold World.cell? at h9
            split at h9
            · simp [Addr.add] at h9
            · cases h9
      have hok : ok1 ads (.slice (some a) len cap) = true := by
        unfold ok1
        simp only [Bool.and_eq_true, decide_eq_true_eq, Bool.or_eq_true, Option.isNone_iff_eq_none]
        exact ⟨⟨⟨hm, hb.2.1⟩, hb.2.2⟩, hspot.imp id (fun h => by rw [h]; rfl)⟩
      refine ⟨hok, ?_⟩
      show Img P (stOfD ads W) t [.slice (some ⟨ads.idxOf a, 0, none⟩) len 0]
      by_cases hl : len = 0
      · subst hl
        exact .slice hu (by omega) [] (.inl rfl) (by simp) (fun i hi => by omega)
      · have hsp : a.spot = none := by rcases hspot with h | h; exact h; omega
        obtain ⟨vs, g1, g2, g3⟩ := elems_img (n := len) (W := W) (ads := ads) hm hsp hz (by omega) (fun i hi => by
          obtain ⟨cs, y, h5, h6⟩ := hrow i hi
          obtain ⟨h9, _, h10⟩ := image_flat (stOfD ads W) fuel e cs y 8 h6 hf
          exact ⟨cs, h5, fun v hv => (ok1_flat (h9 v hv)).1, by rw [map_im_flat h9]; exact h10⟩)
        exact .slice hu (Nat.le_trans hb.2.1 hb.2.2) vs (.inr g1) g2 g3
    · cases h

theorem image_deep {W : World} {ads : List Addr} : ∀ (k fuel : Nat) (t : TypeId) (cs : List Value) (x : DataW H × List MemPlace), DataW.trod enc P W 0 (fun _ => true) true fuel t cs = some x → deepT P k t = true → (∀ a n c, .slice (some a) n c ∈ cs → a ∈ ads) →
    (∀ v ∈ cs, ok1 ads v = true) ∧ Img P (stOfD ads W) t (cs.map (im ads))
  | 0, fuel, t, cs, x, h, hk, _ => by cases hk
  | k + 1, 0, t, cs, x, h, _, _ => by simp [DataW.trod] at h
  | k + 1, fuel + 1, t, cs, x, h, hk, ha => by
    unfold deepT at hk
    rw [Bool.or_eq_true] at hk
    rcases hk with hk | hk
    · obtain ⟨h1, _, h2⟩ := image_flat (stOfD ads W) (fuel + 1) t cs x 8 h hk
      exact ⟨fun v hv => (ok1_flat (h1 v hv)).1, by rw [map_im_flat h1]; exact h2⟩
    · split at hk
      · rename_i e hu
        rw [Bool.and_eq_true] at hk
        have hcs : ∃ v, cs = [v] := by
          unfold DataW.trod at h
          simp only [hu] at h
          split at h <;> try (simp_all; done)
        obtain ⟨v, rfl⟩ := hcs
        obtain ⟨h1, h2⟩ := image_slice (ads := ads) hu hk.1 (by simpa using hk.2) h (fun a n c e => ha a n c (by simp [e]))
        exact ⟨fun u hu => by simp at hu; subst hu; exact h1, h2⟩
      · rename_i fs hu
        rw [Bool.and_eq_true] at hk
        unfold DataW.trod at h
        simp only [hu] at h
        split at h
        · rename_i hlen
          obtain ⟨r, hr, _⟩ := Option.map_eq_some_iff.1 h
          have hrl := mapM_some_length hr
          have hall : ∀ f ∈ fs.toList, (∀ v ∈ (cs.drop f.offset).take (P.cellsOf f.type), ok1 ads v = true) ∧ Img P (stOfD ads W) f.type (((cs.drop f.offset).take (P.cellsOf f.type)).map (im ads)) := by
            intro f hf
            obtain ⟨i, hi, rfl⟩ := List.getElem_of_mem hf
            have h1 := mapM_some_get hr i _ (List.getElem?_eq_getElem hi)
            have h2 : i < r.length := by omega
            rw [List.getElem?_eq_getElem h2] at h1
            exact image_deep k fuel _ _ _ h1 (List.all_eq_true.1 hk.1 _ (List.getElem_mem hi)) (fun a n c hm => ha a n c (List.mem_of_mem_drop (List.mem_of_mem_take hm)))
          refine ⟨fun v hv => ?_, .struct hu (by rw [List.length_map]; exact hlen) (fun f hf => by rw [← List.map_drop, ← List.map_take]; exact (hall f hf).2)⟩
          obtain ⟨c, hc, rfl⟩ := List.getElem_of_mem hv
          have h1 := List.all_eq_true.1 hk.2 c (by simp; omega)
          obtain ⟨f, hf, h2⟩ := List.any_eq_true.1 h1
          simp only [Bool.and_eq_true, Nat.ble_eq, Nat.blt_eq] at h2
          refine (hall f hf).1 _ (List.mem_of_getElem? (i := c - f.offset) ?_)
          rw [List.getElem?_take, if_pos (by omega), List.getElem?_drop, show f.offset + (c - f.offset) = c by omega]
          exact List.getElem?_eq_getElem hc
        · cases h
      · cases hk

/-- The addresses among the arguments, and among what these hold. -/
def adrsD (W : World) (vs : List Value) : List Addr := adrs vs ++ (adrs vs).flatMap fun (a : Addr) => match W.heap[a.block]? with | some (.cells cur _ _) => adrs (cur.toList.drop a.off) | _ => []
theorem adrs_mem {vs : List Value} {a : Addr} {n c : Nat} (h : Value.slice (some a) n c ∈ vs) : a ∈ adrs vs := List.mem_filterMap.2 ⟨_, h, rfl⟩

/-- An argument that holds no slice. -/
theorem open_flatD {W : World} {t : TypeId} {v : Value} {d : DataW H} {p : List MemPlace} {k : Nat} {ads : List Addr} (hf : flatT P k t = true)
    (h : DataW.Trod enc P W 0 (fun _ => true) true t v d p) (ha : (∃ cs, v = .agg cs) ∨ ∃ x, v.cells.toList = [x] ∧ v = x) : VRel (mpOf ads) v v ∧ Img P (stOfD ads W) t v.cells.toList := by
  obtain ⟨fuel, h1⟩ := h
  obtain ⟨h2, _, h3⟩ := image_flat (stOfD ads W) fuel t _ _ k h1 hf
  refine ⟨?_, h3⟩
  rcases ha with ⟨cs, rfl⟩ | ⟨x, hx, rfl⟩
  · refine .agg rfl fun i x y hx hy => ?_
    rw [hx] at hy; cases hy
    exact flat1_rel _ x (h2 x (List.mem_of_getElem? hx))
  · exact flat1_rel _ v (h2 v (by rw [hx]; simp))

/-- An argument that is a slice of elements that hold slices. -/
theorem open_deep {W : World} {base : Nat} {t e : TypeId} {v : Value} {d : DataW H} {p : List MemPlace} {k : Nat} {vs0 : List Value} (hu : P.underlying t = some (.slice e)) (hf : deepT P k e = true) (hz : 0 < P.cellsOf e)
    (hv : Value.okWide P W .any base t v) (h : DataW.Trod enc P W 0 (fun _ => true) true t v d p) (has : v ∈ vs0) : VRel (mpOf (adrsD W vs0)) (im (adrsD W vs0) v) v ∧ Img P (stOfD (adrsD W vs0) W) t [im (adrsD W vs0) v] := by
  obtain ⟨fuel, h1⟩ := h
  cases fuel with
  | zero => simp [DataW.trod] at h1
  | succ fuel =>
    have hok : v = .slice none 0 0 ∨ ∃ b o n c, v = .slice (some ⟨b, o, none⟩) n c := by
      unfold Value.okWide Cell.okWide Cell.ok at hv
      simp only [hu] at hv
      cases v <;> simp at hv
      rename_i a n c
      cases a with
      | none => left; cases n <;> cases c <;> simp at hv ⊢
      | some a =>
        obtain ⟨b, o, sp⟩ := a
        simp only [World.has] at hv
        have : sp = none := hv.2.2.2.1
        subst this
        exact .inr ⟨b, o, n, c, rfl⟩
    rcases hok with rfl | ⟨b, o, n, c, rfl⟩
    · exact ⟨.sl0, .nil hu⟩
    · have hmem0 : (⟨b, o, none⟩ : Addr) ∈ adrs vs0 := adrs_mem has
      have hmem : (⟨b, o, none⟩ : Addr) ∈ adrsD W vs0 := List.mem_append_left _ hmem0
      unfold DataW.trod at h1
      simp only [hu, Value.cells] at h1
      split at h1
      · rename_i hb
        obtain ⟨elems, he, h2⟩ := Option.bind_eq_some_iff.1 h1
        have hel := mapM_some_length he
        simp only [List.length_range] at hel
        have hrow : ∀ i, i < n → ∃ cs y, W.cells? 0 ((⟨b, o, none⟩ : Addr).add (i * P.cellsOf e)) (P.cellsOf e) = some cs ∧ DataW.trod enc P W 0 (fun _ => true) true fuel e cs = some y := by
          intro i hi
          have h3 := mapM_some_get he i i (by simp [hi])
          have h4 : i < elems.length := by omega
          rw [List.getElem?_eq_getElem h4] at h3
          obtain ⟨cs, h5, h6⟩ := Option.bind_eq_some_iff.1 h3
          exact ⟨cs, _, h5, h6⟩
        have hrel : VRel (mpOf (adrsD W vs0)) (im (adrsD W vs0) (.slice (some ⟨b, o, none⟩) n c)) (.slice (some ⟨b, o, none⟩) n c) :=
          VRel.sl (p := ⟨b, o, 0⟩) (idx_mp hmem) hb.2.1 (.inr rfl) (.inl rfl) hb.2.2
        refine ⟨hrel, ?_⟩
        show Img P (stOfD (adrsD W vs0) W) t [.slice (some ⟨(adrsD W vs0).idxOf ⟨b, o, none⟩, 0, none⟩) n 0]
        by_cases hn : n = 0
        · subst hn
          exact .slice hu (by omega) [] (.inl rfl) (by simp) (fun i hi => by omega)
        · obtain ⟨vs, g1, g2, g3⟩ := elems_img (n := n) (W := W) (ads := adrsD W vs0) hmem rfl hz (by omega) (fun i hi => by
            obtain ⟨cs, y, h5, h6⟩ := hrow i hi
            obtain ⟨h7, h8⟩ := cells_inv h5
            have hnest : ∀ a m c', .slice (some a) m c' ∈ cs → a ∈ adrsD W vs0 := fun a m c' hm => by
              obtain ⟨j, hj, hjv⟩ := List.getElem_of_mem hm
              have h10 := h8 j (by omega)
              rw [addr_add, addr_add, List.getElem?_eq_getElem hj, hjv] at h10
              unfold World.cell? at h10
              split at h10
              · rename_i cur el fz hc
                simp only [Option.isSome_none, Bool.false_eq_true, if_false] at h10
                refine List.mem_append_right _ (List.mem_flatMap.2 ⟨⟨b, o, none⟩, hmem0, ?_⟩)
                simp only [hc]
                refine adrs_mem (n := m) (c := c') (List.mem_of_getElem? (i := i * P.cellsOf e + j) ?_)
                rw [List.getElem?_drop, Array.getElem?_toList, ← Nat.add_assoc]
                exact h10
              · cases h10
            obtain ⟨h9, h10⟩ := image_deep k fuel e cs y h6 hf hnest
            exact ⟨cs, h5, h9, h10⟩)
          exact .slice hu (Nat.le_trans hb.2.1 hb.2.2) vs (.inr g1) g2 g3
      · cases h1

theorem stOfD_lt {ads : List Addr} {W : World} {q : Nat} {vs : List Value} (h : (stOfD ads W).cells q = some vs) : q < (stOfD ads W).next := by
  rcases Nat.lt_or_ge q ads.length with h1 | h1
  · exact h1
  · have h2 : ads[q]? = none := List.getElem?_eq_none h1
    simp [St.cells, stOfD, h2] at h
theorem Img.holdsD {α : Type} {ads : List Addr} {W : World} {t e : TypeId} {v : Value} {sz : Nat} (hu : P.underlying t = some (.slice e)) (h : Img P (stOfD ads W) t [v]) (cells : α → List Value) (dec : ∀ row, Img P (stOfD ads W) e row → ∃ a, row = cells a) (hz : ∀ a, (cells a).length = sz) (hc : P.cellsOf e = sz) :
    ∃ (l : List α) (ad : Option Addr), v = .slice ad l.length 0 ∧ l.length ≤ maxLen ∧ Holds (stOfD ads W) sz cells ad l := by
  obtain ⟨l, ad, h1, h2, h3⟩ := h.list hu cells dec (fun a => by rw [hz, hc])
  refine ⟨l, ad, h1, h2, fun hne => ?_⟩
  obtain ⟨q, vs, g1, g2, g3, g4⟩ := h3 hne
  rw [hc] at g3 g4
  refine ⟨q, vs, g1, g2, stOfD_lt g2, g3, fun i a hi j w hj hw => ?_⟩
  have h5 := g4 i a hi
  have h6 : (((vs.drop (i * sz)).take sz))[j]? = some w := by rw [h5]; exact hw
  rw [List.getElem?_take, if_pos hj, List.getElem?_drop] at h6
  exact h6

/-- The call, out of what the abstract machine answers. -/
theorem endsD {env : FuncId → Def} (henv : EnvOK P env) {L n : Nat} {f : FuncId} {ads : List Addr} {W : World} {args args' : List Value} {σ' : St} (h : evCall P env L n f args (stOfD ads W) = some (.bool true, σ')) (hl : LRel (mpOf ads) args args') (hI : Laid.I W := by trivial) :
    Calls P f args'.toArray W fun e W' => e = .returned (.bool true) ∧ Below W.heap.size W W' := by
  refine Calls.mono ((call_sound henv n f args (stOfD ads W) (.bool true) σ' h).2 (Base.of W) (mpOf ads) W args' hl (rel_stOfD ads W hI)) (fun e W' he => ?_)
  cases e with
  | returned v' =>
    obtain ⟨μ', _, h2, h3⟩ := he
    rw [h2.bool_inv]
    exact ⟨rfl, h3.below⟩
  | panicked ch => exact he.elim
  | outgrown => exact he.elim
end

end Go.AM

/-
  THE IMAGE's laws: what they call besides; opened, cut off.
-/
namespace Go.AM.Ia
open Go.Proofs

theorem _root_.Go.AM.Owns.map {σ0 σ : St} {Fs Gs : List (List Nat)} (h : Owns σ0 σ Fs) (f : Nat → Nat) (hf : ∀ i j, f i = f j → i = j) (hg : ∀ i G, Gs[i]? = some G → Fs[f i]? = some G) : Owns σ0 σ Gs :=
  ⟨h.kept, fun G hG q hq => by
    obtain ⟨i, hi⟩ := List.mem_iff_getElem?.1 hG
    exact h.own G (List.mem_of_getElem? (hg i G hi)) q hq, fun i j A B hij ha hb => h.dis (f i) (f j) A B (fun e => hij (hf i j e)) (hg i A ha) (hg j B hb)⟩
theorem _root_.Go.AM.Owns.flip {σ0 σ : St} {A B : List Nat} {R : List (List Nat)} (h : Owns σ0 σ (A :: B :: R)) : Owns σ0 σ (B :: A :: R) :=
  h.map (fun i => if i = 0 then 1 else if i = 1 then 0 else i) (fun i j e => by
    by_cases a0 : i = 0 <;> by_cases a1 : i = 1 <;> by_cases b0 : j = 0 <;> by_cases b1 : j = 1 <;> simp [a0, a1, b0, b1] at e <;> omega) (fun i G hG => by
    match i, hG with
    | 0, hG => exact hG
    | 1, hG => exact hG
    | i + 2, hG => simpa using hG)
theorem _root_.Go.AM.Owns.second {σ0 σ : St} {A B : List Nat} {R : List (List Nat)} (h : Owns σ0 σ (A :: B :: R)) : Owns σ0 σ (A :: R) := h.flip.forget

section
variable {σ0 σ : St} {m d : Nat} {R : List (List Nat)}
/-- An image is opened. -/
theorem openS {F : List Nat} {S : List D.Sec} {W : List D.Lw} (hD : D.Disk σ d F S W) (hO : Owns σ0 σ (F :: R)) (hS : 66 ≤ S.length) (hW : W.length ≤ 10000) (L k : Nat) (hL : 100000 < L) :
    (∃ t mk bl m σ', opn (rdS S W) = some (t, mk, bl) ∧ evCall Try.prog env L (k + 10) 7 [ptr d] σ = some (.tuple #[ptr m, .nilIface], σ') ∧ ImS σ0 σ' m d ⟨S, W, t, mk, bl, none⟩ R ∧ (∀ H ∈ R, ∀ q ∈ H, σ'.get q = σ.get q)) ∨
    (∃ e σ', opn (rdS S W) = none ∧ evCall Try.prog env L (k + 10) 7 [ptr d] σ = some (.tuple #[.pointer none, e], σ') ∧ Err σ' e 4 0 ∧ D.Disk σ' d F S W ∧ Owns σ0 σ' (F :: R) ∧ (∀ H ∈ R, ∀ q ∈ H, σ'.get q = σ.get q)) := by
  have keep : ∀ {σ' : St}, Same σ σ' [] → ∀ H ∈ R, ∀ q ∈ H, σ'.get q = σ.get q := fun hs H hH q hq => hs.2 q (hO.own H (by simp [hH]) q hq).2 (by simp)
  rcases open_img L k hL hW hS hD with ⟨m, t, mk, bl, σ', ho, g, hI, hm, hs⟩ | ⟨q, σ', ho, g, hq, hql, hs⟩
  · refine .inl ⟨t, mk, bl, m, σ', ho, g, ⟨F, [m], none, hD.idle hs, hI, ((hO.more hs (F := [m]) (by have := hI.lt; simp; omega)).flip), by simp, .inl ⟨rfl, rfl⟩⟩, keep hs⟩
  · exact .inr ⟨_, σ', ho, g, ⟨q, rfl, hq, hql⟩, hD.idle hs, hO.idle hs, keep hs⟩
/-- What is sound is opened. -/
theorem openGood {F : List Nat} {S : List D.Sec} (hD : D.Disk σ d F S []) (hO : Owns σ0 σ (F :: R)) (hS : S.length = 66) (L k : Nat) (hL : 100000 < L) {t mk : Nat} {bl : List ByteArray} (hg : Good (rd S) t mk bl) (ht : t ≤ 900) :
    ∃ m σ', evCall Try.prog env L (k + 10) 7 [ptr d] σ = some (.tuple #[ptr m, .nilIface], σ') ∧ ImS σ0 σ' m d ⟨S, [], t, mk, bl, none⟩ R ∧ (∀ H ∈ R, ∀ q ∈ H, σ'.get q = σ.get q) ∧ IS.Inv ⟨S, [], t, mk, bl, none⟩ := by
  rcases openS hD hO (by omega) (by simp) L k hL with ⟨t', mk', bl', m, σ', ho, g, hI, hk⟩ | ⟨_, _, ho, _⟩
  · rw [show rdS S [] = rd S from rfl, hg.opn] at ho
    cases ho
    exact ⟨m, σ', g, hI, hk, ⟨hS, ht, hg, rfl⟩⟩
  · rw [show rdS S [] = rd S from rfl, hg.opn] at ho; cases ho
theorem ImS.disk {s : IS} (h : ImS σ0 σ m d s R) : ∃ F, D.Disk σ d F s.S s.W ∧ Owns σ0 σ (F :: R) := by
  obtain ⟨F, G, w, h1, h2, h3, _⟩ := h.ex
  exact ⟨F, h1, h3.second⟩
/-- The power goes. -/
theorem crashD {F : List Nat} {S : List D.Sec} {W : List D.Lw} (hD : D.Disk σ d F S W) (hO : Owns σ0 σ (F :: R)) (hwl : W.length ≤ 100) (hwr : D.InR S.length W) (L k : Nat) (hL : 100000 < L) (keep : Int) :
    ∃ F' σ', evCall Try.prog env L (k + 3) 13 [ptr d, .int .u64 keep] σ = some (.tuple #[], σ') ∧ D.Disk σ' d F' (D.lay (D.bit keep) 0 S W) [] ∧ Owns σ0 σ' (F' :: R) ∧ (∀ H ∈ R, ∀ q ∈ H, σ'.get q = σ.get q) ∧ σ.next ≤ σ'.next := by
  obtain ⟨F', σ', g, hD', hT⟩ := D.crash_spec L k hD (by omega) (by omega) hwr keep
  refine ⟨F', σ', g, hD', hO.turned 0 rfl hT, fun H hH q hq => ?_, hT.same.1⟩
  obtain ⟨i, hi⟩ := List.mem_iff_getElem?.1 hH
  exact hT.same.2 q (hO.own H (by simp [hH]) q hq).2 (hO.off (i + 1) 0 (by omega) (by simpa using hi) rfl q hq)
theorem crashS {s : IS} (h : ImS σ0 σ m d s R) (hok : s.Ok) (L k : Nat) (hL : 100000 < L) (keep : Int) :
    ∃ F' σ', evCall Try.prog env L (k + 3) 13 [ptr d, .int .u64 keep] σ = some (.tuple #[], σ') ∧ D.Disk σ' d F' (D.lay (D.bit keep) 0 s.S s.W) [] ∧ Owns σ0 σ' (F' :: R) ∧ (∀ H ∈ R, ∀ q ∈ H, σ'.get q = σ.get q) := by
  obtain ⟨F, hD, hO⟩ := h.disk
  obtain ⟨F', σ', g, h1, h2, h3, _⟩ := crashD hD hO hok.wl hok.wr L k hL keep
  exact ⟨F', σ', g, h1, h2, h3⟩
theorem markS {s : IS} (h : ImS σ0 σ m d s R) (L k : Nat) : evCall Try.prog env L (k + 1) 9 [ptr m] σ = some (.int .i64 (s.km : Nat), σ) := by
  obtain ⟨F, G, w, h1, h2, _⟩ := h.ex
  exact mark_spec h2 L k
theorem blocksS {s : IS} (h : ImS σ0 σ m d s R) (L k : Nat) : ∃ σ', evCall Try.prog env L (k + 1) 8 [ptr m] σ = some (.agg (strs s.bl).toArray, σ') ∧ Same σ σ' [] := by
  obtain ⟨F, G, w, h1, h2, _⟩ := h.ex
  exact blocks_spec h2 L k
theorem ImS.blen {s : IS} (h : ImS σ0 σ m d s R) : s.bl.length = 32 := by
  obtain ⟨F, G, w, h1, h2, _⟩ := h.ex
  exact h2.len
theorem ImS.kept {s : IS} (h : ImS σ0 σ m d s R) : Kept' σ0.next σ0 σ := by
  obtain ⟨F, G, w, h1, h2, h3, _⟩ := h.ex
  exact h3.kept
end

def fresh66 : List D.Sec := List.replicate 66 D.zsec
def noBlocks : List ByteArray := List.replicate 32 ⟨#[]⟩
theorem good66 : Good (rd fresh66) 0 0 noBlocks :=
  ⟨rfl, by omega, by unfold top; omega, fun _ => ⟨rfl, rfl, rfl, rfl⟩, fun h => by omega, fun h => by omega, fun h => by omega⟩
theorem new66 (L k : Nat) {σ0 σ : St} {R : List (List Nat)} (hO : Owns σ0 σ R) : ∃ d F σ', evCall Try.prog env L (k + 1) 6 [.int .i64 66] σ = some (ptr d, σ') ∧ D.Disk σ' d F fresh66 [] ∧ Owns σ0 σ' (F :: R) ∧ Same σ σ' [] := by
  obtain ⟨d, F, σ', g, hD, hs, hq⟩ := D.new_spec L k σ 66
  exact ⟨d, F, σ', g, hD, hO.more hs (fun q h => ⟨hq q h, hD.lt q h⟩), hs⟩

theorem ba_beq (x y : ByteArray) : (x == y) = decide (x = y) := by
  rw [beq_toListBytes, ByteArray.toList_eq, ByteArray.toList_eq]
  by_cases h : x = y
  · subst h; simp
  · rw [decide_eq_false h, beq_eq_false_iff_ne]
    exact fun e => h (by rw [← str_eta x, ← str_eta y, e])
theorem eqCells_strs {α : Type} (K : Bool → Option α) : ∀ (a b : List ByteArray), a.length = b.length → eqCells (List.replicate a.length Kd.s) (strs a) (strs b) K = K (decide (a = b))
  | [], [], _ => rfl
  | x :: a, y :: b, h => by
    have e : eqCells (List.replicate (x :: a).length Kd.s) (strs (x :: a)) (strs (y :: b)) K = eqCells (List.replicate a.length Kd.s) (strs a) (strs b) fun r => K (x == y && r) := rfl
    rw [e, eqCells_strs _ a b (by simpa using h)]
    congr 1
    rw [ba_beq]
    by_cases hx : x = y
    · subst hx
      by_cases ha : a = b
      · subst ha; simp
      · rw [decide_eq_false ha, decide_eq_false (fun e => ha (List.cons.inj e).2)]; simp
    · rw [decide_eq_false (fun e => hx (List.cons.inj e).1), decide_eq_false hx]; rfl
theorem eqCells32 {α : Type} (K : Bool → Option α) {a b : List ByteArray} (ha : a.length = 32) (hb : b.length = 32) : eqCells (List.replicate 32 Kd.s) (strs a) (strs b) K = K (decide (a = b)) := by
  rw [← ha]; exact eqCells_strs K a b (by omega)

/-! made: a list's blocks. -/
def madeUp (l : List ByteArray) (n : Nat) : List ByteArray := (List.range 32).map fun i => if i < n then l.getD i ⟨#[]⟩ else ⟨#[]⟩
def made (l : List ByteArray) : List ByteArray := madeUp l l.length
theorem madeUp_len (l : List ByteArray) (n : Nat) : (madeUp l n).length = 32 := by unfold madeUp; simp
theorem madeUp_set (l : List ByteArray) (n : Nat) (h : n < 32) : (madeUp l n).set n (l.getD n ⟨#[]⟩) = madeUp l (n + 1) := by
  apply List.ext_getElem?
  intro i
  rw [List.getElem?_set, madeUp_len]
  unfold madeUp
  rw [List.getElem?_map, List.getElem?_map]
  by_cases hi : i < 32
  · rw [List.getElem?_range hi, Option.map_some, Option.map_some]
    by_cases hin : n = i
    · subst hin; rw [if_pos rfl, if_pos hi, if_pos (by omega)]
    · rw [if_neg hin]
      by_cases h2 : i < n
      · rw [if_pos h2, if_pos (by omega)]
      · rw [if_neg h2, if_neg (by omega)]
  · rw [if_neg (by omega), List.getElem?_eq_none (by simp; omega)]
    rfl
theorem madeUp_more (l : List ByteArray) {n : Nat} (h : 32 ≤ n) : madeUp l (n + 1) = madeUp l n := by
  unfold madeUp
  apply List.map_congr_left
  intro i hi
  have := List.mem_range.1 hi
  rw [if_pos (by omega), if_pos (by omega)]
def cS (s : ByteArray) : List Value := [.string s]
theorem made_loop (L k : Nat) {σ0 σb : St} {ad : Option Addr} {l : List ByteArray} (hl : l.length ≤ 1000) (hH : Holds σ0 1 cS ad l) {z r1 r2 : Nat} (hr1 : σb.next ≤ r1) (hr2 : σb.next ≤ r2) (hr : r1 ≠ r2) : ∀ (n i : Nat) (σ : St), i ≤ l.length → l.length - i < n → Kept' σ0.next σ0 σ → σ0.next ≤ σb.next → Same σb σ [] → r1 < σ.next → σ.get r1 = some (.own (strs noBlocks) 38) → σ.get r2 = some (.own (strs (madeUp l i)) 38) →
    ∃ σ', lpAt Try.prog env L k 11 [true, true, false, true] [] n [(0, .slice ad l.length z), (2, ptr r1), (3, ptr r2), (6, .int .i64 l.length), (7, .int .i64 i)] σ = some (.agg (strs (made l)).toArray, σ') ∧ Same σb σ' []
  | 0, i, σ, _, h, _, _, _, _, _, _ => by omega
  | n + 1, i, σ, hi, hn, hk, hb, hs, hlt, g1, g2 => by
    rw [f11_l3]
    have hw : IntKind.wrap .i64 ((i : Int) + 1) = ((i + 1 : Nat) : Int) := by rw [wrap_in _ (by omega) (by omega)]; omega
    by_cases hie : i = l.length
    · have e : madeUp l i = made l := by rw [hie]; rfl
      rw [e] at g2
      have hml : (made l).length = 32 := madeUp_len _ _
      rw [decide_eq_false (by omega), br_false, lds_all g2 (by rw [strs_len, hml]), need_of (by rw [strs_len, hml]; rfl), put_all g1 (by rw [strs_len, strs_len, hml]; rfl) (strs_one _), lds_all (get_set_same _ _ _) (by rw [strs_len, hml])]
      exact ⟨_, rfl, hs.fresh (Same.set _ _ _) (fun x hx => .inr (by simp at hx; omega))⟩
    · rw [decide_eq_true (by omega), br_true]
      by_cases h32 : i < 32
      · have hget : l[i]? = some l[i] := List.getElem?_eq_getElem (by omega)
        obtain ⟨q, e0, hat⟩ := hH.ld hk hget
        have hdv : IntKind.wrap .i64 (Int.tdiv (i : Int) 8) = ((i / 8 : Nat) : Int) := by
          have : Int.tdiv (i : Int) 8 = ((i / 8 : Nat) : Int) := by rw [Int.tdiv_eq_ediv_of_nonneg (by omega)]; rfl
          rw [this, wrap_in _ (by omega) (by omega)]
        have hmd : Int.tmod (i : Int) 8 = ((i % 8 : Nat) : Int) := by rw [Int.tmod_eq_emod_of_nonneg (by omega)]; rfl
        have hoff : 0 + Int.toNat ((i / 8 : Nat) : Int) * 8 + Int.toNat ((i % 8 : Nat) : Int) * 1 = i := by rw [Int.toNat_natCast, Int.toNat_natCast]; omega
        have hgd : l.getD i ⟨#[]⟩ = l[i] := by rw [List.getD_eq_getElem?_getD, hget]; rfl
        have hset := madeUp_set l i h32
        rw [hgd] at hset
        have hat' := fun K : Value → Res => hat 0 (.string l[i]) (0 + Int.toNat (i : Int) * 1) (by omega) rfl (by simp) K
        rw [decide_eq_true (by omega), br_true, need_of (by simp [inRange]; omega), e0, adr_some, hat', asS_s, hdv, hmd, need_of (by simp [inRange]; omega), need_of (by simp [inRange]; omega), hoff, put_at g2 i (.string l[i]) (by rw [strs_len, madeUp_len]; omega) rfl, strs_set, hset, hw, ← e0]
        have s2 := Same.set σ r2 (.own (strs (madeUp l (i + 1))) 38)
        exact made_loop L k hl hH hr1 hr2 hr n (i + 1) _ (by omega) (by omega) (hk.step s2 (fun x hx => by simp at hx; omega)) hb (hs.fresh s2 (fun x hx => .inr (by simp at hx; omega))) hlt (by rw [get_set hr]; exact g1) (get_set_same _ _ _)
      · rw [decide_eq_false (by omega), br_false, hw]
        exact made_loop L k hl hH hr1 hr2 hr n (i + 1) σ (by omega) (by omega) hk hb hs hlt g1 (by rw [madeUp_more l (by omega)]; exact g2)
theorem made_spec (L k : Nat) (hL : 1000 < L) {σ0 σ : St} {ad : Option Addr} {l : List ByteArray} (hl : l.length ≤ 1000 ∧ l.length < L) (hH : Holds σ0 1 cS ad l) (hk : Kept' σ0.next σ0 σ) (z : Nat) : ∃ σ', evCall Try.prog env L (k + 1) 11 [.slice ad l.length z] σ = some (.agg (strs (made l)).toArray, σ') ∧ Same σ σ' [] := by
  have hlit : ([Value.string ⟨#[]⟩, Value.string ⟨#[]⟩, Value.string ⟨#[]⟩, Value.string ⟨#[]⟩, Value.string ⟨#[]⟩, Value.string ⟨#[]⟩, Value.string ⟨#[]⟩, Value.string ⟨#[]⟩, Value.string ⟨#[]⟩, Value.string ⟨#[]⟩, Value.string ⟨#[]⟩, Value.string ⟨#[]⟩, Value.string ⟨#[]⟩, Value.string ⟨#[]⟩, Value.string ⟨#[]⟩, Value.string ⟨#[]⟩, Value.string ⟨#[]⟩, Value.string ⟨#[]⟩, Value.string ⟨#[]⟩, Value.string ⟨#[]⟩, Value.string ⟨#[]⟩, Value.string ⟨#[]⟩, Value.string ⟨#[]⟩, Value.string ⟨#[]⟩, Value.string ⟨#[]⟩, Value.string ⟨#[]⟩, Value.string ⟨#[]⟩, Value.string ⟨#[]⟩, Value.string ⟨#[]⟩, Value.string ⟨#[]⟩, Value.string ⟨#[]⟩, Value.string ⟨#[]⟩] : List Value) = strs noBlocks := rfl
  rw [f11_eq, hlit]
  have hk0 := hk.1
  have s1 := Same.new σ (.own (strs noBlocks) 38) []
  have g1 : (σ.new (.own (strs noBlocks) 38)).get σ.next = some (.own (strs noBlocks) 38) := get_new_same _ _
  have n1 : (σ.new (.own (strs noBlocks) 38)).next = σ.next + 1 := rfl
  generalize σ.new (.own (strs noBlocks) 38) = σ1 at s1 g1 n1
  have s2 := Same.new σ1 (.own (strs noBlocks) 38) []
  have g2 : (σ1.new (.own (strs noBlocks) 38)).get σ1.next = some (.own (strs noBlocks) 38) := get_new_same _ _
  have n2 : (σ1.new (.own (strs noBlocks) 38)).next = σ1.next + 1 := rfl
  generalize σ1.new (.own (strs noBlocks) 38) = σ2 at s2 g2 n2
  have g12 : σ2.get σ.next = _ := (s2.2 σ.next (by omega) (by simp)).trans g1
  have s12 := s1.trans s2
  have e0 : madeUp l 0 = noBlocks := by unfold madeUp noBlocks; simp; rfl
  exact made_loop L k hl.1 hH (σb := σ) (by omega) (by omega) (by omega) L 0 σ2 (by omega) (by omega) (hk.step s12 (by simp)) hk0 s12 (by omega) g12 (by rw [e0]; exact g2)
end Go.AM.Ia

/-
  THE IMAGE's laws: awake, few; ImageNil.
-/
namespace Go.AM.Ia
open Go.Proofs

theorem lit32 : ([Value.string ⟨#[]⟩, Value.string ⟨#[]⟩, Value.string ⟨#[]⟩, Value.string ⟨#[]⟩, Value.string ⟨#[]⟩, Value.string ⟨#[]⟩, Value.string ⟨#[]⟩, Value.string ⟨#[]⟩, Value.string ⟨#[]⟩, Value.string ⟨#[]⟩, Value.string ⟨#[]⟩, Value.string ⟨#[]⟩, Value.string ⟨#[]⟩, Value.string ⟨#[]⟩, Value.string ⟨#[]⟩, Value.string ⟨#[]⟩, Value.string ⟨#[]⟩, Value.string ⟨#[]⟩, Value.string ⟨#[]⟩, Value.string ⟨#[]⟩, Value.string ⟨#[]⟩, Value.string ⟨#[]⟩, Value.string ⟨#[]⟩, Value.string ⟨#[]⟩, Value.string ⟨#[]⟩, Value.string ⟨#[]⟩, Value.string ⟨#[]⟩, Value.string ⟨#[]⟩, Value.string ⟨#[]⟩, Value.string ⟨#[]⟩, Value.string ⟨#[]⟩, Value.string ⟨#[]⟩] : List Value) = strs noBlocks := rfl
theorem kds32 : ([Kd.s, Kd.s, Kd.s, Kd.s, Kd.s, Kd.s, Kd.s, Kd.s, Kd.s, Kd.s, Kd.s, Kd.s, Kd.s, Kd.s, Kd.s, Kd.s, Kd.s, Kd.s, Kd.s, Kd.s, Kd.s, Kd.s, Kd.s, Kd.s, Kd.s, Kd.s, Kd.s, Kd.s, Kd.s, Kd.s, Kd.s, Kd.s] : List Kd) = List.replicate 32 Kd.s := rfl
theorem long_none : long noBlocks = false := by decide

/-- A new disk, an image on it. -/
theorem start (L k : Nat) (hL : 100000 < L) {σ0 σ : St} {R : List (List Nat)} (hO : Owns σ0 σ R) : ∃ d m σ1 σ2, evCall Try.prog env L (k + 10) 6 [.int .i64 66] σ = some (ptr d, σ1) ∧ evCall Try.prog env L (k + 10) 7 [ptr d] σ1 = some (.tuple #[ptr m, .nilIface], σ2) ∧
    ImS σ0 σ2 m d ⟨fresh66, [], 0, 0, noBlocks, none⟩ R ∧ (∀ H ∈ R, ∀ q ∈ H, σ2.get q = σ.get q) ∧ IS.Inv ⟨fresh66, [], 0, 0, noBlocks, none⟩ := by
  obtain ⟨d, F, σ1, g1, hD, hO1, hs⟩ := new66 L (k + 9) hO
  obtain ⟨m, σ2, g2, hI, hk, hinv⟩ := openGood hD hO1 (by unfold fresh66; simp) L k hL good66 (by omega)
  exact ⟨d, m, σ1, σ2, g1, g2, hI, fun H hH q hq => by rw [hk H hH q hq, hs.2 q (hO.own H hH q hq).2 (by simp)], hinv⟩
theorem same_of {σ σ' : St} (h : Kept' σ.next σ σ') : Same σ σ' [] := ⟨h.1, fun k hk _ => h.2 k hk⟩
theorem awake_spec (L k : Nat) (hL : 100000 < L) (σ : St) : ∃ σ', evCall Try.prog env L (k + 11) 4 [] σ = some (.bool true, σ') ∧ Same σ σ' [] := by
  obtain ⟨d, m, σ1, σ2, g1, g2, hI, _, hinv⟩ := start L k hL (Owns.start σ)
  obtain ⟨v, σ3, g3, _, hor⟩ := begin_spec hI L (k + 6) hL hinv.ok (b := noBlocks) rfl 3
  have g3' : evCall Try.prog env L (k + 10) 10 [ptr m, .agg (strs noBlocks).toArray, .int .i64 3] σ2 = some (v, σ3) := g3
  have hagg : Value.agg #[Value.string ⟨#[]⟩, Value.string ⟨#[]⟩, Value.string ⟨#[]⟩, Value.string ⟨#[]⟩, Value.string ⟨#[]⟩, Value.string ⟨#[]⟩, Value.string ⟨#[]⟩, Value.string ⟨#[]⟩, Value.string ⟨#[]⟩, Value.string ⟨#[]⟩, Value.string ⟨#[]⟩, Value.string ⟨#[]⟩, Value.string ⟨#[]⟩, Value.string ⟨#[]⟩, Value.string ⟨#[]⟩, Value.string ⟨#[]⟩, Value.string ⟨#[]⟩, Value.string ⟨#[]⟩, Value.string ⟨#[]⟩, Value.string ⟨#[]⟩, Value.string ⟨#[]⟩, Value.string ⟨#[]⟩, Value.string ⟨#[]⟩, Value.string ⟨#[]⟩, Value.string ⟨#[]⟩, Value.string ⟨#[]⟩, Value.string ⟨#[]⟩, Value.string ⟨#[]⟩, Value.string ⟨#[]⟩, Value.string ⟨#[]⟩, Value.string ⟨#[]⟩, Value.string ⟨#[]⟩] = Value.agg (strs noBlocks).toArray := rfl
  rw [f4_eq, f15_eq, bnd_some, asI_i, g1, bnd_some, asP_p, g2, bnd_some, asT_t, toList2, uncons_c, asP_p, uncons_c, endl_n, f15_eq, bnd_some, asI_i, show ((66 : Int) == 66) = true from rfl, br_true, eqNil_nil, br_true, show (!Option.isNone (some (⟨m, 0, none⟩ : Addr))) = true from rfl, br_true, hagg, g3', bnd_some]
  rcases hor with ⟨h, _⟩ | ⟨_, h, _⟩ | ⟨_, _, _, h, _⟩ | ⟨_, _, _, _, rfl, hI3⟩
  · exact absurd rfl h
  · rcases h with h | h
    · rw [long_none] at h; cases h
    · unfold top at h; omega
  · exact absurd h (by decide)
  · rw [eqNil_nil, br_true, busyI_spec hI3 L (k + 9), bnd_some, asB_b]
    exact ⟨σ3, rfl, same_of hI3.kept⟩

/-! few. -/
def Reads (σ : St) (ad : Option Addr) (ls : List (Option Addr × Nat × List ByteArray)) : Prop :=
  ∀ (i : Nat) (p : Option Addr × Nat × List ByteArray), ls[i]? = some p → ∃ q, ad = some ⟨q, 0, none⟩ ∧ (∀ K : Value → Res, σ.ld q (i * 4) K = K (.slice p.1 p.2.2.length p.2.1)) ∧ ∀ (j : Nat) (s : ByteArray), p.2.2[j]? = some s → ∃ q', p.1 = some ⟨q', 0, none⟩ ∧ ∀ K : Value → Res, σ.ld q' j K = K (.string s)
theorem few_inner (L k m0 : Nat) {σ : St} {ad : Option Addr} {z : Nat} {ls : List (Option Addr × Nat × List ByteArray)} (h : Reads σ ad ls) (hls : ls.length ≤ 20) {i : Nat} {p : Option Addr × Nat × List ByteArray} (hp : ls[i]? = some p) (hl : p.2.2.length ≤ 40) : ∀ (n j : Nat), j ≤ p.2.2.length → p.2.2.length - j < n → (∀ (x : Nat) (s : ByteArray), x < j → p.2.2[x]? = some s → s.size ≤ 100) →
    (lpAt Try.prog env L k 5 [true, true, false, true, false, true, true, false, true, true, true] [m0] n [(0, .slice ad ls.length z), (3, .int .i64 i), (9, .int .i64 ls.length), (10, .int .i64 i), (25, .int .i64 p.2.2.length), (26, .int .i64 j)] σ = some (.bool false, σ)) ∨
    (lpAt Try.prog env L k 5 [true, true, false, true, false, true, true, false, true, true, true] [m0] n [(0, .slice ad ls.length z), (3, .int .i64 i), (9, .int .i64 ls.length), (10, .int .i64 i), (25, .int .i64 p.2.2.length), (26, .int .i64 j)] σ = lpAt Try.prog env L k 5 [true, true, false, true] [] m0 [(0, .slice ad ls.length z), (9, .int .i64 ls.length), (10, .int .i64 ((i + 1 : Nat) : Int))] σ ∧ ∀ s ∈ p.2.2, s.size ≤ 100)
  | 0, j, _, h, _ => by omega
  | n + 1, j, hj, hn, hs => by
    have hil := (List.getElem?_eq_some_iff.1 hp).1
    obtain ⟨q, e0, r0, r1⟩ := h i p hp
    rw [f5_l9]
    by_cases hje : j = p.2.2.length
    · have hw : IntKind.wrap .i64 ((i : Int) + 1) = ((i + 1 : Nat) : Int) := by rw [wrap_in _ (by omega) (by omega)]; omega
      rw [decide_eq_false (by omega), br_false, hw]
      refine .inr ⟨rfl, fun s hsm => ?_⟩
      obtain ⟨x, hx⟩ := List.mem_iff_getElem?.1 hsm
      exact hs x s (by have := (List.getElem?_eq_some_iff.1 hx).1; omega) hx
    · have hget : p.2.2[j]? = some p.2.2[j] := List.getElem?_eq_getElem (by omega)
      obtain ⟨q', e1, r2⟩ := r1 j _ hget
      have hw : IntKind.wrap .i64 ((j : Int) + 1) = ((j + 1 : Nat) : Int) := by rw [wrap_in _ (by omega) (by omega)]; omega
      have r0' : ∀ K : Value → Res, σ.ld q (0 + Int.toNat (i : Int) * 4 + 0) K = K (.slice p.1 p.2.2.length p.2.1) := fun K => by rw [show 0 + Int.toNat (i : Int) * 4 + 0 = i * 4 by simp]; exact r0 K
      have r2' : ∀ K : Value → Res, σ.ld q' (0 + Int.toNat (j : Int) * 1) K = K (.string p.2.2[j]) := fun K => by rw [show 0 + Int.toNat (j : Int) * 1 = j by simp]; exact r2 K
      rw [decide_eq_true (by omega), br_true, need_of (by simp [inRange]; omega), e0, adr_some, r0', asSl_s, need_of (by simp [inRange]; omega), e1, adr_some, r2', asS_s]
      by_cases hbig : p.2.2[j].size > 100
      · rw [decide_eq_true (by omega), br_true]; exact .inl rfl
      · rw [decide_eq_false (by omega), br_false, hw, ← e0]
        exact few_inner L k m0 h hls hp hl n (j + 1) (by omega) (by omega) (fun x s hx hxs => by
          by_cases hxj : x = j
          · subst hxj; rw [hget] at hxs; cases hxs; omega
          · exact hs x s (by omega) hxs)
theorem few_outer (L k : Nat) (hL : 100 < L) {σ : St} {ad : Option Addr} {z : Nat} {ls : List (Option Addr × Nat × List ByteArray)} (h : Reads σ ad ls) (hls : ls.length ≤ 20) : ∀ (n i : Nat), i ≤ ls.length → ls.length - i < n → (∀ (x : Nat) (p : Option Addr × Nat × List ByteArray), x < i → ls[x]? = some p → p.2.2.length ≤ 40 ∧ ∀ s ∈ p.2.2, s.size ≤ 100) →
    ∃ b, lpAt Try.prog env L k 5 [true, true, false, true] [] n [(0, .slice ad ls.length z), (9, .int .i64 ls.length), (10, .int .i64 i)] σ = some (.bool b, σ) ∧ (b = true → ∀ p ∈ ls, p.2.2.length ≤ 40 ∧ ∀ s ∈ p.2.2, s.size ≤ 100)
  | 0, i, _, h, _ => by omega
  | n + 1, i, hi, hn, hs => by
    rw [f5_l4]
    by_cases hie : i = ls.length
    · rw [decide_eq_false (by omega), br_false]
      refine ⟨true, rfl, fun _ p hp => ?_⟩
      obtain ⟨x, hx⟩ := List.mem_iff_getElem?.1 hp
      exact hs x p (by have := (List.getElem?_eq_some_iff.1 hx).1; omega) hx
    · have hget : ls[i]? = some ls[i] := List.getElem?_eq_getElem (by omega)
      obtain ⟨q, e0, r0, r1⟩ := h i _ hget
      generalize ls[i] = p at hget r0 r1
      have r0' : ∀ K : Value → Res, σ.ld q (0 + Int.toNat (i : Int) * 4 + 0) K = K (.slice p.1 p.2.2.length p.2.1) := fun K => by rw [show 0 + Int.toNat (i : Int) * 4 + 0 = i * 4 by simp]; exact r0 K
      rw [decide_eq_true (by omega), br_true, need_of (by simp [inRange]; omega), e0, adr_some, r0', asSl_s]
      by_cases h40 : p.2.2.length > 40
      · rw [decide_eq_true (by omega), br_true]; exact ⟨false, rfl, by simp⟩
      · rw [decide_eq_false (by omega), br_false, need_of (by simp [inRange]; omega), adr_some, r0', asSl_s, ← e0]
        rcases few_inner L k n h hls hget (z := z) (by omega) L 0 (by omega) (by omega) (fun x s hx => by omega) with e | ⟨e, hall⟩
        · exact ⟨false, e, by simp⟩
        · obtain ⟨b, e2, hb⟩ := few_outer L k hL h hls (z := z) n (i + 1) (by omega) (by omega) (fun x p' hx hxp => by
            by_cases hxi : x = i
            · subst hxi; rw [hget] at hxp; cases hxp; exact ⟨by omega, hall⟩
            · exact hs x p' (by omega) hxp)
          exact ⟨b, e.trans e2, hb⟩
theorem few_spec (L k : Nat) (hL : 100 < L) {σ : St} {ad : Option Addr} {z : Nat} {ls : List (Option Addr × Nat × List ByteArray)} (h : Reads σ ad ls) : ∃ b, evCall Try.prog env L (k + 1) 5 [.slice ad ls.length z] σ = some (.bool b, σ) ∧ (b = true → ls.length ≤ 20 ∧ ∀ p ∈ ls, p.2.2.length ≤ 40 ∧ ∀ s ∈ p.2.2, s.size ≤ 100) := by
  rw [f5_eq]
  by_cases h20 : ls.length > 20
  · rw [decide_eq_true (by omega), br_true]; exact ⟨false, rfl, by simp⟩
  · rw [decide_eq_false (by omega), br_false]
    obtain ⟨b, e, hb⟩ := few_outer L k hL h (z := z) (by omega) L 0 (by omega) (by omega) (fun x p hx => by omega)
    exact ⟨b, e, fun hbt => ⟨by omega, hb hbt⟩⟩
/-- A list of one operation of the call's own. -/
theorem reads_one {σ0 σ : St} {ad : Option Addr} {l : List ByteArray} (hH : Holds σ0 1 cS ad l) (hk : Kept' σ0.next σ0 σ) {q : Nat} {z : Nat} {a b c : Value} (hq : σ.get q = some (.own [.slice ad l.length z, a, b, c] 35)) : Reads σ (some ⟨q, 0, none⟩) [(ad, z, l)] := by
  intro i p hp
  have hi : i = 0 := by have := (List.getElem?_eq_some_iff.1 hp).1; simp at this; exact this
  subst hi
  simp at hp
  subst hp
  refine ⟨q, rfl, fun K => ld_own K hq rfl, fun j s hs => ?_⟩
  obtain ⟨q', e, hat⟩ := hH.ld hk hs
  exact ⟨q', e, fun K => hat 0 (.string s) j (by omega) rfl (by omega) K⟩

/-! A nil image. -/
theorem nil16 (L k : Nat) (σ : St) : evCall Try.prog env L (k + 1) 9 [.pointer none] σ = some (.int .i64 0, σ) := by kernel_rfl
theorem nil25 (L k : Nat) (σ : St) : evCall Try.prog env L (k + 1) 14 [.pointer none] σ = some (.bool false, σ) := by kernel_rfl
theorem nil23 (L k : Nat) (σ : St) : evCall Try.prog env L (k + 1) 12 [.pointer none] σ = bnd (evCall Try.prog env L k 17 [.int .i64 0, .int .i64 11] σ) fun v σ' => some (.tuple #[.bool false, v], σ') := by kernel_rfl
end Go.AM.Ia

/-
  ImageNil.
-/
namespace Go.AM.Ia
open Go.Proofs

theorem nil22 (L k : Nat) (σ : St) (a : List Value) (n : Int) : evCall Try.prog env L (k + 1) 10 [.pointer none, .agg a.toArray, .int .i64 n] σ = bnd (evCall Try.prog env L k 17 [.int .i64 0, .int .i64 11] (σ.new (.own a 38))) fun v σ' => some (v, σ') := by kernel_rfl
theorem nil19 (L k : Nat) (σ : St) : evCall Try.prog env L (k + 1) 8 [.pointer none] σ = (St.put (σ.new (.own (strs noBlocks) 38)) σ.next 0 (strs noBlocks) fun v1 => St.lds v1 σ.next 0 32 fun v2 => some (Value.agg v2.toArray, v1)) := by kernel_rfl
theorem nil19_spec (L k : Nat) (σ : St) : ∃ σ', evCall Try.prog env L (k + 1) 8 [.pointer none] σ = some (.agg (strs noBlocks).toArray, σ') ∧ Same σ σ' [] := by
  rw [nil19, tmp_put2 σ (strs noBlocks) (strs noBlocks) 38 rfl (strs_one _), lds_all (n := 32) (get_new_same _ _) rfl]
  exact ⟨_, rfl, Same.new _ _ _⟩
theorem down (L k : Nat) (σ : St) : ∃ v σ', evCall Try.prog env L (k + 2) 17 [.int .i64 0, .int .i64 11] σ = some (v, σ') ∧ Err σ' v 11 0 ∧ Same σ σ' [] := by
  obtain ⟨q, σ', g, h1, h2, s⟩ := wrapi_spec L k σ 0 11 (by decide)
  exact ⟨_, σ', g, ⟨q, rfl, h1, h2⟩, s⟩

/-- What each law begins with: a list of one operation. -/
theorem one_ahead (L k : Nat) (hL : 100000 < L) {σ0 : St} {ad : Option Addr} {l : List ByteArray} (hH : Holds σ0 1 cS ad l) (z : Nat) (T : St → Res) (hT : ∀ σ, Same σ0 σ [] → l.length ≤ 40 → ∃ σ', T σ = some (.bool true, σ')) :
    ∃ σ', (bnd (evCall Try.prog env L (k + 11) 4 [] σ0) fun v1 v2 => asB v1 fun v3 =>
      br (!v3) (bnd (evCall Try.prog env L (k + 11) 4 [] v2) fun v4 v5 => asB v4 fun v6 => some (Value.bool v6, v5)) (need true (need true (bnd (evCall Try.prog env L (k + 11) 5 [.slice (some ⟨v2.next, 0, none⟩) 1 4] (v2.new (Blk.own [.slice ad l.length z, .int .i64 0, .int .u8 0, .int .u64 0] 35))) fun v7 v8 => asB v7 fun v9 =>
        br (!v9) (bnd (evCall Try.prog env L (k + 11) 4 [] v8) fun v10 v11 => asB v10 fun v12 => some (Value.bool v12, v11)) (T v8))))) = some (.bool true, σ') := by
  obtain ⟨σ1, g1, s1⟩ := awake_spec L k hL σ0
  rw [g1, bnd_some, asB_b, not_true, br_false, need_true, need_true]
  have s2 : Same σ1 (σ1.new (Blk.own [.slice ad l.length z, .int .i64 0, .int .u8 0, .int .u64 0] 35)) [] := Same.new _ _ _
  have g2 : (σ1.new (Blk.own [.slice ad l.length z, .int .i64 0, .int .u8 0, .int .u64 0] 35)).get σ1.next = some (Blk.own [.slice ad l.length z, .int .i64 0, .int .u8 0, .int .u64 0] 35) := get_new_same _ _
  generalize σ1.new (Blk.own [.slice ad l.length z, .int .i64 0, .int .u8 0, .int .u64 0] 35) = σ2 at s2 g2
  have s02 := s1.trans s2
  have hk : Kept' σ0.next σ0 σ2 := ⟨s02.1, fun k hk => s02.2 k hk (by simp)⟩
  obtain ⟨b, g3, hb⟩ := few_spec L (k + 10) (by omega) (z := 4) (reads_one hH hk g2)
  have g3' : evCall Try.prog env L (k + 11) 5 [.slice (some ⟨σ1.next, 0, none⟩) 1 4] σ2 = some (.bool b, σ2) := g3
  rw [g3', bnd_some, asB_b]
  cases b with
  | false =>
    obtain ⟨σ3, g4, _⟩ := awake_spec L k hL σ2
    rw [not_false, br_true, g4, bnd_some, asB_b]; exact ⟨σ3, rfl⟩
  | true =>
    rw [not_true, br_false]
    exact hT σ2 s02 (((hb rfl).2 (ad, z, l) (by simp)).1)

end Go.AM.Ia

/-
  Of what the image's laws' arguments say.
-/
namespace Go.AM.Ia
open Go.Proofs
theorem strOf {σ : St} {row : List Value} (h : Go.AM.Img Try.prog σ 9 row) : ∃ s : ByteArray, row = cS s := by
  obtain ⟨s, h1, _⟩ := Go.AM.Img.str_inv Try.underlying9 h
  exact ⟨s, h1⟩
end Go.AM.Ia

/-
  ImageSteps.
-/
namespace Go.AM.Ia
open Go.Proofs

/-- Blocks are being laid: so many steps are done. -/
structure Phase (s : IS) (t0 km0 : Nat) (bl0 : List ByteArray) (M : Nat) (B : List ByteArray) (i : Nat) : Prop where
  inv : s.Inv
  le : i ≤ 35
  mid : i < 35 → s.work = some (M, B, i) ∧ s.km = km0 ∧ s.bl = bl0 ∧ s.t = t0
  fin : i = 35 → s.work = none ∧ s.km = M ∧ s.bl = B ∧ s.t = t0 + 1
theorem Phase.start {s : IS} (h : s.Inv) (hw : s.work = none) {b : List ByteArray} (hb : b.length = 32) (hl : long b = false) {mark : Int} (h1 : mark ≤ top) (h2 : s.km < mark) : Phase { s with work := some (mark.toNat, b, 0) } s.t s.km s.bl mark.toNat b 0 :=
  ⟨h.begin hw hb hl h1 h2, by omega, fun _ => ⟨rfl, rfl, rfl, rfl⟩, fun h => by omega⟩
theorem Phase.step {s : IS} {t0 km0 : Nat} {bl0 : List ByteArray} {M : Nat} {B : List ByteArray} {i : Nat} (h : Phase s t0 km0 bl0 M B i) (hi : i < 35) (ht : t0 ≤ 899) : Phase (stepS s M B i) t0 km0 bl0 M B (i + 1) := by
  obtain ⟨h1, h2, h3, h4⟩ := h.mid hi
  refine ⟨h.inv.step (by omega) h1, by omega, fun h35 => ?_, fun h35 => ?_⟩
  · unfold stepS
    by_cases a : i < 32
    · rw [if_pos a]; exact ⟨rfl, h2, h3, h4⟩
    by_cases b : i = 32
    · rw [if_neg a, if_pos b, b]; exact ⟨rfl, h2, h3, h4⟩
    have c : i = 33 := by omega
    rw [if_neg a, if_neg b, if_pos c, c]; exact ⟨rfl, h2, h3, h4⟩
  · have : i = 34 := by omega
    subst this
    unfold stepS
    rw [if_neg (by omega), if_neg (by omega), if_neg (by omega)]
    exact ⟨rfl, rfl, rfl, by show s.t + 1 = t0 + 1; rw [h4]⟩

theorem step_none {σ0 σ : St} {m d : Nat} {s : IS} {R : List (List Nat)} (h : ImS σ0 σ m d s R) (hw : s.work = none) (L k : Nat) : ∃ q σ', evCall Try.prog env L (k + 3) 12 [ptr m] σ = some (.tuple #[.bool false, .iface 84 (ptr q)], σ') ∧ Err σ' (.iface 84 (ptr q)) 9 0 ∧ σ.next ≤ q ∧ q < σ'.next ∧ Same σ σ' [] := by
  rw [f12_eq, busyI_spec h L (k + 1), bnd_some, asB_b, hw, f17_eq, f30_eq, eqNil_iface, br_false]
  have hb : ∀ K : Res, eqErr (.iface 51 (.int .i64 9)) 51 .i64 0 (fun v2 => br v2 (some (Value.nilIface, σ)) K) = K := by
    intro K; simp [eqErr]
  rw [show (none : Option (Nat × List ByteArray × Nat)).isSome = false from rfl, not_false, br_true, hb, need_true, need_of (show oneCell (Value.iface 51 (Value.int .i64 9)) = true from rfl), need_true, bnd_some, bnd_some]
  exact ⟨σ.next, _, rfl, ⟨σ.next, rfl, get_new_same _ _, by simp⟩, Nat.le_refl _, by simp, Same.new _ _ _⟩

section
variable {σ0 : St} {m d r : Nat} {B : List ByteArray} {M : Nat}
end

end Go.AM.Ia

/-
  ImageAtomic.
-/
namespace Go.AM.Ia
open Go.Proofs

structure OpI (σ0 : St) where
  ad : Option Addr
  l : List ByteArray
  mark : Int
  cut : Int
  keep : Int
  hs : Holds σ0 1 cS ad l
def c4 {σ0 : St} (o : OpI σ0) : List Value := [.slice o.ad o.l.length 0, .int .i64 o.mark, .int .u8 o.cut, .int .u64 o.keep]
theorem c4_len {σ0 : St} (o : OpI σ0) : (c4 o).length = 4 := rfl
set_option maxRecDepth 20000 in
theorem opOf {ads : List Addr} {W : World} {row : List Value} (h : Go.AM.Img Try.prog (stOfD ads W) 35 row) : ∃ o : OpI (stOfD ads W), row = c4 o := by
  obtain ⟨h1, h2⟩ := h.struct_inv Try.underlying35
  have hl : row.length = 4 := by rw [h1]; kernel_rfl
  match row, hl with
  | [s, x, y, z], _ =>
    have hs := h2 _ (List.mem_of_getElem? (i := 0) rfl)
    have hx := h2 _ (List.mem_of_getElem? (i := 1) rfl)
    have hy := h2 _ (List.mem_of_getElem? (i := 2) rfl)
    have hz := h2 _ (List.mem_of_getElem? (i := 3) rfl)
    have e3 : Try.prog.cellsOf 3 = 1 := by kernel_rfl
    have e22 : Try.prog.cellsOf 32 = 1 := by kernel_rfl
    have e5 : Try.prog.cellsOf 5 = 1 := by kernel_rfl
    have e54 : Try.prog.cellsOf 33 = 1 := by kernel_rfl
    simp only [e22] at hs
    simp only [e3] at hx
    simp only [e5] at hy
    simp only [e54] at hz
    obtain ⟨n0, w0, _⟩ := Go.AM.Img.int_inv Try.underlying3 hx
    obtain ⟨n1, w1, _⟩ := Go.AM.Img.int_inv Try.underlying5 hy
    obtain ⟨n2, w2, _⟩ := Go.AM.Img.int_inv Try.underlying33 hz
    obtain ⟨l, ad, w3, _, hH⟩ := Go.AM.Img.holdsD (sz := 1) (α := ByteArray) Try.underlying32 (show Go.AM.Img Try.prog (stOfD ads W) 32 [s] from hs) cS (fun row hr => strOf hr) (fun _ => rfl) (by kernel_rfl)
    simp at w0 w1 w2 w3
    exact ⟨⟨ad, l, n0, n1, n2, hH⟩, by rw [w0, w1, w2, w3]; rfl⟩
theorem reads_ops {σ0 σ : St} {ad : Option Addr} {sc : List (OpI σ0)} (hH : Holds σ0 4 c4 ad sc) (hk : Kept' σ0.next σ0 σ) : Reads σ ad (sc.map fun o => (o.ad, 0, o.l)) := by
  intro i p hp
  rw [List.getElem?_map] at hp
  cases ho : sc[i]? with
  | none => rw [ho] at hp; cases hp
  | some o =>
    rw [ho] at hp
    cases hp
    obtain ⟨q, e, hat⟩ := hH.ld hk ho
    refine ⟨q, e, fun K => hat 0 _ (i * 4) (by omega) rfl (by omega) K, fun j s hs => ?_⟩
    obtain ⟨q', e', hat'⟩ := o.hs.ld hk hs
    exact ⟨q', e', fun K => hat' 0 (.string s) j (by omega) rfl (by omega) K⟩

/-- What follows the steps; the comparison; the last looks. -/
noncomputable def tl1 (L k m0 : Nat) (st : St) (s0 : Option Addr) (s0n s0z s3 o3 s4 o4 : Nat) (s7 : Value) (s8 o8 : Nat) (s9 : Int) (s10 : Bool) (s31 s32 : Int) : Res := AM.asP s7 fun v27 => AM.adr v27 fun v28 v29 => AM.St.ld st v28 (v29 + 2) fun v30 => AM.asI IntKind.u8 v30 fun v31 => AM.br (v31 != (0 : Int)) (AM.asP s7 fun v32 => AM.adr v32 fun v33 v34 => AM.St.ld st v33 (v34 + 3) fun v35 => AM.asI IntKind.u64 v35 fun v36 => AM.bnd (AM.evCall Proofs.Try.prog AM.Ia.env L k 13 [Value.pointer (some { block := s3, off := o3 }), Value.int IntKind.u64 v36] st) fun v37 v38 => AM.asT v37 fun v39 => AM.endl v39 (AM.bnd (AM.evCall Proofs.Try.prog AM.Ia.env L k 7 [Value.pointer (some { block := s3, off := o3 })] v38) fun v40 v41 => AM.asT v40 fun v42 => AM.uncons v42 fun v43 v44 => AM.asP v43 fun v45 => AM.uncons v44 fun v46 v47 => AM.endl v47 (AM.eqNil v46 fun v48 => AM.br (!v48) (some (Value.bool false, v41)) (AM.bnd (AM.evCall Proofs.Try.prog AM.Ia.env L k 8 [Value.pointer v45] v41) fun v49 v50 => AM.asAgL v49 fun v51 => AM.St.lds v50 s8 o8 32 fun v52 => AM.St.lds v41 s8 o8 32 fun v53 => AM.chk (Value.agg (List.toArray v53)) (Value.agg (List.toArray v52)) (AM.eqCells [AM.Kd.s, AM.Kd.s, AM.Kd.s, AM.Kd.s, AM.Kd.s, AM.Kd.s, AM.Kd.s, AM.Kd.s, AM.Kd.s, AM.Kd.s, AM.Kd.s, AM.Kd.s, AM.Kd.s, AM.Kd.s, AM.Kd.s, AM.Kd.s, AM.Kd.s, AM.Kd.s, AM.Kd.s, AM.Kd.s, AM.Kd.s, AM.Kd.s, AM.Kd.s, AM.Kd.s, AM.Kd.s, AM.Kd.s, AM.Kd.s, AM.Kd.s, AM.Kd.s, AM.Kd.s, AM.Kd.s, AM.Kd.s] v51 v52 fun v54 => AM.br v54 (AM.bnd (AM.evCall Proofs.Try.prog AM.Ia.env L k 9 [Value.pointer v45] v50) fun v55 v56 => AM.asI IntKind.i64 v55 fun v57 => AM.bnd (AM.evCall Proofs.Try.prog AM.Ia.env L k 8 [Value.pointer v45] v56) fun v58 v59 => AM.asAgL v58 fun v60 => AM.asP s7 fun v61 => AM.adr v61 fun v62 v63 => AM.St.ld v59 v62 (v63 + 0) fun v64 => AM.asSl v64 fun v65 v66 v67 => AM.St.ld v56 v62 (v63 + 0) fun v68 => AM.asSl v68 fun v69 v70 v71 => AM.chk (Value.slice v69 v70 v71) (Value.slice v65 v66 v67) (AM.bnd (AM.evCall Proofs.Try.prog AM.Ia.env L k 11 [Value.slice v65 v66 v67] v59) fun v72 v73 => AM.asAgL v72 fun v74 => AM.eqCells [AM.Kd.s, AM.Kd.s, AM.Kd.s, AM.Kd.s, AM.Kd.s, AM.Kd.s, AM.Kd.s, AM.Kd.s, AM.Kd.s, AM.Kd.s, AM.Kd.s, AM.Kd.s, AM.Kd.s, AM.Kd.s, AM.Kd.s, AM.Kd.s, AM.Kd.s, AM.Kd.s, AM.Kd.s, AM.Kd.s, AM.Kd.s, AM.Kd.s, AM.Kd.s, AM.Kd.s, AM.Kd.s, AM.Kd.s, AM.Kd.s, AM.Kd.s, AM.Kd.s, AM.Kd.s, AM.Kd.s, AM.Kd.s] v60 v74 fun v75 => AM.br v75 (AM.bnd (AM.evCall Proofs.Try.prog AM.Ia.env L k 9 [Value.pointer v45] v73) fun v76 v77 => AM.asI IntKind.i64 v76 fun v78 => AM.asP s7 fun v79 => AM.adr v79 fun v80 v81 => AM.St.ld v77 v80 (v81 + 1) fun v82 => AM.asI IntKind.i64 v82 fun v83 => AM.St.ld v73 v80 (v81 + 1) fun v84 => AM.asI IntKind.i64 v84 fun v85 => AM.chk (Value.int IntKind.i64 v85) (Value.int IntKind.i64 v83) (AM.br (!v57 == s9) (AM.br (!v78 == v83) (some (Value.bool false, v77)) (AM.br s10 (AM.br (!v78 == v83) (some (Value.bool false, v77)) (AM.bnd (AM.evCall Proofs.Try.prog AM.Ia.env L k 9 [Value.pointer v45] v77) fun v86 v87 => AM.asI IntKind.i64 v86 fun v88 => AM.br (decide (v88 < s9)) (some (Value.bool false, v87)) (AM.bnd (AM.evCall Proofs.Try.prog AM.Ia.env L k 14 [Value.pointer v45] v87) fun v89 v90 => AM.asB v89 fun v91 => AM.br v91 (some (Value.bool false, v90)) (AM.lpAt Proofs.Try.prog AM.Ia.env L k 3 [true, true, true, true, true, false, true] [] m0 [(0, Value.slice s0 s0n s0z), (3, Value.pointer (some { block := s3, off := o3 })), (4, Value.pointer v45), (31, Value.int IntKind.i64 s31), (32, Value.int IntKind.i64 (IntKind.wrap IntKind.i64 (s32 + (1 : Int))))] v90)))) (AM.bnd (AM.evCall Proofs.Try.prog AM.Ia.env L k 9 [Value.pointer v45] v77) fun v92 v93 => AM.asI IntKind.i64 v92 fun v94 => AM.br (decide (v94 < s9)) (some (Value.bool false, v93)) (AM.bnd (AM.evCall Proofs.Try.prog AM.Ia.env L k 14 [Value.pointer v45] v93) fun v95 v96 => AM.asB v95 fun v97 => AM.br v97 (some (Value.bool false, v96)) (AM.lpAt Proofs.Try.prog AM.Ia.env L k 3 [true, true, true, true, true, false, true] [] m0 [(0, Value.slice s0 s0n s0z), (3, Value.pointer (some { block := s3, off := o3 })), (4, Value.pointer v45), (31, Value.int IntKind.i64 s31), (32, Value.int IntKind.i64 (IntKind.wrap IntKind.i64 (s32 + (1 : Int))))] v96))))) (AM.br s10 (AM.br (!v78 == v83) (some (Value.bool false, v77)) (AM.bnd (AM.evCall Proofs.Try.prog AM.Ia.env L k 9 [Value.pointer v45] v77) fun v98 v99 => AM.asI IntKind.i64 v98 fun v100 => AM.br (decide (v100 < s9)) (some (Value.bool false, v99)) (AM.bnd (AM.evCall Proofs.Try.prog AM.Ia.env L k 14 [Value.pointer v45] v99) fun v101 v102 => AM.asB v101 fun v103 => AM.br v103 (some (Value.bool false, v102)) (AM.lpAt Proofs.Try.prog AM.Ia.env L k 3 [true, true, true, true, true, false, true] [] m0 [(0, Value.slice s0 s0n s0z), (3, Value.pointer (some { block := s3, off := o3 })), (4, Value.pointer v45), (31, Value.int IntKind.i64 s31), (32, Value.int IntKind.i64 (IntKind.wrap IntKind.i64 (s32 + (1 : Int))))] v102)))) (AM.bnd (AM.evCall Proofs.Try.prog AM.Ia.env L k 9 [Value.pointer v45] v77) fun v104 v105 => AM.asI IntKind.i64 v104 fun v106 => AM.br (decide (v106 < s9)) (some (Value.bool false, v105)) (AM.bnd (AM.evCall Proofs.Try.prog AM.Ia.env L k 14 [Value.pointer v45] v105) fun v107 v108 => AM.asB v107 fun v109 => AM.br v109 (some (Value.bool false, v108)) (AM.lpAt Proofs.Try.prog AM.Ia.env L k 3 [true, true, true, true, true, false, true] [] m0 [(0, Value.slice s0 s0n s0z), (3, Value.pointer (some { block := s3, off := o3 })), (4, Value.pointer v45), (31, Value.int IntKind.i64 s31), (32, Value.int IntKind.i64 (IntKind.wrap IntKind.i64 (s32 + (1 : Int))))] v108)))))) (AM.br (!v57 == s9) (some (Value.bool false, v73)) (AM.br s10 (some (Value.bool false, v73)) (AM.bnd (AM.evCall Proofs.Try.prog AM.Ia.env L k 9 [Value.pointer v45] v73) fun v110 v111 => AM.asI IntKind.i64 v110 fun v112 => AM.br (decide (v112 < s9)) (some (Value.bool false, v111)) (AM.bnd (AM.evCall Proofs.Try.prog AM.Ia.env L k 14 [Value.pointer v45] v111) fun v113 v114 => AM.asB v113 fun v115 => AM.br v115 (some (Value.bool false, v114)) (AM.lpAt Proofs.Try.prog AM.Ia.env L k 3 [true, true, true, true, true, false, true] [] m0 [(0, Value.slice s0 s0n s0z), (3, Value.pointer (some { block := s3, off := o3 })), (4, Value.pointer v45), (31, Value.int IntKind.i64 s31), (32, Value.int IntKind.i64 (IntKind.wrap IntKind.i64 (s32 + (1 : Int))))] v114))))))) (AM.bnd (AM.evCall Proofs.Try.prog AM.Ia.env L k 8 [Value.pointer v45] v50) fun v116 v117 => AM.asAgL v116 fun v118 => AM.asP s7 fun v119 => AM.adr v119 fun v120 v121 => AM.St.ld v117 v120 (v121 + 0) fun v122 => AM.asSl v122 fun v123 v124 v125 => AM.St.ld v50 v120 (v121 + 0) fun v126 => AM.asSl v126 fun v127 v128 v129 => AM.chk (Value.slice v127 v128 v129) (Value.slice v123 v124 v125) (AM.bnd (AM.evCall Proofs.Try.prog AM.Ia.env L k 11 [Value.slice v123 v124 v125] v117) fun v130 v131 => AM.asAgL v130 fun v132 => AM.eqCells [AM.Kd.s, AM.Kd.s, AM.Kd.s, AM.Kd.s, AM.Kd.s, AM.Kd.s, AM.Kd.s, AM.Kd.s, AM.Kd.s, AM.Kd.s, AM.Kd.s, AM.Kd.s, AM.Kd.s, AM.Kd.s, AM.Kd.s, AM.Kd.s, AM.Kd.s, AM.Kd.s, AM.Kd.s, AM.Kd.s, AM.Kd.s, AM.Kd.s, AM.Kd.s, AM.Kd.s, AM.Kd.s, AM.Kd.s, AM.Kd.s, AM.Kd.s, AM.Kd.s, AM.Kd.s, AM.Kd.s, AM.Kd.s] v118 v132 fun v133 => AM.br v133 (AM.bnd (AM.evCall Proofs.Try.prog AM.Ia.env L k 9 [Value.pointer v45] v131) fun v134 v135 => AM.asI IntKind.i64 v134 fun v136 => AM.asP s7 fun v137 => AM.adr v137 fun v138 v139 => AM.St.ld v135 v138 (v139 + 1) fun v140 => AM.asI IntKind.i64 v140 fun v141 => AM.St.ld v131 v138 (v139 + 1) fun v142 => AM.asI IntKind.i64 v142 fun v143 => AM.chk (Value.int IntKind.i64 v143) (Value.int IntKind.i64 v141) (AM.br (!v136 == v141) (some (Value.bool false, v135)) (AM.br s10 (AM.br (!v136 == v141) (some (Value.bool false, v135)) (AM.bnd (AM.evCall Proofs.Try.prog AM.Ia.env L k 9 [Value.pointer v45] v135) fun v144 v145 => AM.asI IntKind.i64 v144 fun v146 => AM.br (decide (v146 < s9)) (some (Value.bool false, v145)) (AM.bnd (AM.evCall Proofs.Try.prog AM.Ia.env L k 14 [Value.pointer v45] v145) fun v147 v148 => AM.asB v147 fun v149 => AM.br v149 (some (Value.bool false, v148)) (AM.lpAt Proofs.Try.prog AM.Ia.env L k 3 [true, true, true, true, true, false, true] [] m0 [(0, Value.slice s0 s0n s0z), (3, Value.pointer (some { block := s3, off := o3 })), (4, Value.pointer v45), (31, Value.int IntKind.i64 s31), (32, Value.int IntKind.i64 (IntKind.wrap IntKind.i64 (s32 + (1 : Int))))] v148)))) (AM.bnd (AM.evCall Proofs.Try.prog AM.Ia.env L k 9 [Value.pointer v45] v135) fun v150 v151 => AM.asI IntKind.i64 v150 fun v152 => AM.br (decide (v152 < s9)) (some (Value.bool false, v151)) (AM.bnd (AM.evCall Proofs.Try.prog AM.Ia.env L k 14 [Value.pointer v45] v151) fun v153 v154 => AM.asB v153 fun v155 => AM.br v155 (some (Value.bool false, v154)) (AM.lpAt Proofs.Try.prog AM.Ia.env L k 3 [true, true, true, true, true, false, true] [] m0 [(0, Value.slice s0 s0n s0z), (3, Value.pointer (some { block := s3, off := o3 })), (4, Value.pointer v45), (31, Value.int IntKind.i64 s31), (32, Value.int IntKind.i64 (IntKind.wrap IntKind.i64 (s32 + (1 : Int))))] v154)))))) (some (Value.bool false, v131))))))))) (AM.bnd (AM.evCall Proofs.Try.prog AM.Ia.env L k 8 [Value.pointer (some { block := s4, off := o4 })] st) fun v156 v157 => AM.asAgL v156 fun v158 => AM.St.lds v157 s8 o8 32 fun v159 => AM.St.lds st s8 o8 32 fun v160 => AM.chk (Value.agg (List.toArray v160)) (Value.agg (List.toArray v159)) (AM.eqCells [AM.Kd.s, AM.Kd.s, AM.Kd.s, AM.Kd.s, AM.Kd.s, AM.Kd.s, AM.Kd.s, AM.Kd.s, AM.Kd.s, AM.Kd.s, AM.Kd.s, AM.Kd.s, AM.Kd.s, AM.Kd.s, AM.Kd.s, AM.Kd.s, AM.Kd.s, AM.Kd.s, AM.Kd.s, AM.Kd.s, AM.Kd.s, AM.Kd.s, AM.Kd.s, AM.Kd.s, AM.Kd.s, AM.Kd.s, AM.Kd.s, AM.Kd.s, AM.Kd.s, AM.Kd.s, AM.Kd.s, AM.Kd.s] v158 v159 fun v161 => AM.br v161 (AM.bnd (AM.evCall Proofs.Try.prog AM.Ia.env L k 9 [Value.pointer (some { block := s4, off := o4 })] v157) fun v162 v163 => AM.asI IntKind.i64 v162 fun v164 => AM.bnd (AM.evCall Proofs.Try.prog AM.Ia.env L k 8 [Value.pointer (some { block := s4, off := o4 })] v163) fun v165 v166 => AM.asAgL v165 fun v167 => AM.asP s7 fun v168 => AM.adr v168 fun v169 v170 => AM.St.ld v166 v169 (v170 + 0) fun v171 => AM.asSl v171 fun v172 v173 v174 => AM.St.ld v163 v169 (v170 + 0) fun v175 => AM.asSl v175 fun v176 v177 v178 => AM.chk (Value.slice v176 v177 v178) (Value.slice v172 v173 v174) (AM.bnd (AM.evCall Proofs.Try.prog AM.Ia.env L k 11 [Value.slice v172 v173 v174] v166) fun v179 v180 => AM.asAgL v179 fun v181 => AM.eqCells [AM.Kd.s, AM.Kd.s, AM.Kd.s, AM.Kd.s, AM.Kd.s, AM.Kd.s, AM.Kd.s, AM.Kd.s, AM.Kd.s, AM.Kd.s, AM.Kd.s, AM.Kd.s, AM.Kd.s, AM.Kd.s, AM.Kd.s, AM.Kd.s, AM.Kd.s, AM.Kd.s, AM.Kd.s, AM.Kd.s, AM.Kd.s, AM.Kd.s, AM.Kd.s, AM.Kd.s, AM.Kd.s, AM.Kd.s, AM.Kd.s, AM.Kd.s, AM.Kd.s, AM.Kd.s, AM.Kd.s, AM.Kd.s] v167 v181 fun v182 => AM.br v182 (AM.bnd (AM.evCall Proofs.Try.prog AM.Ia.env L k 9 [Value.pointer (some { block := s4, off := o4 })] v180) fun v183 v184 => AM.asI IntKind.i64 v183 fun v185 => AM.asP s7 fun v186 => AM.adr v186 fun v187 v188 => AM.St.ld v184 v187 (v188 + 1) fun v189 => AM.asI IntKind.i64 v189 fun v190 => AM.St.ld v180 v187 (v188 + 1) fun v191 => AM.asI IntKind.i64 v191 fun v192 => AM.chk (Value.int IntKind.i64 v192) (Value.int IntKind.i64 v190) (AM.br (!v164 == s9) (AM.br (!v185 == v190) (some (Value.bool false, v184)) (AM.br s10 (AM.br (!v185 == v190) (some (Value.bool false, v184)) (AM.bnd (AM.evCall Proofs.Try.prog AM.Ia.env L k 9 [Value.pointer (some { block := s4, off := o4 })] v184) fun v193 v194 => AM.asI IntKind.i64 v193 fun v195 => AM.br (decide (v195 < s9)) (some (Value.bool false, v194)) (AM.bnd (AM.evCall Proofs.Try.prog AM.Ia.env L k 14 [Value.pointer (some { block := s4, off := o4 })] v194) fun v196 v197 => AM.asB v196 fun v198 => AM.br v198 (some (Value.bool false, v197)) (AM.lpAt Proofs.Try.prog AM.Ia.env L k 3 [true, true, true, true, true, false, true] [] m0 [(0, Value.slice s0 s0n s0z), (3, Value.pointer (some { block := s3, off := o3 })), (4, Value.pointer (some { block := s4, off := o4 })), (31, Value.int IntKind.i64 s31), (32, Value.int IntKind.i64 (IntKind.wrap IntKind.i64 (s32 + (1 : Int))))] v197)))) (AM.bnd (AM.evCall Proofs.Try.prog AM.Ia.env L k 9 [Value.pointer (some { block := s4, off := o4 })] v184) fun v199 v200 => AM.asI IntKind.i64 v199 fun v201 => AM.br (decide (v201 < s9)) (some (Value.bool false, v200)) (AM.bnd (AM.evCall Proofs.Try.prog AM.Ia.env L k 14 [Value.pointer (some { block := s4, off := o4 })] v200) fun v202 v203 => AM.asB v202 fun v204 => AM.br v204 (some (Value.bool false, v203)) (AM.lpAt Proofs.Try.prog AM.Ia.env L k 3 [true, true, true, true, true, false, true] [] m0 [(0, Value.slice s0 s0n s0z), (3, Value.pointer (some { block := s3, off := o3 })), (4, Value.pointer (some { block := s4, off := o4 })), (31, Value.int IntKind.i64 s31), (32, Value.int IntKind.i64 (IntKind.wrap IntKind.i64 (s32 + (1 : Int))))] v203))))) (AM.br s10 (AM.br (!v185 == v190) (some (Value.bool false, v184)) (AM.bnd (AM.evCall Proofs.Try.prog AM.Ia.env L k 9 [Value.pointer (some { block := s4, off := o4 })] v184) fun v205 v206 => AM.asI IntKind.i64 v205 fun v207 => AM.br (decide (v207 < s9)) (some (Value.bool false, v206)) (AM.bnd (AM.evCall Proofs.Try.prog AM.Ia.env L k 14 [Value.pointer (some { block := s4, off := o4 })] v206) fun v208 v209 => AM.asB v208 fun v210 => AM.br v210 (some (Value.bool false, v209)) (AM.lpAt Proofs.Try.prog AM.Ia.env L k 3 [true, true, true, true, true, false, true] [] m0 [(0, Value.slice s0 s0n s0z), (3, Value.pointer (some { block := s3, off := o3 })), (4, Value.pointer (some { block := s4, off := o4 })), (31, Value.int IntKind.i64 s31), (32, Value.int IntKind.i64 (IntKind.wrap IntKind.i64 (s32 + (1 : Int))))] v209)))) (AM.bnd (AM.evCall Proofs.Try.prog AM.Ia.env L k 9 [Value.pointer (some { block := s4, off := o4 })] v184) fun v211 v212 => AM.asI IntKind.i64 v211 fun v213 => AM.br (decide (v213 < s9)) (some (Value.bool false, v212)) (AM.bnd (AM.evCall Proofs.Try.prog AM.Ia.env L k 14 [Value.pointer (some { block := s4, off := o4 })] v212) fun v214 v215 => AM.asB v214 fun v216 => AM.br v216 (some (Value.bool false, v215)) (AM.lpAt Proofs.Try.prog AM.Ia.env L k 3 [true, true, true, true, true, false, true] [] m0 [(0, Value.slice s0 s0n s0z), (3, Value.pointer (some { block := s3, off := o3 })), (4, Value.pointer (some { block := s4, off := o4 })), (31, Value.int IntKind.i64 s31), (32, Value.int IntKind.i64 (IntKind.wrap IntKind.i64 (s32 + (1 : Int))))] v215)))))) (AM.br (!v164 == s9) (some (Value.bool false, v180)) (AM.br s10 (some (Value.bool false, v180)) (AM.bnd (AM.evCall Proofs.Try.prog AM.Ia.env L k 9 [Value.pointer (some { block := s4, off := o4 })] v180) fun v217 v218 => AM.asI IntKind.i64 v217 fun v219 => AM.br (decide (v219 < s9)) (some (Value.bool false, v218)) (AM.bnd (AM.evCall Proofs.Try.prog AM.Ia.env L k 14 [Value.pointer (some { block := s4, off := o4 })] v218) fun v220 v221 => AM.asB v220 fun v222 => AM.br v222 (some (Value.bool false, v221)) (AM.lpAt Proofs.Try.prog AM.Ia.env L k 3 [true, true, true, true, true, false, true] [] m0 [(0, Value.slice s0 s0n s0z), (3, Value.pointer (some { block := s3, off := o3 })), (4, Value.pointer (some { block := s4, off := o4 })), (31, Value.int IntKind.i64 s31), (32, Value.int IntKind.i64 (IntKind.wrap IntKind.i64 (s32 + (1 : Int))))] v221))))))) (AM.bnd (AM.evCall Proofs.Try.prog AM.Ia.env L k 8 [Value.pointer (some { block := s4, off := o4 })] v157) fun v223 v224 => AM.asAgL v223 fun v225 => AM.asP s7 fun v226 => AM.adr v226 fun v227 v228 => AM.St.ld v224 v227 (v228 + 0) fun v229 => AM.asSl v229 fun v230 v231 v232 => AM.St.ld v157 v227 (v228 + 0) fun v233 => AM.asSl v233 fun v234 v235 v236 => AM.chk (Value.slice v234 v235 v236) (Value.slice v230 v231 v232) (AM.bnd (AM.evCall Proofs.Try.prog AM.Ia.env L k 11 [Value.slice v230 v231 v232] v224) fun v237 v238 => AM.asAgL v237 fun v239 => AM.eqCells [AM.Kd.s, AM.Kd.s, AM.Kd.s, AM.Kd.s, AM.Kd.s, AM.Kd.s, AM.Kd.s, AM.Kd.s, AM.Kd.s, AM.Kd.s, AM.Kd.s, AM.Kd.s, AM.Kd.s, AM.Kd.s, AM.Kd.s, AM.Kd.s, AM.Kd.s, AM.Kd.s, AM.Kd.s, AM.Kd.s, AM.Kd.s, AM.Kd.s, AM.Kd.s, AM.Kd.s, AM.Kd.s, AM.Kd.s, AM.Kd.s, AM.Kd.s, AM.Kd.s, AM.Kd.s, AM.Kd.s, AM.Kd.s] v225 v239 fun v240 => AM.br v240 (AM.bnd (AM.evCall Proofs.Try.prog AM.Ia.env L k 9 [Value.pointer (some { block := s4, off := o4 })] v238) fun v241 v242 => AM.asI IntKind.i64 v241 fun v243 => AM.asP s7 fun v244 => AM.adr v244 fun v245 v246 => AM.St.ld v242 v245 (v246 + 1) fun v247 => AM.asI IntKind.i64 v247 fun v248 => AM.St.ld v238 v245 (v246 + 1) fun v249 => AM.asI IntKind.i64 v249 fun v250 => AM.chk (Value.int IntKind.i64 v250) (Value.int IntKind.i64 v248) (AM.br (!v243 == v248) (some (Value.bool false, v242)) (AM.br s10 (AM.br (!v243 == v248) (some (Value.bool false, v242)) (AM.bnd (AM.evCall Proofs.Try.prog AM.Ia.env L k 9 [Value.pointer (some { block := s4, off := o4 })] v242) fun v251 v252 => AM.asI IntKind.i64 v251 fun v253 => AM.br (decide (v253 < s9)) (some (Value.bool false, v252)) (AM.bnd (AM.evCall Proofs.Try.prog AM.Ia.env L k 14 [Value.pointer (some { block := s4, off := o4 })] v252) fun v254 v255 => AM.asB v254 fun v256 => AM.br v256 (some (Value.bool false, v255)) (AM.lpAt Proofs.Try.prog AM.Ia.env L k 3 [true, true, true, true, true, false, true] [] m0 [(0, Value.slice s0 s0n s0z), (3, Value.pointer (some { block := s3, off := o3 })), (4, Value.pointer (some { block := s4, off := o4 })), (31, Value.int IntKind.i64 s31), (32, Value.int IntKind.i64 (IntKind.wrap IntKind.i64 (s32 + (1 : Int))))] v255)))) (AM.bnd (AM.evCall Proofs.Try.prog AM.Ia.env L k 9 [Value.pointer (some { block := s4, off := o4 })] v242) fun v257 v258 => AM.asI IntKind.i64 v257 fun v259 => AM.br (decide (v259 < s9)) (some (Value.bool false, v258)) (AM.bnd (AM.evCall Proofs.Try.prog AM.Ia.env L k 14 [Value.pointer (some { block := s4, off := o4 })] v258) fun v260 v261 => AM.asB v260 fun v262 => AM.br v262 (some (Value.bool false, v261)) (AM.lpAt Proofs.Try.prog AM.Ia.env L k 3 [true, true, true, true, true, false, true] [] m0 [(0, Value.slice s0 s0n s0z), (3, Value.pointer (some { block := s3, off := o3 })), (4, Value.pointer (some { block := s4, off := o4 })), (31, Value.int IntKind.i64 s31), (32, Value.int IntKind.i64 (IntKind.wrap IntKind.i64 (s32 + (1 : Int))))] v261)))))) (some (Value.bool false, v238))))))
noncomputable def tl2 (L k m0 : Nat) (st : St) (s0 : Option Addr) (s0n s0z s3 o3 s4 o4 : Nat) (s7 : Value) (s8 o8 : Nat) (s9 : Int) (s10 : Bool) (s31 s32 : Int) : Res := AM.bnd (AM.evCall Proofs.Try.prog AM.Ia.env L k 8 [Value.pointer (some { block := s4, off := o4 })] st) fun v156 v157 => AM.asAgL v156 fun v158 => AM.St.lds v157 s8 o8 32 fun v159 => AM.St.lds st s8 o8 32 fun v160 => AM.chk (Value.agg (List.toArray v160)) (Value.agg (List.toArray v159)) (AM.eqCells [AM.Kd.s, AM.Kd.s, AM.Kd.s, AM.Kd.s, AM.Kd.s, AM.Kd.s, AM.Kd.s, AM.Kd.s, AM.Kd.s, AM.Kd.s, AM.Kd.s, AM.Kd.s, AM.Kd.s, AM.Kd.s, AM.Kd.s, AM.Kd.s, AM.Kd.s, AM.Kd.s, AM.Kd.s, AM.Kd.s, AM.Kd.s, AM.Kd.s, AM.Kd.s, AM.Kd.s, AM.Kd.s, AM.Kd.s, AM.Kd.s, AM.Kd.s, AM.Kd.s, AM.Kd.s, AM.Kd.s, AM.Kd.s] v158 v159 fun v161 => AM.br v161 (AM.bnd (AM.evCall Proofs.Try.prog AM.Ia.env L k 9 [Value.pointer (some { block := s4, off := o4 })] v157) fun v162 v163 => AM.asI IntKind.i64 v162 fun v164 => AM.bnd (AM.evCall Proofs.Try.prog AM.Ia.env L k 8 [Value.pointer (some { block := s4, off := o4 })] v163) fun v165 v166 => AM.asAgL v165 fun v167 => AM.asP s7 fun v168 => AM.adr v168 fun v169 v170 => AM.St.ld v166 v169 (v170 + 0) fun v171 => AM.asSl v171 fun v172 v173 v174 => AM.St.ld v163 v169 (v170 + 0) fun v175 => AM.asSl v175 fun v176 v177 v178 => AM.chk (Value.slice v176 v177 v178) (Value.slice v172 v173 v174) (AM.bnd (AM.evCall Proofs.Try.prog AM.Ia.env L k 11 [Value.slice v172 v173 v174] v166) fun v179 v180 => AM.asAgL v179 fun v181 => AM.eqCells [AM.Kd.s, AM.Kd.s, AM.Kd.s, AM.Kd.s, AM.Kd.s, AM.Kd.s, AM.Kd.s, AM.Kd.s, AM.Kd.s, AM.Kd.s, AM.Kd.s, AM.Kd.s, AM.Kd.s, AM.Kd.s, AM.Kd.s, AM.Kd.s, AM.Kd.s, AM.Kd.s, AM.Kd.s, AM.Kd.s, AM.Kd.s, AM.Kd.s, AM.Kd.s, AM.Kd.s, AM.Kd.s, AM.Kd.s, AM.Kd.s, AM.Kd.s, AM.Kd.s, AM.Kd.s, AM.Kd.s, AM.Kd.s] v167 v181 fun v182 => AM.br v182 (AM.bnd (AM.evCall Proofs.Try.prog AM.Ia.env L k 9 [Value.pointer (some { block := s4, off := o4 })] v180) fun v183 v184 => AM.asI IntKind.i64 v183 fun v185 => AM.asP s7 fun v186 => AM.adr v186 fun v187 v188 => AM.St.ld v184 v187 (v188 + 1) fun v189 => AM.asI IntKind.i64 v189 fun v190 => AM.St.ld v180 v187 (v188 + 1) fun v191 => AM.asI IntKind.i64 v191 fun v192 => AM.chk (Value.int IntKind.i64 v192) (Value.int IntKind.i64 v190) (AM.br (!v164 == s9) (AM.br (!v185 == v190) (some (Value.bool false, v184)) (AM.br s10 (AM.br (!v185 == v190) (some (Value.bool false, v184)) (AM.bnd (AM.evCall Proofs.Try.prog AM.Ia.env L k 9 [Value.pointer (some { block := s4, off := o4 })] v184) fun v193 v194 => AM.asI IntKind.i64 v193 fun v195 => AM.br (decide (v195 < s9)) (some (Value.bool false, v194)) (AM.bnd (AM.evCall Proofs.Try.prog AM.Ia.env L k 14 [Value.pointer (some { block := s4, off := o4 })] v194) fun v196 v197 => AM.asB v196 fun v198 => AM.br v198 (some (Value.bool false, v197)) (AM.lpAt Proofs.Try.prog AM.Ia.env L k 3 [true, true, true, true, true, false, true] [] m0 [(0, Value.slice s0 s0n s0z), (3, Value.pointer (some { block := s3, off := o3 })), (4, Value.pointer (some { block := s4, off := o4 })), (31, Value.int IntKind.i64 s31), (32, Value.int IntKind.i64 (IntKind.wrap IntKind.i64 (s32 + (1 : Int))))] v197)))) (AM.bnd (AM.evCall Proofs.Try.prog AM.Ia.env L k 9 [Value.pointer (some { block := s4, off := o4 })] v184) fun v199 v200 => AM.asI IntKind.i64 v199 fun v201 => AM.br (decide (v201 < s9)) (some (Value.bool false, v200)) (AM.bnd (AM.evCall Proofs.Try.prog AM.Ia.env L k 14 [Value.pointer (some { block := s4, off := o4 })] v200) fun v202 v203 => AM.asB v202 fun v204 => AM.br v204 (some (Value.bool false, v203)) (AM.lpAt Proofs.Try.prog AM.Ia.env L k 3 [true, true, true, true, true, false, true] [] m0 [(0, Value.slice s0 s0n s0z), (3, Value.pointer (some { block := s3, off := o3 })), (4, Value.pointer (some { block := s4, off := o4 })), (31, Value.int IntKind.i64 s31), (32, Value.int IntKind.i64 (IntKind.wrap IntKind.i64 (s32 + (1 : Int))))] v203))))) (AM.br s10 (AM.br (!v185 == v190) (some (Value.bool false, v184)) (AM.bnd (AM.evCall Proofs.Try.prog AM.Ia.env L k 9 [Value.pointer (some { block := s4, off := o4 })] v184) fun v205 v206 => AM.asI IntKind.i64 v205 fun v207 => AM.br (decide (v207 < s9)) (some (Value.bool false, v206)) (AM.bnd (AM.evCall Proofs.Try.prog AM.Ia.env L k 14 [Value.pointer (some { block := s4, off := o4 })] v206) fun v208 v209 => AM.asB v208 fun v210 => AM.br v210 (some (Value.bool false, v209)) (AM.lpAt Proofs.Try.prog AM.Ia.env L k 3 [true, true, true, true, true, false, true] [] m0 [(0, Value.slice s0 s0n s0z), (3, Value.pointer (some { block := s3, off := o3 })), (4, Value.pointer (some { block := s4, off := o4 })), (31, Value.int IntKind.i64 s31), (32, Value.int IntKind.i64 (IntKind.wrap IntKind.i64 (s32 + (1 : Int))))] v209)))) (AM.bnd (AM.evCall Proofs.Try.prog AM.Ia.env L k 9 [Value.pointer (some { block := s4, off := o4 })] v184) fun v211 v212 => AM.asI IntKind.i64 v211 fun v213 => AM.br (decide (v213 < s9)) (some (Value.bool false, v212)) (AM.bnd (AM.evCall Proofs.Try.prog AM.Ia.env L k 14 [Value.pointer (some { block := s4, off := o4 })] v212) fun v214 v215 => AM.asB v214 fun v216 => AM.br v216 (some (Value.bool false, v215)) (AM.lpAt Proofs.Try.prog AM.Ia.env L k 3 [true, true, true, true, true, false, true] [] m0 [(0, Value.slice s0 s0n s0z), (3, Value.pointer (some { block := s3, off := o3 })), (4, Value.pointer (some { block := s4, off := o4 })), (31, Value.int IntKind.i64 s31), (32, Value.int IntKind.i64 (IntKind.wrap IntKind.i64 (s32 + (1 : Int))))] v215)))))) (AM.br (!v164 == s9) (some (Value.bool false, v180)) (AM.br s10 (some (Value.bool false, v180)) (AM.bnd (AM.evCall Proofs.Try.prog AM.Ia.env L k 9 [Value.pointer (some { block := s4, off := o4 })] v180) fun v217 v218 => AM.asI IntKind.i64 v217 fun v219 => AM.br (decide (v219 < s9)) (some (Value.bool false, v218)) (AM.bnd (AM.evCall Proofs.Try.prog AM.Ia.env L k 14 [Value.pointer (some { block := s4, off := o4 })] v218) fun v220 v221 => AM.asB v220 fun v222 => AM.br v222 (some (Value.bool false, v221)) (AM.lpAt Proofs.Try.prog AM.Ia.env L k 3 [true, true, true, true, true, false, true] [] m0 [(0, Value.slice s0 s0n s0z), (3, Value.pointer (some { block := s3, off := o3 })), (4, Value.pointer (some { block := s4, off := o4 })), (31, Value.int IntKind.i64 s31), (32, Value.int IntKind.i64 (IntKind.wrap IntKind.i64 (s32 + (1 : Int))))] v221))))))) (AM.bnd (AM.evCall Proofs.Try.prog AM.Ia.env L k 8 [Value.pointer (some { block := s4, off := o4 })] v157) fun v223 v224 => AM.asAgL v223 fun v225 => AM.asP s7 fun v226 => AM.adr v226 fun v227 v228 => AM.St.ld v224 v227 (v228 + 0) fun v229 => AM.asSl v229 fun v230 v231 v232 => AM.St.ld v157 v227 (v228 + 0) fun v233 => AM.asSl v233 fun v234 v235 v236 => AM.chk (Value.slice v234 v235 v236) (Value.slice v230 v231 v232) (AM.bnd (AM.evCall Proofs.Try.prog AM.Ia.env L k 11 [Value.slice v230 v231 v232] v224) fun v237 v238 => AM.asAgL v237 fun v239 => AM.eqCells [AM.Kd.s, AM.Kd.s, AM.Kd.s, AM.Kd.s, AM.Kd.s, AM.Kd.s, AM.Kd.s, AM.Kd.s, AM.Kd.s, AM.Kd.s, AM.Kd.s, AM.Kd.s, AM.Kd.s, AM.Kd.s, AM.Kd.s, AM.Kd.s, AM.Kd.s, AM.Kd.s, AM.Kd.s, AM.Kd.s, AM.Kd.s, AM.Kd.s, AM.Kd.s, AM.Kd.s, AM.Kd.s, AM.Kd.s, AM.Kd.s, AM.Kd.s, AM.Kd.s, AM.Kd.s, AM.Kd.s, AM.Kd.s] v225 v239 fun v240 => AM.br v240 (AM.bnd (AM.evCall Proofs.Try.prog AM.Ia.env L k 9 [Value.pointer (some { block := s4, off := o4 })] v238) fun v241 v242 => AM.asI IntKind.i64 v241 fun v243 => AM.asP s7 fun v244 => AM.adr v244 fun v245 v246 => AM.St.ld v242 v245 (v246 + 1) fun v247 => AM.asI IntKind.i64 v247 fun v248 => AM.St.ld v238 v245 (v246 + 1) fun v249 => AM.asI IntKind.i64 v249 fun v250 => AM.chk (Value.int IntKind.i64 v250) (Value.int IntKind.i64 v248) (AM.br (!v243 == v248) (some (Value.bool false, v242)) (AM.br s10 (AM.br (!v243 == v248) (some (Value.bool false, v242)) (AM.bnd (AM.evCall Proofs.Try.prog AM.Ia.env L k 9 [Value.pointer (some { block := s4, off := o4 })] v242) fun v251 v252 => AM.asI IntKind.i64 v251 fun v253 => AM.br (decide (v253 < s9)) (some (Value.bool false, v252)) (AM.bnd (AM.evCall Proofs.Try.prog AM.Ia.env L k 14 [Value.pointer (some { block := s4, off := o4 })] v252) fun v254 v255 => AM.asB v254 fun v256 => AM.br v256 (some (Value.bool false, v255)) (AM.lpAt Proofs.Try.prog AM.Ia.env L k 3 [true, true, true, true, true, false, true] [] m0 [(0, Value.slice s0 s0n s0z), (3, Value.pointer (some { block := s3, off := o3 })), (4, Value.pointer (some { block := s4, off := o4 })), (31, Value.int IntKind.i64 s31), (32, Value.int IntKind.i64 (IntKind.wrap IntKind.i64 (s32 + (1 : Int))))] v255)))) (AM.bnd (AM.evCall Proofs.Try.prog AM.Ia.env L k 9 [Value.pointer (some { block := s4, off := o4 })] v242) fun v257 v258 => AM.asI IntKind.i64 v257 fun v259 => AM.br (decide (v259 < s9)) (some (Value.bool false, v258)) (AM.bnd (AM.evCall Proofs.Try.prog AM.Ia.env L k 14 [Value.pointer (some { block := s4, off := o4 })] v258) fun v260 v261 => AM.asB v260 fun v262 => AM.br v262 (some (Value.bool false, v261)) (AM.lpAt Proofs.Try.prog AM.Ia.env L k 3 [true, true, true, true, true, false, true] [] m0 [(0, Value.slice s0 s0n s0z), (3, Value.pointer (some { block := s3, off := o3 })), (4, Value.pointer (some { block := s4, off := o4 })), (31, Value.int IntKind.i64 s31), (32, Value.int IntKind.i64 (IntKind.wrap IntKind.i64 (s32 + (1 : Int))))] v261)))))) (some (Value.bool false, v238)))))
noncomputable def tl3 (L k m0 : Nat) (st : St) (s0 : Option Addr) (s0n s0z s3 o3 s4 o4 : Nat) (s9 s31 s32 : Int) : Res := AM.bnd (AM.evCall Proofs.Try.prog AM.Ia.env L k 9 [Value.pointer (some { block := s4, off := o4 })] st) fun v193 v194 => AM.asI IntKind.i64 v193 fun v195 => AM.br (decide (v195 < s9)) (some (Value.bool false, v194)) (AM.bnd (AM.evCall Proofs.Try.prog AM.Ia.env L k 14 [Value.pointer (some { block := s4, off := o4 })] v194) fun v196 v197 => AM.asB v196 fun v198 => AM.br v198 (some (Value.bool false, v197)) (AM.lpAt Proofs.Try.prog AM.Ia.env L k 3 [true, true, true, true, true, false, true] [] m0 [(0, Value.slice s0 s0n s0z), (3, Value.pointer (some { block := s3, off := o3 })), (4, Value.pointer (some { block := s4, off := o4 })), (31, Value.int IntKind.i64 s31), (32, Value.int IntKind.i64 (IntKind.wrap IntKind.i64 (s32 + (1 : Int))))] v197))

section
variable {σ0 : St} {d : Nat}
theorem tl3_ok (L k m0 : Nat) {σ : St} {m : Nat} {s : IS} {R : List (List Nat)} (hI : ImS σ0 σ m d s R) (hw : s.work = none) {km0 : Nat} (hle : km0 ≤ s.km) (s0 : Option Addr) (s0n s0z : Nat) (s31 s32 : Int) :
    tl3 L (k + 11) m0 σ s0 s0n s0z d 0 m 0 (km0 : Nat) s31 s32 = lpAt Try.prog env L (k + 11) 3 [true, true, true, true, true, false, true] [] m0 [(0, .slice s0 s0n s0z), (3, ptr d), (4, ptr m), (31, .int .i64 s31), (32, .int .i64 (IntKind.wrap .i64 (s32 + 1)))] σ := by
  unfold tl3
  rw [markS hI L (k + 10), bnd_some, asI_i, decide_eq_false (by omega), br_false, busyI_spec hI L (k + 10), bnd_some, asB_b, hw, show (none : Option (Nat × List ByteArray × Nat)).isSome = false from rfl, br_false]

theorem tl2_ok (L k m0 : Nat) (hL : 100000 < L) {σ : St} {m ob b : Nat} {s : IS} {R : List (List Nat)} (hI : ImS σ0 σ m d s ([ob] :: [b] :: R)) (hw : s.work = none) (o : OpI σ0)
    (ho : σ.get ob = some (.own (c4 o) 35)) {bl0 : List ByteArray} {km0 : Nat} (hb : σ.get b = some (.own (strs bl0) 38)) (hl0 : bl0.length = 32) (hl40 : o.l.length ≤ 40)
    (hor : (s.bl = bl0 ∧ s.km = km0) ∨ (s.bl = made o.l ∧ (s.km : Int) = o.mark)) {s10 : Bool} (hend : s10 = true → s.bl = made o.l ∧ (s.km : Int) = o.mark) (hle : km0 ≤ s.km) (s0 : Option Addr) (s0n s0z : Nat) (s31 s32 : Int) :
    ∃ σ', tl2 L (k + 11) m0 σ s0 s0n s0z d 0 m 0 (ptr ob) b 0 (km0 : Nat) s10 s31 s32 = lpAt Try.prog env L (k + 11) 3 [true, true, true, true, true, false, true] [] m0 [(0, .slice s0 s0n s0z), (3, ptr d), (4, ptr m), (31, .int .i64 s31), (32, .int .i64 (IntKind.wrap .i64 (s32 + 1)))] σ' ∧ Same σ σ' [] := by
  obtain ⟨σ1, g1, s1⟩ := blocksS hI L (k + 10)
  have hI1 := hI.idle s1
  obtain ⟨σ2, g2, s2⟩ := blocksS hI1 L (k + 10)
  have hI2 := hI1.idle s2
  obtain ⟨σ3, g3, s3⟩ := made_spec L (k + 10) (by omega) (l := o.l) ⟨by omega, by omega⟩ o.hs hI2.kept 0
  have hI3 := hI2.idle s3
  have hb1 : σ1.get b = _ := (hI.keep s1 [b] (by simp) b (by simp)).trans hb
  have ho1 : σ1.get ob = _ := (hI.keep s1 [ob] (by simp) ob (by simp)).trans ho
  have ho2 : σ2.get ob = _ := (hI1.keep s2 [ob] (by simp) ob (by simp)).trans ho1
  have ho3 : σ3.get ob = _ := (hI2.keep s3 [ob] (by simp) ob (by simp)).trans ho2
  have ht : ∀ b : List ByteArray, (strs b).toArray.toList = strs b := fun _ => rfl
  have hbl := hI.blen
  have hml : (made o.l).length = 32 := madeUp_len _ _
  have hn32 : (32 : Nat) = (strs bl0).length := by rw [strs_len, hl0]
  have r0 : ∀ {σx : St}, σx.get ob = some (.own (c4 o) 35) → ∀ K : Value → Res, σx.ld ob (0 + 0) K = K (.slice o.ad o.l.length 0) := fun h K => ld_own K h rfl
  have r1 : ∀ {σx : St}, σx.get ob = some (.own (c4 o) 35) → ∀ K : Value → Res, σx.ld ob (0 + 1) K = K (.int .i64 o.mark) := fun h K => ld_own K h rfl
  have fin : ∀ {σx : St}, Same σ σx [] → ∃ σ', tl3 L (k + 11) m0 σx s0 s0n s0z d 0 m 0 (km0 : Nat) s31 s32 = lpAt Try.prog env L (k + 11) 3 [true, true, true, true, true, false, true] [] m0 [(0, .slice s0 s0n s0z), (3, ptr d), (4, ptr m), (31, .int .i64 s31), (32, .int .i64 (IntKind.wrap .i64 (s32 + 1)))] σ' ∧ Same σ σ' [] :=
    fun hs => ⟨_, tl3_ok L k m0 (hI.idle hs) hw hle s0 s0n s0z s31 s32, hs⟩
  have s12 := s1.trans s2
  have s13 := s12.trans s3
  unfold tl2
  rw [g1, bnd_some, asAgL_a, ht, lds_all hb1 hn32, lds_all hb hn32, chk_same, kds32, eqCells32 _ hbl hl0]
  by_cases hA : s.bl = bl0
  · rw [decide_eq_true hA, br_true, markS hI1 L (k + 10), bnd_some, asI_i, g2, bnd_some, asAgL_a, ht, asP_p, adr_some, r0 ho2, asSl_s, r0 ho1, asSl_s, chk_same, g3, bnd_some, asAgL_a, ht, eqCells32 _ hbl hml]
    by_cases hB : s.bl = made o.l
    · rw [decide_eq_true hB, br_true, markS hI3 L (k + 10), bnd_some, asI_i, asP_p, adr_some, r1 ho3, asI_i, r1 ho3, asI_i, chk_same]
      by_cases hC : s.km = km0
      · rw [show (((s.km : Nat) : Int) == (km0 : Nat)) = true by rw [beq_iff_eq]; omega, not_true, br_false]
        cases s10 with
        | false => rw [br_false]; exact fin s13
        | true =>
          rw [br_true, show (((s.km : Nat) : Int) == o.mark) = true by rw [beq_iff_eq]; exact (hend rfl).2, not_true, br_false]; exact fin s13
      · have hD : (s.km : Int) = o.mark := by
          rcases hor with h | h
          · exact absurd h.2 hC
          · exact h.2
        rw [show (((s.km : Nat) : Int) == (km0 : Nat)) = false by rw [beq_eq_false_iff_ne]; omega, not_false, br_true, show (((s.km : Nat) : Int) == o.mark) = true by rw [beq_iff_eq]; exact hD, not_true, br_false]
        cases s10 with
        | false => rw [br_false]; exact fin s13
        | true => rw [br_true, br_false]; exact fin s13
    · have hC : s.km = km0 := by
        rcases hor with h | h
        · exact h.2
        · exact absurd h.1 hB
      have h10 : s10 = false := by
        cases s10 with
        | false => rfl
        | true => exact absurd (hend rfl).1 hB
      subst h10
      rw [decide_eq_false hB, br_false, show (((s.km : Nat) : Int) == (km0 : Nat)) = true by rw [beq_iff_eq]; omega, not_true, br_false, br_false]; exact fin s13
  · have hB : s.bl = made o.l ∧ (s.km : Int) = o.mark := by
      rcases hor with h | h
      · exact absurd h.1 hA
      · exact h
    rw [decide_eq_false hA, br_false, g2, bnd_some, asAgL_a, ht, asP_p, adr_some, r0 ho2, asSl_s, r0 ho1, asSl_s, chk_same, g3, bnd_some, asAgL_a, ht, eqCells32 _ hbl hml, decide_eq_true hB.1, br_true, markS hI3 L (k + 10), bnd_some, asI_i, asP_p, adr_some, r1 ho3, asI_i, r1 ho3, asI_i, chk_same, show (((s.km : Nat) : Int) == o.mark) = true by rw [beq_iff_eq]; exact hB.2, not_true, br_false]
    cases s10 with
    | false => rw [br_false]; exact fin s13
    | true => rw [br_true, br_false]; exact fin s13

theorem drop2 {σ : St} {m : Nat} {s : IS} {A B : List Nat} (h : ImS σ0 σ m d s [A, B]) : ImS σ0 σ m d s [] := by
  obtain ⟨F, G, w, a1, a2, a3, a4, a5⟩ := h.ex
  exact ⟨F, G, w, a1, a2, a3.pick [0, 1] (by decide), a4, a5⟩

theorem tl1_ok (L k m0 : Nat) (hL : 100000 < L) {σ : St} {m ob b : Nat} {s : IS} (hI : ImS σ0 σ m d s [[ob], [b]]) (o : OpI σ0)
    (ho : σ.get ob = some (.own (c4 o) 35)) {bl0 : List ByteArray} {t0 km0 M j : Nat} (hb : σ.get b = some (.own (strs bl0) 38)) (hl0 : bl0.length = 32) (hl40 : o.l.length ≤ 40) (ht0 : t0 ≤ 899)
    (hP : Phase s t0 km0 bl0 M (made o.l) j) (hM : (M : Int) = o.mark) (hkM : km0 < M) (hj : j = 35 ∨ o.cut ≠ 0) (s0 : Option Addr) (s0n s0z : Nat) (s31 s32 : Int) :
    ∃ m' s' σ', tl1 L (k + 11) m0 σ s0 s0n s0z d 0 m 0 (ptr ob) b 0 (km0 : Nat) (decide (j = 35)) s31 s32 = lpAt Try.prog env L (k + 11) 3 [true, true, true, true, true, false, true] [] m0 [(0, .slice s0 s0n s0z), (3, ptr d), (4, ptr m'), (31, .int .i64 s31), (32, .int .i64 (IntKind.wrap .i64 (s32 + 1)))] σ' ∧
      ImS σ0 σ' m' d s' [] ∧ s'.Inv ∧ s'.work = none ∧ s'.t ≤ t0 + 1 := by
  have r2 : ∀ K : Value → Res, σ.ld ob (0 + 2) K = K (.int .u8 o.cut) := fun K => ld_own K ho rfl
  have r3 : ∀ K : Value → Res, σ.ld ob (0 + 3) K = K (.int .u64 o.keep) := fun K => ld_own K ho rfl
  unfold tl1
  rw [asP_p, adr_some, r2, asI_i]
  by_cases hc : o.cut = 0
  · have h35 : j = 35 := by rcases hj with h | h; exact h; exact absurd hc h
    obtain ⟨h1, h2, h3, h4⟩ := hP.fin h35
    rw [show (o.cut != 0) = false by rw [hc]; rfl, br_false]
    obtain ⟨σ', e, hs⟩ := tl2_ok L k m0 hL hI h1 o ho hb hl0 hl40 (.inr ⟨h3, by rw [h2]; exact hM⟩) (s10 := decide (j = 35)) (fun _ => ⟨h3, by rw [h2]; exact hM⟩) (km0 := km0) (by omega) s0 s0n s0z s31 s32
    exact ⟨m, s, σ', e, drop2 (hI.idle hs), hP.inv, h1, by omega⟩
  · rw [show (o.cut != 0) = true by simpa using hc, br_true, asP_p, adr_some, r3, asI_i]
    obtain ⟨F, σ1, g1, hD1, hO1, k1⟩ := crashS hI hP.inv.ok L (k + 8) hL o.keep
    have hlen : (D.lay (D.bit o.keep) 0 s.S s.W).length = 66 := by rw [D.lay_len]; exact hP.inv.sl
    have key : ∃ t' km' bl', Good (rd (D.lay (D.bit o.keep) 0 s.S s.W)) t' km' bl' ∧ t' ≤ t0 + 1 ∧ ((bl' = bl0 ∧ km' = km0) ∨ (bl' = made o.l ∧ (km' : Int) = o.mark)) ∧ (decide (j = 35) = true → bl' = made o.l ∧ (km' : Int) = o.mark) ∧ km0 ≤ km' := by
      by_cases h35 : j = 35
      · obtain ⟨h1, h2, h3, h4⟩ := hP.fin h35
        rcases hP.inv.crash (D.bit o.keep) with hg | ⟨_, _, hg, _⟩
        · exact ⟨_, _, _, hg, by omega, .inr ⟨h3, by rw [h2]; exact hM⟩, fun _ => ⟨h3, by rw [h2]; exact hM⟩, by omega⟩
        · rw [h1] at hg; cases hg
      · obtain ⟨h1, h2, h3, h4⟩ := hP.mid (by have := hP.le; omega)
        rcases hP.inv.crash (D.bit o.keep) with hg | ⟨mk', bl', e, _, hg⟩
        · exact ⟨_, _, _, hg, by omega, .inl ⟨h3, h2⟩, fun h => absurd (of_decide_eq_true h) h35, by omega⟩
        · rw [h1] at e; cases e
          exact ⟨_, _, _, hg, by omega, .inr ⟨rfl, hM⟩, fun h => absurd (of_decide_eq_true h) h35, by omega⟩
    obtain ⟨t', km', bl', hg, ht', hor, hend, hle⟩ := key
    obtain ⟨m', σ2, g2, hI2, k2, hinv⟩ := openGood hD1 hO1 hlen L (k + 1) hL hg (by omega)
    have ho2 : σ2.get ob = _ := (k2 [ob] (by simp) ob (by simp)).trans ((k1 [ob] (by simp) ob (by simp)).trans ho)
    have hb2 : σ2.get b = _ := (k2 [b] (by simp) b (by simp)).trans ((k1 [b] (by simp) b (by simp)).trans hb)
    rw [g1, bnd_some, asT_t, toList0, endl_n, g2, bnd_some, asT_t, toList2, uncons_c, asP_p, uncons_c, endl_n, eqNil_nil, not_true, br_false]
    obtain ⟨σ', e, hs⟩ := tl2_ok L k m0 hL hI2 rfl o ho2 hb2 hl0 hl40 hor (s10 := decide (j = 35)) hend hle s0 s0n s0z s31 s32
    exact ⟨m', _, σ', e, drop2 (hI2.idle hs), hinv, rfl, ht'⟩

theorem inner (L k m0 : Nat) (hL : 100000 < L) {m ob b : Nat} (o : OpI σ0) {bl0 : List ByteArray} {t0 km0 M : Nat} (ht0 : t0 ≤ 899) (s0 : Option Addr) (s0n s0z : Nat) (s31 s32 : Int) :
    ∀ (n j : Nat) (σ : St) (s : IS), j ≤ 35 → 35 - j < n → ImS σ0 σ m d s [[ob], [b]] → Phase s t0 km0 bl0 M (made o.l) j → σ.get ob = some (.own (c4 o) 35) → σ.get b = some (.own (strs bl0) 38) →
    ∃ j' σ' s', lpAt Try.prog env L (k + 11) 3 [true, true, true, true, true, false, true, false, true, true, false, true, true, true, true, true, false, true] [m0] n [(0, .slice s0 s0n s0z), (3, ptr d), (4, ptr m), (7, ptr ob), (8, ptr b), (9, .int .i64 (km0 : Nat)), (10, .bool (decide (j = 35))), (11, .int .i64 j), (31, .int .i64 s31), (32, .int .i64 s32)] σ =
        tl1 L (k + 11) m0 σ' s0 s0n s0z d 0 m 0 (ptr ob) b 0 (km0 : Nat) (decide (j' = 35)) s31 s32 ∧ (j' = 35 ∨ o.cut ≠ 0) ∧
      ImS σ0 σ' m d s' [[ob], [b]] ∧ Phase s' t0 km0 bl0 M (made o.l) j' ∧ σ'.get ob = some (.own (c4 o) 35) ∧ σ'.get b = some (.own (strs bl0) 38)
  | 0, j, σ, s, _, h, _, _, _, _ => by omega
  | n + 1, j, σ, s, hj, hn, hI, hP, ho, hb => by
    rw [f3_l15]
    have r2 : ∀ K : Value → Res, σ.ld ob (0 + 2) K = K (.int .u8 o.cut) := fun K => ld_own K ho rfl
    by_cases h35 : j = 35
    · rw [decide_eq_false (p := (j : Int) < 35) (by omega), br_false]
      exact ⟨j, σ, s, rfl, .inl h35, hI, hP, ho, hb⟩
    · obtain ⟨h1, h2, h3, h4⟩ := hP.mid (by omega)
      obtain ⟨v1, σ1, g1, k1, hor⟩ := step_spec hI L (k + 3) hL hP.inv.ok
      have hw : IntKind.wrap .i64 ((j : Int) + 1) = ((j + 1 : Nat) : Int) := by rw [wrap_in _ (by omega) (by omega)]; omega
      have hd : decide (j = 34) = decide (j + 1 = 35) := by
        by_cases h : j = 34
        · rw [decide_eq_true h, decide_eq_true (by omega)]
        · rw [decide_eq_false h, decide_eq_false (by omega)]
      rcases hor with ⟨e, _⟩ | ⟨mk', bl', k', e, rfl, hI1⟩
      · rw [h1] at e; cases e
      rw [h1] at e; cases e
      have next := inner L k m0 hL (m := m) (ob := ob) (b := b) o (bl0 := bl0) (km0 := km0) (M := M) ht0 s0 s0n s0z s31 s32 n (j + 1) σ1 _ (by omega) (by omega) hI1 (hP.step (by omega) ht0) ((k1 [ob] (by simp) ob (by simp)).trans ho) ((k1 [b] (by simp) b (by simp)).trans hb)
      rw [decide_eq_true (p := (j : Int) < 35) (by omega), br_true, decide_eq_false (p := j = 35) h35, not_false, br_true, asP_p, adr_some, r2, asI_i]
      by_cases hc : o.cut = 0
      · rw [show (o.cut == 0) = true by rw [hc]; rfl, br_true, g1, bnd_some, asT_t, toList2, uncons_c, asB_b, uncons_c, endl_n, hw, hd]
        exact next
      · rw [show (o.cut == 0) = false by simpa using hc, br_false, asP_p, adr_some, r2, asI_i]
        by_cases hlt : IntKind.wrap .i64 ((j : Int) + 1) < IntKind.wrap .i64 o.cut
        · rw [decide_eq_true hlt, br_true, g1, bnd_some, asT_t, toList2, uncons_c, asB_b, uncons_c, endl_n, hw, hd]
          exact next
        · rw [decide_eq_false hlt, br_false]
          refine ⟨j, σ, s, ?_, .inr hc, hI, hP, ho, hb⟩
          rw [decide_eq_false (p := j = 35) h35]
          rfl

theorem outer (L k : Nat) (hL : 100000 < L) {sc : List (OpI σ0)} (hlen : sc.length ≤ 20) (hfew : ∀ o ∈ sc, o.l.length ≤ 40) {ad0 : Option Addr} (hH : Holds σ0 4 c4 ad0 sc) : ∀ (n i : Nat) (σ : St) (m : Nat) (s : IS), i ≤ sc.length → sc.length - i < n → ImS σ0 σ m d s [] → s.Inv → s.work = none → s.t ≤ i →
    ∃ σ', lpAt Try.prog env L (k + 11) 3 [true, true, true, true, true, false, true] [] n [(0, .slice ad0 sc.length 0), (3, ptr d), (4, ptr m), (31, .int .i64 sc.length), (32, .int .i64 i)] σ = some (.bool true, σ')
  | 0, i, σ, m, s, _, h, _, _, _, _ => by omega
  | n + 1, i, σ, m, s, hi, hn, hI, hv, hw0, hti => by
    rw [f3_l8]
    by_cases hie : i = sc.length
    · rw [decide_eq_false (by omega), br_false]; exact ⟨σ, rfl⟩
    have hget : sc[i]? = some sc[i] := List.getElem?_eq_getElem (by omega)
    have hl40 := hfew _ (List.mem_of_getElem? hget)
    obtain ⟨q0, e0, rd0⟩ := hH.lds hI.kept (fun _ => rfl) hget
    generalize sc[i] = o at rd0 hl40
    subst e0
    have hw : IntKind.wrap .i64 ((i : Int) + 1) = ((i + 1 : Nat) : Int) := by rw [wrap_in _ (by omega) (by omega)]; omega
    have ht : ∀ b : List ByteArray, (strs b).toArray.toList = strs b := fun _ => rfl
    have hml : (made o.l).length = 32 := madeUp_len _ _
    have hbl := hI.blen
    rw [decide_eq_true (by omega), br_true, need_of (by simp [inRange]; omega), adr_some, rd0 0 4 _ (by omega) (by simp), show ((c4 o).drop 0).take 4 = c4 o from rfl]
    show ∃ σ', (uncons (c4 o) _) = _
    unfold c4
    rw [uncons_c, asSl_s, uncons_c, asI_i, uncons_c, asI_i, uncons_c, asI_i, endl_n, tmp_put2 σ [.slice none 0 0, .int .i64 0, .int .u8 0, .int .u64 0] [.slice o.ad o.l.length 0, .int .i64 o.mark, .int .u8 o.cut, .int .u64 o.keep] 35 rfl rfl]
    have s1 : Same σ (σ.new (.own (c4 o) 35)) [] := Same.new _ _ _
    have g1 : (σ.new (.own (c4 o) 35)).get σ.next = some (.own (c4 o) 35) := get_new_same _ _
    have n1 : (σ.new (.own (c4 o) 35)).next = σ.next + 1 := rfl
    change ∃ σ', bnd (evCall Try.prog env L (k + 11) 8 [ptr m] (σ.new (.own (c4 o) 35))) _ = _
    have hI1 : ImS σ0 (σ.new (.own (c4 o) 35)) m d s [[σ.next]] := by
      obtain ⟨F, G, w, a1, a2, a3, a4, a5⟩ := hI.ex
      have hO2 := a3.more s1 (F := [σ.next]) (by simp [n1])
      refine ⟨F, G, w, a1.idle s1, a2.same s1 (by simp), hO2.pick [1, 2, 0] (by decide), a4, ?_⟩
      rcases a5 with a5 | ⟨_, _, _, _, e, _⟩
      · exact .inl a5
      · rw [hw0] at e; cases e
    generalize σ.new (.own (c4 o) 35) = σ1 at s1 g1 n1 hI1
    generalize hob : σ.next = ob at hI1 g1
    obtain ⟨σ2, e2, s2⟩ := blocksS hI1 L (k + 10)
    have hI2 := hI1.idle s2
    have ho2 : σ2.get ob = _ := (hI1.keep s2 [ob] (by simp) ob (by simp)).trans g1
    rw [e2, bnd_some, asAgL_a, ht, markS hI2 L (k + 10), bnd_some, asI_i, need_of (by rw [strs_len, hbl]; rfl), lit32, tmp_put2 σ2 (strs noBlocks) (strs s.bl) 38 (by rw [strs_len, strs_len, hbl]; rfl) (strs_one _)]
    have s3 : Same σ2 (σ2.new (.own (strs s.bl) 38)) [] := Same.new _ _ _
    have g3 : (σ2.new (.own (strs s.bl) 38)).get σ2.next = some (.own (strs s.bl) 38) := get_new_same _ _
    have n3 : (σ2.new (.own (strs s.bl) 38)).next = σ2.next + 1 := rfl
    have hI3 : ImS σ0 (σ2.new (.own (strs s.bl) 38)) m d s [[ob], [σ2.next]] := by
      obtain ⟨F, G, w, a1, a2, a3, a4, a5⟩ := hI2.ex
      have hO2 := a3.more s3 (F := [σ2.next]) (by simp [n3])
      refine ⟨F, G, w, a1.idle s3, a2.same s3 (by simp), hO2.pick [1, 2, 3, 0] (by decide), a4, ?_⟩
      rcases a5 with a5 | ⟨_, _, _, _, e, _⟩
      · exact .inl a5
      · rw [hw0] at e; cases e
    have ho3 : (σ2.new (.own (strs s.bl) 38)).get ob = _ := (hI2.keep s3 [ob] (by simp) ob (by simp)).trans ho2
    generalize σ2.new (.own (strs s.bl) 38) = σ3 at s3 g3 n3 hI3 ho3
    generalize hb : σ2.next = b at hI3 g3
    obtain ⟨σ4, e4, s4⟩ := made_spec L (k + 10) (by omega) (l := o.l) ⟨by omega, by omega⟩ o.hs hI3.kept 0
    have hI4 := hI3.idle s4
    have ho4 : σ4.get ob = _ := (hI3.keep s4 [ob] (by simp) ob (by simp)).trans ho3
    have hb4 : σ4.get b = _ := (hI3.keep s4 [b] (by simp) b (by simp)).trans g3
    obtain ⟨v5, σ5, g5, k5, hor⟩ := begin_spec hI4 L (k + 7) hL hv.ok hml o.mark
    have ho5 : σ5.get ob = _ := (k5 [ob] (by simp) ob (by simp)).trans ho4
    have hb5 : σ5.get b = _ := (k5 [b] (by simp) b (by simp)).trans hb4
    have r0 : ∀ K : Value → Res, σ3.ld ob 0 K = K (.slice o.ad o.l.length 0) := fun K => ld_own K ho3 rfl
    have r1 : ∀ {σx : St}, σx.get ob = some (.own (c4 o) 35) → ∀ K : Value → Res, σx.ld ob 1 K = K (.int .i64 o.mark) := fun h K => ld_own K h rfl
    rw [r0, asSl_s, e4, bnd_some, asAgL_a, ht, r1 ho4, asI_i, r1 ho3, asI_i, chk_same, g5, bnd_some, hw]
    have refused : ∀ {c : Int}, Err σ5 v5 c o.mark → ImS σ0 σ5 m d s [[ob], [b]] → ∃ σ', (eqNil v5 fun v39 => br (!v39) (lpAt Try.prog env L (k + 11) 3 [true, true, true, true, true, false, true] [] n [(0, .slice (some ⟨q0, 0, none⟩) sc.length 0), (3, ptr d), (4, ptr m), (31, .int .i64 sc.length), (32, .int .i64 ((i + 1 : Nat) : Int))] σ5) (lpAt Try.prog env L (k + 11) 3 [true, true, true, true, true, false, true, false, true, true, false, true, true, true, true, true, false, true] [n] L [(0, .slice (some ⟨q0, 0, none⟩) sc.length 0), (3, ptr d), (4, ptr m), (7, ptr ob), (8, ptr b), (9, .int .i64 (s.km : Nat)), (10, .bool false), (11, .int .i64 0), (31, .int .i64 sc.length), (32, .int .i64 i)] σ5)) = some (.bool true, σ') := by
      intro c hE hI5
      rw [hE.nil, not_false, br_true]
      exact outer L k hL hlen hfew hH n (i + 1) σ5 m s (by omega) (by omega) (drop2 hI5) hv hw0 (by omega)
    rcases hor with ⟨e, _⟩ | ⟨_, _, hE, hI5⟩ | ⟨_, _, _, _, hE, hI5⟩ | ⟨_, b1, b2, b3, rfl, hI5⟩
    · exact absurd hw0 e
    · exact refused hE hI5
    · exact refused hE hI5
    · have hP := Phase.start hv hw0 hml b1 b2 b3
      have hM : ((o.mark.toNat : Nat) : Int) = o.mark := by have : (s.km : Int) < o.mark := b3; omega
      obtain ⟨j', σ6, s6, e6, hj6, hI6, hP6, ho6, hb6⟩ := inner L k n hL (m := m) (ob := ob) (b := b) o (t0 := s.t) (by omega) (some ⟨q0, 0, none⟩) sc.length 0 sc.length i L 0 σ5 _ (by omega) (by omega) hI5 hP ho5 hb5
      obtain ⟨m', s', σ7, e7, hI7, hv7, hw7, ht7⟩ := tl1_ok L k n hL hI6 o ho6 hb6 hbl hl40 (by omega) hP6 hM (by have : (s.km : Int) < o.mark := b3; omega) hj6 (some ⟨q0, 0, none⟩) sc.length 0 sc.length i
      rw [hw] at e7
      obtain ⟨σ', e8⟩ := outer L k hL hlen hfew hH n (i + 1) σ7 m' s' (by omega) (by omega) hI7 hv7 hw7 (by omega)
      rw [eqNil_nil, not_true, br_false]
      exact ⟨σ', e6.trans (e7.trans e8)⟩
end

theorem atomic_holds (L k : Nat) (hL : 100000 < L) {σ0 : St} {ad0 : Option Addr} {sc : List (OpI σ0)} (hH : Holds σ0 4 c4 ad0 sc) : ∃ σ', evCall Try.prog env L (k + 12) 3 [.slice ad0 sc.length 0] σ0 = some (.bool true, σ') := by
  rw [f3_eq]
  have hend : ∀ σ2, ∃ σ', (bnd (evCall Try.prog env L (k + 11) 4 [] σ2) fun v10 v11 => asB v10 fun v12 => some (Value.bool v12, v11)) = some (.bool true, σ') := by
    intro σ2
    obtain ⟨σ3, g3, _⟩ := awake_spec L k hL σ2
    rw [g3, bnd_some, asB_b]; exact ⟨σ3, rfl⟩
  obtain ⟨σ1, g1, s1⟩ := awake_spec L k hL σ0
  have hO1 := (Owns.start σ0).idle s1
  rw [g1, bnd_some, asB_b, not_true, br_false]
  obtain ⟨b, g2, hb⟩ := few_spec L (k + 10) (by omega) (z := 0) (reads_ops hH hO1.kept)
  rw [List.length_map] at g2
  rw [g2, bnd_some, asB_b]
  cases b with
  | false => rw [not_false, br_true]; exact hend σ1
  | true =>
  obtain ⟨h20, hall⟩ := hb rfl
  rw [List.length_map] at h20
  rw [not_true, br_false]
  obtain ⟨d, m, σ2, σ3, g3, g4, hI, _, hinv⟩ := start L (k + 1) hL hO1
  rw [g3, bnd_some, asP_p, g4, bnd_some, asT_t, toList2, uncons_c, asP_p, uncons_c, endl_n, eqNil_nil, not_true, br_false]
  exact outer L k hL h20 (fun o ho => (hall (o.ad, 0, o.l) (List.mem_map.2 ⟨o, ho, rfl⟩)).1) hH L 0 _ m _ (by omega) (by omega) hI hinv rfl (by simp)
end Go.AM.Ia
