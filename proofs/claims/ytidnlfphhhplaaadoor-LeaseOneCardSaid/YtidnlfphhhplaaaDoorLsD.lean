/-
  LeaseOne, in plain words.
-/
import Derived.Test.YtidnlfphhhplaaaDoorLsC
set_option linter.unusedVariables false
set_option linter.unusedSimpArgs false
set_option linter.unusedSectionVars false
namespace Go.AM.Ls
open Go.Proofs

structure Tick where
  what : Int
  e : Int
  who : Nat
  go : Nat
  newest : Bool
def c5 (o : Tick) : List Value := [.int .i64 o.what, .int .i64 o.e, .int .u8 (o.who : Nat), .int .u8 (o.go : Nat), .bool o.newest]
theorem c5_len (o : Tick) : (c5 o).length = 5 := rfl

set_option maxRecDepth 20000 in
theorem tickOf {σ : St} {row : List Value} (h : Img Tryd.prog σ 47 row) : ∃ o : Tick, row = c5 o := by
  obtain ⟨h1, h2⟩ := h.struct_inv Tryd.underlying47
  have hl : row.length = 5 := by rw [h1]; kernel_rfl
  match row, hl with
  | [x, y, z, w, b], _ =>
    have hx := h2 _ (List.mem_of_getElem? (i := 0) rfl)
    have hy := h2 _ (List.mem_of_getElem? (i := 1) rfl)
    have hz := h2 _ (List.mem_of_getElem? (i := 2) rfl)
    have hw := h2 _ (List.mem_of_getElem? (i := 3) rfl)
    have hb := h2 _ (List.mem_of_getElem? (i := 4) rfl)
    have e3 : Tryd.prog.cellsOf 3 = 1 := by kernel_rfl
    have e5 : Tryd.prog.cellsOf 5 = 1 := by kernel_rfl
    have e4 : Tryd.prog.cellsOf 4 = 1 := by kernel_rfl
    simp only [e3] at hx hy
    simp only [e5] at hz hw
    simp only [e4] at hb
    obtain ⟨n, w1, v1⟩ := Img.int_inv Tryd.underlying3 hx
    obtain ⟨m, w2, v2⟩ := Img.int_inv Tryd.underlying3 hy
    obtain ⟨t, w3, v3⟩ := Img.int_inv Tryd.underlying5 hz
    obtain ⟨g, w4, v4⟩ := Img.int_inv Tryd.underlying5 hw
    obtain ⟨c, w5⟩ := Img.bool_inv Tryd.underlying4 hb
    simp at w1 w2 w3 w4 w5
    obtain ⟨t, rfl⟩ := Int.eq_ofNat_of_zero_le (wf_u8 v3).1
    obtain ⟨g, rfl⟩ := Int.eq_ofNat_of_zero_le (wf_u8 v4).1
    exact ⟨⟨n, m, t, g, c⟩, by rw [w1, w2, w3, w4, w5]; rfl⟩

/-! Sites and a fence, in numbers. -/
def upd (ss : Nat → S) (w : Nat) (s : S) : Nat → S := fun k => if k = w then s else ss k
theorem upd_same (ss : Nat → S) (w : Nat) (s : S) : upd ss w s w = s := if_pos rfl
theorem upd_ne (ss : Nat → S) {w k : Nat} (s : S) (h : k ≠ w) : upd ss w s k = ss k := if_neg h

structure Iv (ss : Nat → S) (f : Fe) (now : Int) : Prop where
  f0 : 0 ≤ f.e
  fn : f.now ≤ now
  ft : f.till ≤ now + 10
  fs : f.since ≤ now ∨ f.since ≤ f.till
  sn : ∀ k, (ss k).now ≤ now
  se : ∀ k, 0 ≤ (ss k).e ∧ (ss k).e ≤ f.e
  su : ∀ k, (ss k).e ≠ 0 → (ss k).u ≤ now + 10 ∧ ((ss k).e = f.e → (ss k).u ≤ f.till) ∧ ((ss k).e < f.e → (ss k).u ≤ f.since)
  sp : ∀ j k, (ss j).e ≠ 0 → (ss j).e < (ss k).e → (ss j).u ≤ (ss k).u - 10

section
variable {ss : Nat → S} {f : Fe} {now : Int} (h : Iv ss f now)
include h
theorem Iv.tick : Iv ss f (now + 1) :=
  ⟨h.f0, by have := h.fn; omega, by have := h.ft; omega, by have := h.fs; omega, fun k => by have := h.sn k; omega, h.se, fun k hk => by have := h.su k hk; exact ⟨by omega, this.2⟩, h.sp⟩
theorem Iv.fat : Iv ss ⟨now, f.e, f.since, f.till⟩ now := ⟨h.f0, Int.le_refl _, h.ft, h.fs, h.sn, h.se, h.su, h.sp⟩
theorem Iv.sat (w : Nat) : Iv (upd ss w ⟨now, (ss w).e, (ss w).u⟩) f now := by
  have key : ∀ k, (upd ss w ⟨now, (ss w).e, (ss w).u⟩ k).e = (ss k).e ∧ (upd ss w ⟨now, (ss w).e, (ss w).u⟩ k).u = (ss k).u ∧ (upd ss w ⟨now, (ss w).e, (ss w).u⟩ k).now ≤ now := fun k => by
    by_cases hk : k = w
    · subst hk; rw [upd_same]; exact ⟨rfl, rfl, Int.le_refl _⟩
    · rw [upd_ne _ _ hk]; exact ⟨rfl, rfl, h.sn k⟩
  refine ⟨h.f0, h.fn, h.ft, h.fs, fun k => (key k).2.2, fun k => ?_, fun k hk => ?_, fun j k hj hjk => ?_⟩
  · rw [(key k).1]; exact h.se k
  · rw [(key k).1] at hk ⊢; rw [(key k).2.1]; exact h.su k hk
  · rw [(key j).1] at hj hjk; rw [(key k).1] at hjk; rw [(key j).2.1, (key k).2.1]; exact h.sp j k hj hjk
theorem Iv.promote : Iv ss ⟨now, f.e + 1, mx now f.till, f.till⟩ now := by
  have hm : now ≤ mx now f.till ∧ f.till ≤ mx now f.till ∧ (mx now f.till = now ∨ mx now f.till = f.till) := by unfold mx; split <;> omega
  have h0 := h.f0
  refine ⟨by simp only; omega, Int.le_refl _, h.ft, by simp only; omega, h.sn, fun k => ?_, fun k hk => ?_, h.sp⟩
  · have := h.se k; simp only; omega
  · have h1 := h.se k
    have h2 := h.su k hk
    have h3 := h.fs
    simp only
    refine ⟨h2.1, fun e => by omega, fun _ => ?_⟩
    rcases Int.lt_or_eq_of_le h1.2 with h4 | h4
    · have := h2.2.2 h4; omega
    · have := h2.2.1 h4; omega
theorem Iv.grant (hf : f.e ≠ 0) (hs : f.since ≤ now) (w : Nat) : Iv (upd ss w ⟨now, f.e, now + 10⟩) ⟨now, f.e, f.since, now + 10⟩ now := by
  have h0 := h.f0
  refine ⟨h.f0, Int.le_refl _, Int.le_refl _, .inl hs, fun k => ?_, fun k => ?_, fun k hk => ?_, fun j k hj hjk => ?_⟩
  · by_cases hk : k = w
    · subst hk; rw [upd_same]; exact Int.le_refl _
    · rw [upd_ne _ _ hk]; exact h.sn k
  · by_cases hk : k = w
    · subst hk; rw [upd_same]; exact ⟨h0, Int.le_refl _⟩
    · rw [upd_ne _ _ hk]; exact h.se k
  · by_cases hkw : k = w
    · subst hkw; rw [upd_same]; simp
    · rw [upd_ne _ _ hkw] at hk ⊢
      have h1 := h.su k hk
      have h2 := h.ft
      exact ⟨h1.1, fun _ => h1.1, h1.2.2⟩
  · by_cases hjw : j = w
    · subst hjw
      rw [upd_same] at hjk
      by_cases hkw : k = j
      · subst hkw; rw [upd_same] at hjk; simp at hjk
      · rw [upd_ne _ _ hkw] at hjk
        have := h.se k
        simp only at hjk
        omega
    · rw [upd_ne _ _ hjw] at hj hjk ⊢
      by_cases hkw : k = w
      · subst hkw
        rw [upd_same] at hjk ⊢
        have := (h.su j hj).2.2 hjk
        simp only
        omega
      · rw [upd_ne _ _ hkw] at hjk ⊢
        exact h.sp j k hj hjk
theorem Iv.renewed : Iv ss ⟨now, f.e, f.since, now + 10⟩ now ∨ True := .inr trivial
/-- No two acknowledge at one time. -/
theorem Iv.one {j k : Nat} (hj : (ss j).e ≠ 0) (hk : (ss k).e ≠ 0) (ju : now < (ss j).u) (ku : now < (ss k).u) : (ss j).e = (ss k).e := by
  rcases Int.lt_trichotomy (ss j).e (ss k).e with h1 | h1 | h1
  · have := h.sp j k hj h1
    have := (h.su k hk).1
    omega
  · exact h1
  · have := h.sp k j hk h1
    have := (h.su j hj).1
    omega
theorem Iv.held {k : Nat} (hk : (ss k).e ≠ 0) (ku : now < (ss k).u) (hs : f.since ≤ now) : (ss k).e = f.e := by
  rcases Int.lt_or_eq_of_le (h.se k).2 with h1 | h1
  · have := (h.su k hk).2.2 h1
    omega
  · exact h1
end

/-- Sites, a fence, and what points there. -/
structure One (σ0 σ : St) (c : Nat) (ss : Nat → S) (f : Fe) (now : Int) : Prop where
  kept : Kept' σ0.next σ0 σ
  hc : Has σ c f.cells 39
  hs : ∀ k, k < 3 → Has σ (c + 1 + k) (ss k).cells 28
  hp : Has σ (c + 4) [ptr (c + 1), ptr (c + 2), ptr (c + 3)] 24
  ord : σ0.next ≤ c
  iv : Iv ss f now
theorem One.at3 {σ0 σ : St} {c : Nat} {ss : Nat → S} {f : Fe} {now : Int} (h : One σ0 σ c ss f now) {w : Nat} (hw : w < 3) (o : Nat) (ho : o = 0 + w * 1) (K : Value → Res) : σ.ld (c + 4) o K = K (ptr (c + 1 + w)) := by
  have key : [ptr (c + 1), ptr (c + 2), ptr (c + 3)][w]? = some (ptr (c + 1 + w)) := by
    rcases w with _ | _ | _ | w
    · rfl
    · rfl
    · rfl
    · omega
  exact ld_at h.hp.get o _ (by rw [ho, Nat.zero_add, Nat.mul_one]; exact key) K
theorem One.idle {σ0 σ σ' : St} {c : Nat} {ss : Nat → S} {f : Fe} {now : Int} (h : One σ0 σ c ss f now) (hs : Same σ σ' []) : One σ0 σ' c ss f now :=
  ⟨h.kept.step hs (by simp), h.hc.same hs (by simp), fun k hk => (h.hs k hk).same hs (by simp), h.hp.same hs (by simp), h.ord, h.iv⟩
theorem One.fence {σ0 σ σ' : St} {c : Nat} {ss : Nat → S} {f f' : Fe} {now : Int} (h : One σ0 σ c ss f now) (h1 : Has σ' c f'.cells 39) (hs : Same σ σ' [c]) (hi : Iv ss f' now) : One σ0 σ' c ss f' now :=
  ⟨h.kept.step hs (by have := h.ord; simp; omega), h1, fun k hk => (h.hs k hk).same hs (by simp; omega), h.hp.same hs (by simp), h.ord, hi⟩
theorem One.site {σ0 σ σ' : St} {c w : Nat} {ss : Nat → S} {s : S} {f : Fe} {now : Int} (h : One σ0 σ c ss f now) (hw : w < 3) (h1 : Has σ' (c + 1 + w) s.cells 28) (hs : Same σ σ' [c + 1 + w]) (hi : Iv (upd ss w s) f now) : One σ0 σ' c (upd ss w s) f now :=
  ⟨h.kept.step hs (by have := h.ord; simp; omega), h.hc.same hs (by simp; omega), fun k hk => by
    by_cases hkw : k = w
    · subst hkw; rw [upd_same]; exact h1
    · rw [upd_ne _ _ hkw]; exact (h.hs k hk).same hs (by simp; omega), h.hp.same hs (by simp; omega), h.ord, hi⟩

theorem one_check (L k : Nat) {σ0 σ : St} {c : Nat} {ss : Nat → S} {f : Fe} {now : Int} (h : One σ0 σ c ss f now) {w : Nat} (hw : w < 3) (hn : now ≤ 1000000) :
    ∃ v σ', evCall Tryd.prog env L (k + 3) 11 [ptr (c + 1 + w), .int .i64 (ss w).e, .int .i64 now] σ = some (v, σ') ∧ (∀ K : Bool → Res, eqNil v K = K (decide ((ss w).e ≠ 0 ∧ now < (ss w).u))) ∧ One σ0 σ' c (upd ss w ⟨now, (ss w).e, (ss w).u⟩) f now := by
  obtain ⟨v, σ1, g1, e1, h1, s1⟩ := check_spec (h.hs w hw) L k (ss w).e now
  rw [S.at_ok (h.iv.sn w) (by omega)] at h1
  rw [check_ok (h.iv.sn w) (by omega)] at e1
  refine ⟨v, σ1, g1, fun K => ?_, h.site hw h1 s1 (h.iv.sat w)⟩
  rw [e1.nil]
  refine congrArg K ?_
  by_cases h0 : (ss w).e = 0
  · rw [if_pos h0, decide_eq_false (by omega), decide_eq_false (by omega)]
  · rw [if_neg h0, if_neg (by simp)]
    by_cases h2 : now ≥ (ss w).u
    · rw [if_pos h2, decide_eq_false (by omega), decide_eq_false (by omega)]
    · rw [if_neg h2, decide_eq_true rfl, decide_eq_true ⟨h0, by omega⟩]

theorem one_holds (L k : Nat) {σ0 σ : St} {c : Nat} {ss : Nat → S} {f : Fe} {now : Int} (h : One σ0 σ c ss f now) (hn : now ≤ 1000000) :
    ∃ σ', evCall Tryd.prog env L (k + 2) 16 [ptr c, .int .i64 now] σ = some (.int .i64 (if now < f.since then 0 else f.e), σ') ∧ One σ0 σ' c ss ⟨now, f.e, f.since, f.till⟩ now := by
  obtain ⟨σ1, g1, h1, s1⟩ := holds_spec h.hc L k now
  rw [Fe.at_ok h.iv.fn (by omega)] at h1
  rw [holds_ok h.iv.fn (by omega)] at g1
  exact ⟨σ1, g1, h.fence h1 s1 h.iv.fat⟩

abbrev P22 : List Bool := [true, true, true, true, true, false, true, false, true, true, false, true, true, true]
abbrev P25 : List Bool := [true, true, true, true, true, false, true, false, true, true, false, true, true, true, false, true, true, false, true, false, true]
abbrev P7 : List Bool := [true, true, true, true, true, false, true]

/-- The sites, one behind the other, at one time. -/
theorem l25 (L k m0 m1 : Nat) {σ0 : St} {c : Nat} {now nw : Int} (hn : now ≤ 1000000) (hn0 : 0 ≤ now) (ad : Option Addr) (len az : Nat) (i s106 s105 : Int) (n0 : Nat)
    (hrec : ∀ σ ss f, One σ0 σ c ss f now → f.e = nw → ∃ σ9, lpAt Tryd.prog env L (k + 4) 5 P22 [m0] m1 [(0, .slice ad len az), (3, ptr c), (4, .slice (some ⟨c + 4, 0, none⟩) 3 1), (5, .int .i64 (now + 1)), (6, .int .i64 nw), (34, .int .i64 n0), (35, .int .i64 i), (105, .int .u8 s105), (106, .int .u8 (IntKind.wrap .u8 (s106 + 1)))] σ = some (.bool true, σ9)) :
    ∀ (n j : Nat) (σ : St) (ss : Nat → S) (f : Fe) (at_ : Int), j ≤ 3 → 3 - j < n → One σ0 σ c ss f now → f.e = nw → (at_ = 0 ∨ ∃ q, (ss q).e = at_ ∧ at_ ≠ 0 ∧ now < (ss q).u) →
    ∃ σ9, lpAt Tryd.prog env L (k + 4) 5 P25 [m0, m1] n [(0, .slice ad len az), (3, ptr c), (4, .slice (some ⟨c + 4, 0, none⟩) 3 1), (5, .int .i64 now), (6, .int .i64 nw), (12, .int .i64 at_), (34, .int .i64 n0), (35, .int .i64 i), (105, .int .u8 s105), (106, .int .u8 s106), (109, .int .i64 (3 : Nat)), (110, .int .i64 j)] σ = some (.bool true, σ9)
  | 0, j, σ, ss, f, at_, _, h, _, _, _ => by omega
  | n + 1, j, σ, ss, f, at_, hj, h, hO, hf, hat => by
    rw [f5_l25]
    by_cases hje : j = 3
    · rw [decide_eq_false (by omega), br_false, wrap_in (now + 1) (by omega) (by omega)]
      exact hrec σ ss f hO hf
    · have hj3 : j < 3 := by clear hat; omega
      have hj1 : j + 1 ≤ 3 := by clear hat; omega
      have hj2 : 3 - (j + 1) < n := by clear hat; omega
      have hw : IntKind.wrap .i64 ((j : Int) + 1) = ((j + 1 : Nat) : Int) := by rw [wrap_in _ (by omega) (by omega)]; omega
      have hin : ∀ K : Res, need (inRange (j : Int) ((3 : Nat) : Int)) K = K := fun K => need_of (by simp [inRange]; omega) K
      obtain ⟨v1, σ1, g1, e1, hO1⟩ := one_check L (k + 1) hO hj3 hn
      have hne : ∀ q, (upd ss j ⟨now, (ss j).e, (ss j).u⟩ q).e = (ss q).e ∧ (upd ss j ⟨now, (ss j).e, (ss j).u⟩ q).u = (ss q).u := fun q => by
        by_cases hq : q = j
        · subst hq; rw [upd_same]; exact ⟨rfl, rfl⟩
        · rw [upd_ne _ _ hq]; exact ⟨rfl, rfl⟩
      rw [decide_eq_true (by omega), br_true, hin, adr_some, hO.at3 hj3 _ (by simp), asP_p, epoch_spec (hO.hs j hj3) L (k + 3), bnd_some, asT_t, toList2, uncons_c, asI_i, uncons_c, asI_i, endl_n, hin, adr_some, hO.at3 hj3 _ (by simp), asP_p, g1, bnd_some, e1, hw]
      by_cases hc : (ss j).e ≠ 0 ∧ now < (ss j).u
      · rw [decide_eq_true hc, not_true, br_false]
        obtain ⟨σ2, g2, hO2⟩ := one_holds L (k + 2) hO1 hn
        obtain ⟨σ3, g3, hO3⟩ := one_holds L (k + 2) hO2 hn
        have hq2 : (ss j).e = 0 ∨ ∃ q, (upd ss j ⟨now, (ss j).e, (ss j).u⟩ q).e = (ss j).e ∧ (ss j).e ≠ 0 ∧ now < (upd ss j ⟨now, (ss j).e, (ss j).u⟩ q).u := .inr ⟨j, (hne j).1, hc.1, by rw [(hne j).2]; exact hc.2⟩
        have go2 := l25 L k m0 m1 hn hn0 ad len az i s106 s105 n0 hrec n (j + 1) σ2 _ _ (ss j).e hj1 hj2 hO2 hf hq2
        have go3 := l25 L k m0 m1 hn hn0 ad len az i s106 s105 n0 hrec n (j + 1) σ3 _ _ (ss j).e hj1 hj2 hO3 hf hq2
        have tail : ∃ σ9, (bnd (evCall Tryd.prog env L (k + 4) 16 [ptr c, .int .i64 now] σ1) fun v27 v28 => asI IntKind.i64 v27 fun v29 =>
            br (v29 != (0 : Int)) (bnd (evCall Tryd.prog env L (k + 4) 16 [ptr c, .int .i64 now] v28) fun v30 v31 => asI IntKind.i64 v30 fun v32 =>
              br (v32 != (ss j).e) (some (Value.bool false, v31)) (lpAt Tryd.prog env L (k + 4) 5 P25 [m0, m1] n [(0, .slice ad len az), (3, ptr c), (4, .slice (some ⟨c + 4, 0, none⟩) 3 1), (5, .int .i64 now), (6, .int .i64 nw), (12, .int .i64 (ss j).e), (34, .int .i64 n0), (35, .int .i64 i), (105, .int .u8 s105), (106, .int .u8 s106), (109, .int .i64 (3 : Nat)), (110, .int .i64 (j + 1 : Nat))] v31))
            (lpAt Tryd.prog env L (k + 4) 5 P25 [m0, m1] n [(0, .slice ad len az), (3, ptr c), (4, .slice (some ⟨c + 4, 0, none⟩) 3 1), (5, .int .i64 now), (6, .int .i64 nw), (12, .int .i64 (ss j).e), (34, .int .i64 n0), (35, .int .i64 i), (105, .int .u8 s105), (106, .int .u8 s106), (109, .int .i64 (3 : Nat)), (110, .int .i64 (j + 1 : Nat))] v28)) = some (.bool true, σ9) := by
          rw [g2, bnd_some, asI_i]
          by_cases hs : now < f.since
          · rw [if_pos hs, show ((0 : Int) != 0) = false from rfl, br_false]; exact go2
          · rw [if_neg hs]
            have hee := hO.iv.held hc.1 hc.2 (by omega)
            have h0 : (f.e != 0) = true := by rw [← hee]; simpa using hc.1
            have h1 : (f.e != (ss j).e) = false := by rw [hee]; simp
            rw [if_neg hs] at g3
            rw [h0, br_true, g3, bnd_some, asI_i, h1, br_false]
            exact go3
        by_cases ha : at_ = 0
        · rw [show (at_ != 0) = false by simpa using ha, br_false]
          exact tail
        · have hae : at_ = (ss j).e := by
            rcases hat with h0 | ⟨q, q1, q2, q3⟩
            · exact absurd h0 ha
            · rw [← q1]; exact hO.iv.one (by rw [q1]; exact q2) hc.1 q3 hc.2
          rw [show (at_ != 0) = true by simpa using ha, br_true, show (at_ != (ss j).e) = false by simpa using hae, br_false]
          exact tail
      · rw [decide_eq_false hc, not_false, br_true]
        refine l25 L k m0 m1 hn hn0 ad len az i s106 s105 n0 hrec n (j + 1) σ1 _ f at_ hj1 hj2 hO1 hf ?_
        rcases hat with h0 | ⟨q, q1, q2, q3⟩
        · exact .inl h0
        · exact .inr ⟨q, by rw [(hne q).1]; exact q1, q2, by rw [(hne q).2]; exact q3⟩

/-- The ticks that go by. -/
theorem l22 (L k m0 : Nat) (hL : 400 < L) {σ0 : St} {c : Nat} {nw now9 : Int} (h9 : now9 ≤ 999900) (ad : Option Addr) (len az n0 : Nat) (i : Int) (g : Nat) (hg : g ≤ 16)
    (hrec : ∀ σ ss f now, One σ0 σ c ss f now → f.e = nw → 0 ≤ now → now ≤ now9 + 16 → ∃ σ9, lpAt Tryd.prog env L (k + 4) 5 P7 [] m0 [(0, .slice ad len az), (3, ptr c), (4, .slice (some ⟨c + 4, 0, none⟩) 3 1), (5, .int .i64 now), (6, .int .i64 nw), (34, .int .i64 n0), (35, .int .i64 (IntKind.wrap .i64 (i + 1)))] σ = some (.bool true, σ9)) :
    ∀ (n t : Nat) (σ : St) (ss : Nat → S) (f : Fe) (now : Int), t ≤ g → g - t < n → One σ0 σ c ss f now → f.e = nw → 0 ≤ now → now ≤ now9 + t →
    ∃ σ9, lpAt Tryd.prog env L (k + 4) 5 P22 [m0] n [(0, .slice ad len az), (3, ptr c), (4, .slice (some ⟨c + 4, 0, none⟩) 3 1), (5, .int .i64 now), (6, .int .i64 nw), (34, .int .i64 n0), (35, .int .i64 i), (105, .int .u8 (g : Nat)), (106, .int .u8 (t : Nat))] σ = some (.bool true, σ9)
  | 0, t, σ, ss, f, now, _, h, _, _, _, _ => by omega
  | n + 1, t, σ, ss, f, now, ht, h, hO, hf, h0, h1 => by
    rw [f5_l22]
    by_cases hte : t = g
    · rw [decide_eq_false (by omega), br_false]
      exact hrec σ ss f now hO hf h0 (by omega)
    · rw [decide_eq_true (by omega), br_true]
      refine l25 L k m0 n (by omega) h0 ad len az i (t : Nat) (g : Nat) n0 (fun σ' ss' f' hO' hf' => ?_) L 0 σ ss f 0 (by omega) (by omega) hO hf (.inl rfl)
      have hw : IntKind.wrap .u8 ((t : Int) + 1) = ((t + 1 : Nat) : Int) := by
        rw [show IntKind.wrap .u8 ((t : Int) + 1) = ((t : Int) + 1) % 256 from rfl]
        omega
      rw [hw]
      exact l22 L k m0 hL h9 ad len az n0 i g hg hrec n (t + 1) σ' ss' f' (now + 1) (by omega) (by omega) ⟨hO'.kept, hO'.hc, hO'.hs, hO'.hp, hO'.ord, hO'.iv.tick⟩ hf' (by omega) (by omega)

set_option maxRecDepth 20000 in
theorem one (L k : Nat) (hL : 400 < L) {σ0 : St} {ad : Option Addr} {sc : List Tick} (hlen : sc.length ≤ 300) (hH : Holds σ0 5 c5 ad sc) {c : Nat} : ∀ (n i : Nat) (σ : St) (ss : Nat → S) (f : Fe) (now : Int),
    i ≤ sc.length → sc.length - i < n → One σ0 σ c ss f now → f.e ≤ i → 0 ≤ now → now ≤ 16 * i →
    ∃ σ9, lpAt Tryd.prog env L (k + 4) 5 P7 [] n [(0, .slice ad sc.length 0), (3, ptr c), (4, .slice (some ⟨c + 4, 0, none⟩) 3 1), (5, .int .i64 now), (6, .int .i64 f.e), (34, .int .i64 sc.length), (35, .int .i64 i)] σ = some (.bool true, σ9)
  | 0, i, σ, ss, f, now, _, h, _, _, _, _ => by omega
  | n + 1, i, σ, ss, f, now, hi, h, hO, hf, h0, h1 => by
    rw [f5_l7]
    by_cases hie : i = sc.length
    · rw [decide_eq_false (by omega), br_false]
      exact ⟨σ, rfl⟩
    · have hget : sc[i]? = some sc[i] := List.getElem?_eq_getElem (by omega)
      obtain ⟨q0, e0, hat⟩ := hH.ld hO.kept hget
      have hat' : ∀ {σ' : St}, Kept' σ0.next σ0 σ' → ∀ (j : Nat) (v : Value) (o : Nat), j < 5 → (c5 sc[i])[j]? = some v → o = i * 5 + j → ∀ K : Value → Res, σ'.ld q0 o K = K v := fun hk => by
        obtain ⟨q1, e1, h⟩ := hH.ld hk hget
        rw [e0] at e1
        cases e1
        exact h
      generalize sc[i] = o at hat'
      have hn : ∀ K : Res, need (inRange (i : Int) (sc.length : Int)) K = K := fun K => need_of (by simp [inRange]; omega) K
      have r0 : ∀ {σ' : St}, Kept' σ0.next σ0 σ' → ∀ K : Value → Res, σ'.ld q0 (0 + (i : Int).toNat * 5 + 0) K = K (.int .i64 o.what) := fun hk K => hat' hk 0 _ _ (by omega) rfl (by simp) K
      have r1 : ∀ {σ' : St}, Kept' σ0.next σ0 σ' → ∀ K : Value → Res, σ'.ld q0 (0 + (i : Int).toNat * 5 + 1) K = K (.int .i64 o.e) := fun hk K => hat' hk 1 _ _ (by omega) rfl (by simp) K
      have r2 : ∀ {σ' : St}, Kept' σ0.next σ0 σ' → ∀ K : Value → Res, σ'.ld q0 (0 + (i : Int).toNat * 5 + 2) K = K (.int .u8 (o.who : Nat)) := fun hk K => hat' hk 2 _ _ (by omega) rfl (by simp) K
      have r3 : ∀ {σ' : St}, Kept' σ0.next σ0 σ' → ∀ K : Value → Res, σ'.ld q0 (0 + (i : Int).toNat * 5 + 3) K = K (.int .u8 (o.go : Nat)) := fun hk K => hat' hk 3 _ _ (by omega) rfl (by simp) K
      have r4 : ∀ {σ' : St}, Kept' σ0.next σ0 σ' → ∀ K : Value → Res, σ'.ld q0 (0 + (i : Int).toNat * 5 + 4) K = K (.bool o.newest) := fun hk K => hat' hk 4 _ _ (by omega) rfl (by simp) K
      have hg : IntKind.wrap .u8 (Int.tmod (o.go : Int) 16 + 1) = ((o.go % 16 + 1 : Nat) : Int) := by
        rw [show Int.tmod (o.go : Int) 16 = ((o.go % 16 : Nat) : Int) from rfl, show ∀ x : Int, IntKind.wrap .u8 x = x % 256 from fun _ => rfl]
        omega
      have hm : Int.tmod (o.who : Int) 3 = ((o.who % 3 : Nat) : Int) := rfl
      have hw : IntKind.wrap .i64 ((i : Int) + 1) = ((i + 1 : Nat) : Int) := by rw [wrap_in _ (by omega) (by omega)]; omega
      have go : ∀ (σ' : St) (ss' : Nat → S) (f' : Fe), One σ0 σ' c ss' f' now → f'.e ≤ (i + 1 : Nat) →
          ∃ σ9, lpAt Tryd.prog env L (k + 4) 5 P22 [n] L [(0, .slice ad sc.length 0), (3, ptr c), (4, .slice (some ⟨c + 4, 0, none⟩) 3 1), (5, .int .i64 now), (6, .int .i64 f'.e), (34, .int .i64 sc.length), (35, .int .i64 i), (105, .int .u8 ((o.go % 16 + 1 : Nat) : Int)), (106, .int .u8 0)] σ' = some (.bool true, σ9) := by
        intro σ' ss' f' hO' hf'
        refine l22 L k n hL (nw := f'.e) (now9 := now) (by omega) ad sc.length 0 sc.length i (o.go % 16 + 1) (by omega) (fun σ2 ss2 f2 now2 hO2 hf2 h02 h12 => ?_) L 0 σ' ss' f' now (by omega) (by omega) hO' rfl h0 (by omega)
        rw [hw, ← hf2]
        exact one L k hL hlen hH n (i + 1) σ2 ss2 f2 now2 (by omega) (by omega) hO2 (by omega) h02 (by omega)
      rw [decide_eq_true (by omega), br_true, hn, e0, adr_some, r0 hO.kept, asI_i]
      by_cases k1 : o.what = 1
      · obtain ⟨f1, f2, f3⟩ := promote_ok (f := f) (t := now) (by omega) hO.iv.fn (by omega)
        obtain ⟨v, σ1, g1, e1, h1', s1⟩ := promote_spec hO.hc ⟨hO.iv.f0, by omega⟩ L (k + 1) now
        rw [if_neg f1] at e1
        rw [if_neg f1, if_neg f1, f2] at g1
        rw [f3] at h1'
        have hO1 := hO.fence h1' s1 hO.iv.promote
        have hm1 : now ≤ mx now f.till := by unfold mx; split <;> omega
        rw [k1, show ((1 : Int) == 1) = true from rfl, br_true, g1, bnd_some, asT_t, toList3, uncons_c, asI_i, uncons_c, asI_i, uncons_c, endl_n, e1.nil, decide_eq_true rfl, not_true, br_false, wrap_in (f.e + 1) (by have := hO.iv.f0; omega) (by omega), show (f.e + 1 != f.e + 1) = false by simp, br_false, decide_eq_false (by simp only; omega), br_false, hn, adr_some, r3 hO1.kept, asI_i, hg, ← e0]
        exact go σ1 ss _ hO1 (by simp only; omega)
      · rw [show (o.what == 1) = false by simpa using k1, br_false]
        by_cases k2 : o.what = 2
        · have both : ∀ ep : Int, ∃ σ9, (bnd (evCall Tryd.prog env L (k + 4) 15 [ptr c, .int .i64 ep, .int .i64 now] σ) fun v29 v30 => eqNil v29 fun v31 =>
              br v31 (need (inRange (i : Int) (sc.length : Int)) (adr (some ⟨q0, 0, none⟩) fun v32 v33 => St.ld v30 v32 (v33 + Int.toNat (i : Int) * 5 + 2) fun v34 => asI IntKind.u8 v34 fun v35 => need (inRange (Int.tmod v35 3) ((3 : Nat) : Int)) (adr (some ⟨c + 4, 0, none⟩) fun v36 v37 => St.ld v30 v36 (v37 + Int.toNat (Int.tmod v35 3) * 1) fun v38 => asP v38 fun v39 =>
                bnd (evCall Tryd.prog env L (k + 4) 10 [Value.pointer v39, .int .i64 ep, .int .i64 now] v30) fun v40 v41 => eqNil v40 fun v42 =>
                br (!v42) (some (Value.bool false, v41)) (need (inRange (i : Int) (sc.length : Int)) (adr (some ⟨q0, 0, none⟩) fun v43 v44 => St.ld v41 v43 (v44 + Int.toNat (i : Int) * 5 + 3) fun v45 => asI IntKind.u8 v45 fun v46 =>
                  lpAt Tryd.prog env L (k + 4) 5 P22 [n] L [(0, .slice (some ⟨q0, 0, none⟩) sc.length 0), (3, ptr c), (4, .slice (some ⟨c + 4, 0, none⟩) 3 1), (5, .int .i64 now), (6, .int .i64 f.e), (34, .int .i64 sc.length), (35, .int .i64 i), (105, .int .u8 (IntKind.wrap .u8 (Int.tmod v46 16 + 1))), (106, .int .u8 0)] v41)))))
              (need (inRange (i : Int) (sc.length : Int)) (adr (some ⟨q0, 0, none⟩) fun v47 v48 => St.ld v30 v47 (v48 + Int.toNat (i : Int) * 5 + 3) fun v49 => asI IntKind.u8 v49 fun v50 =>
                lpAt Tryd.prog env L (k + 4) 5 P22 [n] L [(0, .slice (some ⟨q0, 0, none⟩) sc.length 0), (3, ptr c), (4, .slice (some ⟨c + 4, 0, none⟩) 3 1), (5, .int .i64 now), (6, .int .i64 f.e), (34, .int .i64 sc.length), (35, .int .i64 i), (105, .int .u8 (IntKind.wrap .u8 (Int.tmod v50 16 + 1))), (106, .int .u8 0)] v30))) = some (.bool true, σ9) := by
            intro ep
            obtain ⟨v, σ1, g1, e1, h1', s1⟩ := renew_spec hO.hc L (k + 1) ep now
            have hok := hO.iv.fn
            rw [g1, bnd_some, e1.nil]
            by_cases hr : f.e ≠ 0 ∧ ep = f.e ∧ f.since ≤ now
            · obtain ⟨hr0, hr1, hr2⟩ := hr
              rw [renew_ok hr0 hr1 hok (by omega) (by omega) hr2] at h1' ⊢
              have hwm : o.who % 3 < 3 := Nat.mod_lt _ (by omega)
              have hk1 := hO.kept.step s1 (by have := hO.ord; simp; omega)
              have hs1 := (hO.hs _ hwm).same s1 (by simp; omega)
              have hp1 := hO.hp.same s1 (by simp)
              have hptr : ∀ K : Value → Res, σ1.ld (c + 4) (0 + Int.toNat ((o.who % 3 : Nat) : Int) * 1) K = K (ptr (c + 1 + o.who % 3)) := fun K => by
                refine ld_at hp1.get _ _ ?_ K
                have : ∀ w, w < 3 → [ptr (c + 1), ptr (c + 2), ptr (c + 3)][0 + Int.toNat ((w : Nat) : Int) * 1]? = some (ptr (c + 1 + w)) := fun w hw => by
                  match w, hw with
                  | 0, _ => rfl
                  | 1, _ => rfl
                  | 2, _ => rfl
                exact this _ hwm
              obtain ⟨v2, σ2, g2, e2, h2, s2⟩ := grant_spec hs1 L (k + 1) ep now
              have hse := hO.iv.se (o.who % 3)
              have hf0 := hO.iv.f0
              rw [grant_ok (by omega) (by omega) (hO.iv.sn _) (by omega) (by omega)] at e2 h2
              have hO2 : One σ0 σ2 c (upd ss (o.who % 3) ⟨now, f.e, now + 10⟩) ⟨now, f.e, f.since, now + 10⟩ now :=
                ⟨hk1.step s2 (by have := hO.ord; simp; omega), h1'.same s2 (by simp; omega), fun q hq => by
                  by_cases hqw : q = o.who % 3
                  · rw [hqw, upd_same]; rw [hr1] at h2; exact h2
                  · rw [upd_ne _ _ hqw]; exact ((hO.hs q hq).same s1 (by simp; omega)).same s2 (by simp; omega), hp1.same s2 (by simp; omega), hO.ord, hO.iv.grant hr0 hr2 _⟩
              rw [decide_eq_true rfl, br_true, hn, adr_some, r2 hk1, asI_i, hm, need_of (by simp [inRange]; omega), adr_some, hptr, asP_p, g2, bnd_some, e2.nil, decide_eq_true rfl, not_true, br_false, hn, adr_some, r3 hO2.kept, asI_i, hg, ← e0]
              exact go σ2 _ ⟨now, f.e, f.since, now + 10⟩ hO2 (by simp only; omega)
            · have hfail : (f.renew ep now).1 ≠ 0 ∧ (f.renew ep now).2 = f.at now := by
                unfold Fe.renew
                rw [tm_of hok (by omega)]
                by_cases c1 : f.e = 0
                · rw [if_pos c1]; exact ⟨by simp, rfl⟩
                · rw [if_neg c1]
                  by_cases c2 : ep ≠ f.e
                  · rw [if_pos c2]; exact ⟨by simp, rfl⟩
                  · rw [if_neg c2]
                    by_cases c3 : now < f.since
                    · rw [if_pos c3]; exact ⟨by simp, rfl⟩
                    · exact absurd ⟨c1, by omega, by omega⟩ hr
              rw [hfail.2, Fe.at_ok hok (by omega)] at h1'
              have hO1 := hO.fence h1' s1 hO.iv.fat
              rw [decide_eq_false hfail.1, br_false, hn, adr_some, r3 hO1.kept, asI_i, hg, ← e0]
              exact go σ1 ss ⟨now, f.e, f.since, f.till⟩ hO1 (by simp only; omega)
          rw [k2, show ((2 : Int) == 2) = true from rfl, br_true, hn, adr_some, r1 hO.kept, asI_i, hn, adr_some, r4 hO.kept, asB_b]
          cases o.newest with
          | true => rw [br_true]; exact both f.e
          | false => rw [br_false]; exact both o.e
        · rw [show (o.what == 2) = false by simpa using k2, br_false, hn, adr_some, r3 hO.kept, asI_i, hg, ← e0]
          exact go σ ss f hO (by omega)

theorem one_lease_holds (L k : Nat) (hL : 400 < L) {σ : St} {ad : Option Addr} {sc : List Tick} (hH : Holds σ 5 c5 ad sc) :
    ∃ σ9, evCall Tryd.prog env L (k + 5) 5 [.slice ad sc.length 0] σ = some (.bool true, σ9) := by
  rw [f5_eq]
  obtain ⟨σ1, g1, s1⟩ := awake_spec L k σ
  rw [g1, bnd_some, asB_b, not_true, br_false]
  by_cases hlen : sc.length > 300
  · obtain ⟨σ2, g2, _⟩ := awake_spec L k σ1
    rw [decide_eq_true (by omega), br_true, g2, bnd_some, asB_b]
    exact ⟨σ2, rfl⟩
  · rw [decide_eq_false (by omega), br_false, need_true, need_true]
    obtain ⟨σ2, q2, a2, s2, n2⟩ := new_fence σ1
    rw [q2]
    obtain ⟨σ3, q3, a3, s3, n3⟩ := new_site σ2
    rw [q3]
    obtain ⟨σ4, q4, a4, s4, n4⟩ := new_site σ3
    rw [q4]
    obtain ⟨σ5, q5, a5, s5, n5⟩ := new_site σ4
    rw [q5]
    have a6 := Has.new σ5 [ptr (σ1.next + 1), ptr (σ1.next + 2), ptr (σ1.next + 3)] 24
    have s6 : Same σ5 (σ5.new (.own [ptr (σ1.next + 1), ptr (σ1.next + 2), ptr (σ1.next + 3)] 24)) [] := Same.new _ _ _
    rw [show σ5.next = σ1.next + 4 by omega] at a6 ⊢
    rw [show σ4.next = σ1.next + 3 by omega] at a5 ⊢
    rw [show σ3.next = σ1.next + 2 by omega] at a4 ⊢
    rw [show σ2.next = σ1.next + 1 by omega] at a3 ⊢
    generalize σ5.new (.own [ptr (σ1.next + 1), ptr (σ1.next + 2), ptr (σ1.next + 3)] 24) = σ6 at a6 s6
    have hk0 : Kept' σ.next σ σ := ⟨Nat.le_refl _, fun _ _ => rfl⟩
    have := s1.1
    refine one L k hL (by omega) hH L 0 σ6 (fun _ => ⟨0, 0, 0⟩) ⟨0, 0, 0, 0⟩ 0 (by omega) (by omega)
      ⟨(((((hk0.step s1 (by simp)).step s2 (by simp)).step s3 (by simp)).step s4 (by simp)).step s5 (by simp)).step s6 (by simp), (((a2.same s3 (by simp)).same s4 (by simp)).same s5 (by simp)).same s6 (by simp), fun q hq => ?_, a6, by omega,
       ⟨by decide, by decide, by decide, by decide, fun _ => by decide, fun _ => by decide, fun _ h => absurd rfl h, fun _ _ h => absurd rfl h⟩⟩ (by decide) (by decide) (by decide)
    match q, hq with
    | 0, _ => exact ((a3.same s4 (by simp)).same s5 (by simp)).same s6 (by simp)
    | 1, _ => exact (a4.same s5 (by simp)).same s6 (by simp)
    | 2, _ => exact a5.same s6 (by simp)

end Go.AM.Ls
