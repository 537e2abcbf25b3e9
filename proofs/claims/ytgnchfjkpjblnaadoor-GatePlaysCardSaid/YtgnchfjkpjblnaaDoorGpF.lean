/-
  GatePlays: the rounds.
-/
import Derived.Test.YtgnchfjkpjblnaaDoorGpD
set_option linter.unusedVariables false
set_option linter.unusedSimpArgs false
set_option linter.unusedSectionVars false
namespace Go.AM.Gp
open Go.Proofs Go.RowKit

/-- The gate and the document's, alike; the script's element. -/
structure W3 (σ0 σ : St) (a b t : Nat) (B : Blk) (g : GS) : Prop where
  ex : ∃ Fa Fb, Gate σ a Fa g ∧ RGate σ b Fb g ∧ Owns σ0 σ [Fa, Fb, [t]] ∧ σ.get t = some B
  ok : g.Ok
theorem W3.idle {σ0 σ σ' : St} {a b t : Nat} {B : Blk} {g : GS} (h : W3 σ0 σ a b t B g) (hs : Same σ σ' []) : W3 σ0 σ' a b t B g := by
  obtain ⟨Fa, Fb, h1, h2, h3, h4⟩ := h.ex
  exact ⟨⟨Fa, Fb, h1.idle hs, h2.idle hs, h3.idle hs, (hs.2 t (h3.lt 2 rfl _ (by simp)) (by simp)).trans h4⟩, h.ok⟩
/-- The gate turns, then the document's. -/
theorem W3.turn {σ0 σ σ1 σ2 σ3 : St} {a b t : Nat} {B : Blk} {g' : GS} {Fa Fb Fa' Fb' : List Nat} (hO : Owns σ0 σ [Fa, Fb, [t]]) (ht : σ.get t = some B) (hA : Gate σ1 a Fa' g') (t1 : Turn σ σ1 Fa Fa') (s12 : Same σ1 σ2 []) (hB : RGate σ3 b Fb' g') (t3 : Turn σ2 σ3 Fb Fb') (hok : g'.Ok) : W3 σ0 σ3 a b t B g' := by
  have hO1 := hO.turned 0 rfl t1
  have hO2 := hO1.idle s12
  have hO3 := hO2.turned 1 rfl t3
  have hO3' : Owns σ0 σ3 [Fa', Fb', [t]] := hO3
  have g1 : σ1.get t = some B := (t1.same.2 t (hO.lt 2 rfl _ (by simp)) (hO.off 2 0 (by omega) rfl rfl _ (by simp))).trans ht
  have g2 : σ2.get t = some B := (s12.2 t (hO1.lt 2 rfl _ (by simp)) (by simp)).trans g1
  exact ⟨⟨Fa', Fb', (hA.idle s12).same t3.same (hO2.off 0 1 (by omega) rfl rfl), hB, hO3', (t3.same.2 t (hO2.lt 2 rfl _ (by simp)) (hO2.off 2 1 (by omega) rfl rfl _ (by simp))).trans g2⟩, hok⟩

theorem tl_ok (L k n : Nat) (hL : 3 < L) {σ0 σ : St} {a b t : Nat} {B : Blk} {g : GS} (hW : W3 σ0 σ a b t B g) {er : Value} {f at_ : Int} (he : (er = .nilIface ∧ f = 0) ∨ (Err σ er f at_ ∧ (f = 1 ∨ f = 7 ∨ f = 9 ∨ f = 10))) (s0 : Option Addr) (s0n s0z : Nat) (s37 s38 : Int) :
    ∃ σ', W3 σ0 σ' a b t B g ∧ tl L (k + 3) n σ er f at_ s0 s0n s0z a 0 b 0 s37 s38 = lpAt Tryd.prog env L (k + 3) 4 [true, true, true, true, false, true] [] n [(0, .slice s0 s0n s0z), (5, .pointer (some ⟨a, 0, none⟩)), (6, .pointer (some ⟨b, 0, none⟩)), (37, .int .i64 s37), (38, .int .i64 (IntKind.wrap .i64 (s38 + 1)))] σ' := by
  unfold tl
  have fin : ∀ {σ' : St}, W3 σ0 σ' a b t B g → ∃ ad z, (∀ K : Value → Res, σ'.ld b (0 + 0) K = K (.int .i64 g.round)) ∧ (∀ K : Value → Res, σ'.ld b (0 + 3) K = K (.slice ad g.w.length z)) ∧ evCall Tryd.prog env L (k + 3) 12 [.pointer (some ⟨a, 0, none⟩)] σ' = some (.int .i64 g.round, σ') ∧ evCall Tryd.prog env L (k + 3) 23 [.pointer (some ⟨a, 0, none⟩)] σ' = some (.int .i64 g.w.length, σ') := by
    intro σ' h
    obtain ⟨Fa, Fb, h1, h2, _, _⟩ := h.ex
    obtain ⟨qs, ad, z, rfl, hne, hg, hrow⟩ := h2.ex
    exact ⟨ad, z, fun K => ld_at hg 0 _ rfl K, fun K => ld_at hg 3 _ rfl K, frozen_spec h1 L (k + 2), waiting_spec h1 L (k + 2)⟩
  rcases he with ⟨rfl, rfl⟩ | ⟨hE, hf⟩
  · obtain ⟨σ1, f1, s1⟩ := first_nil L k hL σ ⟨#[103, 97, 116, 101]⟩
    obtain ⟨σ2, f2, s2⟩ := code_nil L (k + 1) σ1
    have w2 := (hW.idle s1).idle s2
    obtain ⟨ad, z, r1, r2, r3, r4⟩ := fin w2
    refine ⟨σ2, w2, ?_⟩
    rw [f1, bnd_some, asT_t, toList2, uncons_c, asI_i, uncons_c, asB_b, endl_n, f2, bnd_some, asI_i, show ((0 : Int) != 0) = false from rfl, br_false, show (!false == false) = false from rfl, br_false, br_false, r3, bnd_some, asI_i, r1, asI_i, r1, asI_i, chk_same, show (g.round != g.round) = false by simp, br_false, r4, bnd_some, asI_i, r2, asSl_s, r2, asSl_s, chk_same, show ((g.w.length : Int) != (g.w.length : Int)) = false by simp, br_false]
  · obtain ⟨σ1, f1, s1⟩ := first_spec L k hL hE
    obtain ⟨σ2, f2, s2⟩ := code_spec L (k + 1) (hE.same s1)
    obtain ⟨σ3, f3, s3⟩ := code_spec L (k + 1) ((hE.same s1).same s2)
    have w3 := ((hW.idle s1).idle s2).idle s3
    obtain ⟨ad, z, r1, r2, r3, r4⟩ := fin w3
    refine ⟨σ3, w3, ?_⟩
    have hf0 : (f != 0) = true := by rcases hf with rfl | rfl | rfl | rfl <;> rfl
    rw [f1, bnd_some, asT_t, toList2, uncons_c, asI_i, uncons_c, asB_b, endl_n, f2, bnd_some, asI_i, show (f != f) = false by simp, br_false, hf0, show (!true == true) = false from rfl, br_false, br_true, show (at_ != at_) = false by simp, br_false, f3, bnd_some, asI_i, known_all L (k + 2) σ3 hf, bnd_some, asB_b, not_true, br_false, r3, bnd_some, asI_i, r1, asI_i, r1, asI_i, chk_same, show (g.round != g.round) = false by simp, br_false, r4, bnd_some, asI_i, r2, asSl_s, r2, asSl_s, chk_same, show ((g.w.length : Int) != (g.w.length : Int)) = false by simp, br_false]

theorem fcode_one (r t : Int) : fcode r t = 1 ∨ fcode r t = 7 ∨ fcode r t = 9 ∨ fcode r t = 10 := by
  unfold fcode
  repeat' split
  all_goals omega

theorem plays_loop (L k : Nat) (hL : 1000 < L) {σ0 : St} {ad0 : Option Addr} {sc : List Op} (hlen : sc.length ≤ 300) (hH : Holds σ0 6 c6 ad0 sc) {a b : Nat} : ∀ (n i : Nat) (σ : St) (g : GS) (Fa Fb : List Nat),
    i ≤ sc.length → sc.length - i < n → Gate σ a Fa g → RGate σ b Fb g → g.Ok → Owns σ0 σ [Fa, Fb] →
    ∃ σ9, lpAt Tryd.prog env L (k + 4) 4 [true, true, true, true, false, true] [] n [(0, .slice ad0 sc.length 0), (5, .pointer (some ⟨a, 0, none⟩)), (6, .pointer (some ⟨b, 0, none⟩)), (37, .int .i64 sc.length), (38, .int .i64 i)] σ = some (.bool true, σ9)
  | 0, i, σ, g, Fa, Fb, _, h, _, _, _, _ => by omega
  | n + 1, i, σ, g, Fa, Fb, hi, h, hA, hB, hok, hO => by
    rw [f4_l7]
    by_cases hie : i = sc.length
    · rw [decide_eq_false (by omega), br_false]
      exact ⟨σ, rfl⟩
    · have hget : sc[i]? = some sc[i] := List.getElem?_eq_getElem (by omega)
      obtain ⟨q0, e0, hlds⟩ := hH.lds hO.kept (fun _ => rfl) hget
      generalize sc[i] = o at hlds
      have hw : IntKind.wrap .i64 ((i : Int) + 1) = ((i + 1 : Nat) : Int) := by rw [wrap_in _ (by omega) (by omega)]; omega
      rw [decide_eq_true (by omega), br_true, need_of (by simp [inRange]; omega), e0, adr_some, hlds 0 6 (0 + (i : Int).toNat * 6) (by omega) (by simp), show ((c6 o).drop 0).take 6 = [.int .i64 o.kind.1, .int .i64 o.round.1, .int .i64 o.ticks.1, .int .i64 o.id.1, .int .i64 o.block.1, .string o.data.1] from rfl,
        uncons_c, asI_i, uncons_c, asI_i, uncons_c, asI_i, uncons_c, asI_i, uncons_c, asI_i, uncons_c, asS_s, endl_n]
      obtain ⟨kd, hkd⟩ := o.kind
      obtain ⟨rd, hrd⟩ := o.round
      obtain ⟨tk, htk⟩ := o.ticks
      obtain ⟨x, _⟩ := o.id
      obtain ⟨y, _⟩ := o.block
      obtain ⟨d, _⟩ := o.data
      dsimp only
      obtain ⟨σ1, hput, ht1, hs1, hn1⟩ := tmp_put σ [Value.int IntKind.i64 0, Value.int IntKind.i64 0, Value.int IntKind.i64 0, Value.int IntKind.i64 0, Value.int IntKind.i64 0, Value.string { data := #[] }] [Value.int IntKind.i64 kd, Value.int IntKind.i64 rd, Value.int IntKind.i64 tk, Value.int IntKind.i64 x, Value.int IntKind.i64 y, Value.string d] 48 rfl rfl
      rw [hput]
      have hO1 : Owns σ0 σ1 [Fa, Fb, [σ.next]] := (hO.more hs1 (F := [σ.next]) (fun q hq => by simp at hq; subst hq; omega)).pick [1, 2, 0] (by decide)
      have hA1 := hA.idle hs1
      have hB1 := hB.idle hs1
      generalize hC : Blk.own [Value.int IntKind.i64 kd, Value.int IntKind.i64 rd, Value.int IntKind.i64 tk, Value.int IntKind.i64 x, Value.int IntKind.i64 y, Value.string d] 48 = C at ht1
      have r0 : ∀ {σ' : St}, σ'.get σ.next = some C → ∀ K : Value → Res, σ'.ld σ.next 0 K = K (.int .i64 kd) := fun h K => by rw [← hC] at h; exact ld_own K h rfl
      have r1 : ∀ {σ' : St}, σ'.get σ.next = some C → ∀ K : Value → Res, σ'.ld σ.next 1 K = K (.int .i64 rd) := fun h K => by rw [← hC] at h; exact ld_own K h rfl
      have r2 : ∀ {σ' : St}, σ'.get σ.next = some C → ∀ K : Value → Res, σ'.ld σ.next 2 K = K (.int .i64 tk) := fun h K => by rw [← hC] at h; exact ld_own K h rfl
      have r3 : ∀ {σ' : St}, σ'.get σ.next = some C → ∀ K : List Value → Res, σ'.lds σ.next 3 3 K = K [.int .i64 x, .int .i64 y, .string d] := fun h K => by rw [← hC] at h; exact lds_own K h (by simp)
      have go : ∀ (σ2 : St) (g' : GS) (er : Value) (f at_ : Int), W3 σ0 σ2 a b σ.next C g' → ((er = .nilIface ∧ f = 0) ∨ (Err σ2 er f at_ ∧ (f = 1 ∨ f = 7 ∨ f = 9 ∨ f = 10))) →
          ∃ σ9, tl L (k + 4) n σ2 er f at_ (some ⟨q0, 0, none⟩) sc.length 0 a 0 b 0 sc.length i = some (.bool true, σ9) := by
        intro σ2 g' er f at_ hW he
        obtain ⟨σ3, hW3, e⟩ := tl_ok L (k + 1) n (by omega) hW he (some ⟨q0, 0, none⟩) sc.length 0 sc.length i
        obtain ⟨xa, xb, y1, y2, y3, _⟩ := hW3.ex
        rw [e, hw, ← e0]
        exact plays_loop L k hL hlen hH n (i + 1) σ3 g' xa xb (by omega) (by omega) y1 y2 hW3.ok (y3.pick [0, 1] (by decide))
      have base : W3 σ0 σ1 a b σ.next C g := ⟨⟨Fa, Fb, hA1, hB1, hO1, ht1⟩, hok⟩
      rw [r1 ht1, asI_i, r0 ht1, asI_i]
      by_cases k1 : kd = 1
      · rw [k1, show ((1 : Int) == 1) = true from rfl, br_true, r1 ht1, asI_i, r2 ht1, asI_i]
        rcases freeze_spec hA1 L (k + 1) rd tk with ⟨g', σ2, e2, g2, hA2, hT2⟩ | ⟨v, σ2, e2, g2, hE2, hs2⟩
        · have hok2 := (hok.freeze htk.2 e2).1
          have hB2 := hB1.same hT2.same (hO1.off 1 0 (by omega) rfl rfl)
          have ht2 : σ2.get σ.next = some C := (hT2.same.2 _ (hO1.lt 2 rfl _ (by simp)) (hO1.off 2 0 (by omega) rfl rfl _ (by simp))).trans ht1
          rcases rfreeze_spec hB2 L (k + 3) rd tk with ⟨g'', σ3, e3, g3, hB3, hT3⟩ | ⟨e3, _⟩
          · rw [e2] at e3; cases e3
            rw [g2, bnd_some, r1 ht2, asI_i, r1 ht1, asI_i, chk_same, r2 ht2, asI_i, r2 ht1, asI_i, chk_same, g3, bnd_some, asI_i]
            exact go σ3 g' .nilIface 0 rd (W3.turn hO1 ht1 hA2 hT2 (Same.refl _ _) hB3 hT3 hok2) (.inl ⟨rfl, rfl⟩)
          · rw [e2] at e3; cases e3
        · have hB2 := hB1.idle hs2
          have ht2 : σ2.get σ.next = some C := (hs2.2 _ (hO1.lt 2 rfl _ (by simp)) (by simp)).trans ht1
          rcases rfreeze_spec hB2 L (k + 3) rd tk with ⟨g'', σ3, e3, g3, hB3, hT3⟩ | ⟨e3, g3⟩
          · rw [e2] at e3; cases e3
          · rw [g2, bnd_some, r1 ht2, asI_i, r1 ht1, asI_i, chk_same, r2 ht2, asI_i, r2 ht1, asI_i, chk_same, g3, bnd_some, asI_i]
            exact go σ2 g v (fcode rd tk) rd (base.idle hs2) (.inr ⟨hE2, fcode_one rd tk⟩)
      rw [show (kd == 1) = false by simpa using k1, br_false]
      by_cases k2 : kd = 2
      · rw [k2, show ((2 : Int) == 2) = true from rfl, br_true, r1 ht1, asI_i]
        rcases thaw_spec hA1 L (k + 1) rd with ⟨ad, z, qo, σ2, e2, g2, hA2, hR2, hT2, hq2⟩ | ⟨v, σ2, e2, g2, hE2, hs2⟩
        · have hB2 := hB1.same hT2.same (hO1.off 1 0 (by omega) rfl rfl)
          have ht2 : σ2.get σ.next = some C := (hT2.same.2 _ (hO1.lt 2 rfl _ (by simp)) (hO1.off 2 0 (by omega) rfl rfl _ (by simp))).trans ht1
          rcases rthaw_spec hB2 L (k + 2) rd with ⟨ad3, z3, q3, σ3, e3, g3, hB3, hR3, hT3⟩ | ⟨e3, _⟩
          · have hR3' := hR2.same hT3.same (fun q hq => hO1.off 0 1 (by omega) rfl rfl q (hq2 q hq))
            have hl := hok.few
            obtain ⟨ad4, z4, q4, σ4, g4, hR4, hs4, hq4⟩ := conv_spec L (k + 3) hR3' (by omega) (by omega)
            have h5 := same_calls L (k + 3) hR4 (hR3.same hs4 (by simp)) (by omega) (by omega)
            rw [g2, bnd_some, asT_t, toList2, uncons_c, asSl_s, uncons_c, endl_n, r1 ht2, asI_i, g3, bnd_some, asT_t, toList2, uncons_c, asSl_s, uncons_c, asI_i, endl_n, g4, bnd_some, asSl_s, h5, bnd_some, asB_b, not_true, br_false]
            exact go σ4 g.open .nilIface 0 rd ((W3.turn hO1 ht1 hA2 hT2 (Same.refl _ _) hB3 hT3 hok.open).idle hs4) (.inl ⟨rfl, rfl⟩)
          · rw [e2] at e3; cases e3
        · have hB2 := hB1.idle hs2
          have ht2 : σ2.get σ.next = some C := (hs2.2 _ (hO1.lt 2 rfl _ (by simp)) (by simp)).trans ht1
          rcases rthaw_spec hB2 L (k + 2) rd with ⟨ad3, z3, q3, σ3, e3, g3, hB3, hR3, hT3⟩ | ⟨e3, g3⟩
          · rw [e2] at e3; cases e3
          · obtain ⟨ad4, z4, q4, σ4, g4, hR4, hs4, hq4⟩ := conv_spec L (k + 3) (Row.nil c3 3 56 σ2) (by simp) (by simp; omega)
            have h5 := same_calls L (k + 3) hR4 (Row.nil c3 3 46 σ4) (by simp) (by simp; omega)
            have g4' : evCall Tryd.prog env L (k + 4) 17 [.slice none 0 0] σ2 = some (.slice ad4 0 z4, σ4) := g4
            have h5' : evCall Tryd.prog env L (k + 4) 16 [.slice ad4 0 z4, .slice none 0 0] σ4 = some (.bool true, σ4) := h5
            rw [g2, bnd_some, asT_t, toList2, uncons_c, asSl_s, uncons_c, endl_n, r1 ht2, asI_i, g3, bnd_some, asT_t, toList2, uncons_c, asSl_s, uncons_c, asI_i, endl_n, g4', bnd_some, asSl_s, h5', bnd_some, asB_b, not_true, br_false]
            exact go σ4 g v 9 rd ((base.idle hs2).idle hs4) (.inr ⟨hE2.same hs4, by simp⟩)
      rw [show (kd == 2) = false by simpa using k2, br_false]
      by_cases k3 : kd = 3
      · have hbr : ∀ K : Value → Res, σ1.ld b (0 + 0) K = K (.int .i64 g.round) := fun K => by obtain ⟨qs, ad, z, rfl, hne, hg, hrow⟩ := hB1.ex; exact ld_at hg 0 _ rfl K
        rw [k3, show ((3 : Int) == 3) = true from rfl, br_true, hbr, asI_i, r3 ht1, uncons_c, asI_i, uncons_c, asI_i, uncons_c, asS_s, endl_n]
        have eC : (Value.agg #[Value.int .i64 x, Value.int .i64 y, Value.string d]) = Cal.agg ⟨x, y, d⟩ := rfl
        rw [eC]
        rcases enter_spec hA1 L (k + 1) hok ⟨x, y, d⟩ with ⟨e2, σ2, g2, hs2⟩ | ⟨e2, e2', v, σ2, g2, hE2, hs2⟩ | ⟨e2, e2', σ2, F2, g2, hA2, hT2⟩
        · have hB2 := hB1.idle hs2
          have ht2 : σ2.get σ.next = some C := (hs2.2 _ (hO1.lt 2 rfl _ (by simp)) (by simp)).trans ht1
          rcases renter_spec hB2 L (k + 3) hok ⟨x, y, d⟩ with ⟨e3, σ3, g3, hs3⟩ | ⟨e3, e3', _⟩ | ⟨e3, e3', _⟩
          · rw [g2, bnd_some, asT_t, toList2, uncons_c, asB_b, uncons_c, endl_n, r3 ht2, uncons_c, asI_i, uncons_c, asI_i, uncons_c, asS_s, endl_n, eC, g3, bnd_some, asT_t, toList2, uncons_c, asB_b, uncons_c, asI_i, endl_n, show (!true == true) = false from rfl, br_false]
            exact go σ3 g .nilIface 0 g.round ((base.idle hs2).idle hs3) (.inl ⟨rfl, rfl⟩)
          · exact absurd e2 e3
          · exact absurd e2 e3
        · have hB2 := hB1.idle hs2
          have ht2 : σ2.get σ.next = some C := (hs2.2 _ (hO1.lt 2 rfl _ (by simp)) (by simp)).trans ht1
          rcases renter_spec hB2 L (k + 3) hok ⟨x, y, d⟩ with ⟨e3, _⟩ | ⟨e3, e3', σ3, g3, hs3⟩ | ⟨e3, e3', _⟩
          · exact absurd e3 e2
          · rw [g2, bnd_some, asT_t, toList2, uncons_c, asB_b, uncons_c, endl_n, r3 ht2, uncons_c, asI_i, uncons_c, asI_i, uncons_c, asS_s, endl_n, eC, g3, bnd_some, asT_t, toList2, uncons_c, asB_b, uncons_c, asI_i, endl_n, show (!false == false) = false from rfl, br_false]
            exact go σ3 g v 7 g.round ((base.idle hs2).idle hs3) (.inr ⟨hE2.same hs3, by simp⟩)
          · omega
        · have hB2 := hB1.same hT2.same (hO1.off 1 0 (by omega) rfl rfl)
          have ht2 : σ2.get σ.next = some C := (hT2.same.2 _ (hO1.lt 2 rfl _ (by simp)) (hO1.off 2 0 (by omega) rfl rfl _ (by simp))).trans ht1
          rcases renter_spec hB2 L (k + 3) hok ⟨x, y, d⟩ with ⟨e3, _⟩ | ⟨e3, e3', σ3, g3, hs3⟩ | ⟨e3, e3', σ3, F3, g3, hB3, hT3⟩
          · exact absurd e3 e2
          · omega
          · have hok3 : GS.Ok ⟨g.round, g.left, g.latest, g.w ++ [⟨x, y, d⟩]⟩ := ⟨fun h0 => absurd h0 e2, by simp; omega, hok.left, hok.left1, hok.round, hok.late, hok.latest⟩
            rw [g2, bnd_some, asT_t, toList2, uncons_c, asB_b, uncons_c, endl_n, r3 ht2, uncons_c, asI_i, uncons_c, asI_i, uncons_c, asS_s, endl_n, eC, g3, bnd_some, asT_t, toList2, uncons_c, asB_b, uncons_c, asI_i, endl_n, show (!false == false) = false from rfl, br_false]
            exact go σ3 _ .nilIface 0 g.round (W3.turn hO1 ht1 hA2 hT2 (Same.refl _ _) hB3 hT3 hok3) (.inl ⟨rfl, rfl⟩)
      rw [show (kd == 3) = false by simpa using k3, br_false]
      by_cases k4 : kd = 4
      · rw [k4, show ((4 : Int) == 4) = true from rfl, br_true]
        obtain ⟨ad, z, qo, σ2, F2, g2, hA2, hR2, hT2, hq2⟩ := tick_spec hA1 L (k + 2) hok
        have hl : g.tick.2.length ≤ 4 := by
          have := hok.few
          unfold GS.tick
          repeat' split
          · simp
          · simp
          · exact this
        have hO2 := hO1.turned 0 rfl hT2
        obtain ⟨ad3, z3, q3, σ3, g3, hR3, hs3, hq3⟩ := conv_spec L (k + 3) hR2 (by omega) (by omega)
        have hB3 := (hB1.same hT2.same (hO1.off 1 0 (by omega) rfl rfl)).idle hs3
        obtain ⟨ad4, z4, q4, σ4, F4, g4, hB4, hR4, hT4⟩ := rtick_spec hB3 L (k + 2) hok
        have hO3 := hO2.idle hs3
        have h5 := same_calls L (k + 3) (hR3.same hT4.same (fun q hq hF => by have := hq3 q hq; have := hO2.lt 1 rfl q hF; omega)) hR4 (by omega) (by omega)
        rw [g2, bnd_some, asSl_s, g3, bnd_some, asSl_s, g4, bnd_some, asSl_s, h5, bnd_some, asB_b, not_true, br_false]
        exact go σ4 _ .nilIface 0 rd (W3.turn hO1 ht1 hA2 hT2 hs3 hB4 hT4 hok.tick) (.inl ⟨rfl, rfl⟩)
      · rw [show (kd == 4) = false by simpa using k4, br_false]
        exact go σ1 g .nilIface 0 rd base (.inl ⟨rfl, rfl⟩)

theorem rnew (σ : St) : RGate (σ.new (.own [.int .i64 0, .int .i64 0, .int .i64 0, .slice none 0 0] 42)) σ.next [σ.next] ⟨0, 0, 0, []⟩ :=
  ⟨⟨[], none, 0, rfl, by simp, by rw [get_new_same]; rfl, Row.nil _ _ _ _⟩, by simp⟩
theorem zgate (σ : St) : Gate (σ.new (.own [.int .i64 0, .int .i64 0, .int .i64 0, .slice none 0 0] 44)) σ.next [σ.next] ⟨0, 0, 0, []⟩ :=
  ⟨⟨[], none, 0, rfl, by simp, by rw [get_new_same]; rfl, Row.nil _ _ _ _⟩, by simp⟩
theorem plays_holds (L k : Nat) (hL : 1000 < L) {σ0 : St} {ad0 : Option Addr} {sc : List Op} (hH : Holds σ0 6 c6 ad0 sc) (zero : Bool) : ∃ σ', evCall Tryd.prog env L (k + 5) 4 [.slice ad0 sc.length 0, .bool zero] σ0 = some (.bool true, σ') := by
  rw [f4_eq]
  have hend : ∀ σ2, ∃ σ', (bnd (evCall Tryd.prog env L (k + 4) 6 [] σ2) fun v10 v11 => asB v10 fun v12 => some (Value.bool v12, v11)) = some (.bool true, σ') := by
    intro σ2
    obtain ⟨σ3, g3, _⟩ := awake_spec L k σ2
    rw [g3, bnd_some, asB_b]; exact ⟨σ3, rfl⟩
  obtain ⟨σ2, g2, hs2⟩ := awake_spec L k σ0
  have hO2 := (Owns.start σ0).idle hs2
  rw [g2, bnd_some, asB_b, not_true, br_false]
  obtain ⟨b, g3, hb⟩ := few_spec L (k + 3) (by omega) hH hO2.kept
  rw [g3, bnd_some, asB_b]
  cases b with
  | false => rw [not_false, br_true]; exact hend σ2
  | true =>
  rw [not_true, br_false]
  obtain ⟨σ3, g4, hG3, hs3⟩ := new_spec L (k + 3) σ2
  rw [g4, bnd_some, asP_p]
  have hok0 : GS.Ok ⟨0, 0, 0, []⟩ := ⟨fun _ => rfl, by simp, by simp, by simp, by simp, by simp, by simp⟩
  have hO3 : Owns σ0 σ3 [[σ2.next]] := hO2.more hs3 (fun q hq => by simp at hq; subst hq; exact ⟨Nat.le_refl _, hG3.lt _ (by simp)⟩)
  have hB4 := rnew σ3
  have hs4 : Same σ3 (σ3.new (.own [.int .i64 0, .int .i64 0, .int .i64 0, .slice none 0 0] 42)) [] := Same.new _ _ _
  have hn4 : (σ3.new (.own [.int .i64 0, .int .i64 0, .int .i64 0, .slice none 0 0] 42)).next = σ3.next + 1 := rfl
  generalize σ3.new (.own [.int .i64 0, .int .i64 0, .int .i64 0, .slice none 0 0] 42) = σ4 at hB4 hs4 hn4
  have hO4 : Owns σ0 σ4 [[σ3.next], [σ2.next]] := hO3.more hs4 (fun q hq => by simp at hq; subst hq; omega)
  cases zero with
  | false =>
    rw [br_false]
    exact plays_loop L k hL (hb rfl) hH L 0 σ4 _ _ _ (by omega) (by have := hb rfl; omega) (hG3.idle hs4) hB4 hok0 (hO4.pick [1, 0] (by decide))
  | true =>
    rw [br_true]
    have hA5 := zgate σ4
    have hs5 : Same σ4 (σ4.new (.own [.int .i64 0, .int .i64 0, .int .i64 0, .slice none 0 0] 44)) [] := Same.new _ _ _
    have hn5 : (σ4.new (.own [.int .i64 0, .int .i64 0, .int .i64 0, .slice none 0 0] 44)).next = σ4.next + 1 := rfl
    generalize σ4.new (.own [.int .i64 0, .int .i64 0, .int .i64 0, .slice none 0 0] 44) = σ5 at hA5 hs5 hn5
    have hO5 : Owns σ0 σ5 [[σ4.next], [σ3.next], [σ2.next]] := hO4.more hs5 (fun q hq => by simp at hq; subst hq; omega)
    exact plays_loop L k hL (hb rfl) hH L 0 σ5 _ _ _ (by omega) (by have := hb rfl; omega) hA5 (hB4.idle hs5) hok0 (hO5.pick [0, 1] (by decide))
end Go.AM.Gp
