/-
  Texts laid together: BpMb, BpZc, BpZd, BpZe, BpZf, BpZg, BpZh, BpZi, BpTw, BpCu, BpCv.
-/
import Derived.Test.YtnihjgamfnabnaaBpRg
import Derived.Test.YtnihjgamfnabnaaAm13g
import Derived.Test.YtnihjgamfnabnaaEqBp
set_option linter.unusedVariables false
set_option linter.unusedSimpArgs false
set_option linter.unusedSectionVars false
/-
  THE BACKUP: New; what awake asks.
-/
namespace Go.AM.Bp
open Go.Proofs

/-- Of a node: its block. -/
def ndc (d m a0 a1 a2 a3 g : Nat) (mark : Int) : List Value := [ptr d, ptr m, ptr a0, ptr a1, ptr a2, ptr a3, ptr g, .int .i64 mark]

theorem bnew_img (L k : Nat) (hL : 100000 < L) {σ0 σ σ1 : St} {d g m : Nat} {s : IS} {R : List (List Nat)} (hw : s.work = none) (g1 : evCall Try.prog env L (k + 10) 26 [ptr d] σ = some (.tuple #[ptr m, .nilIface], σ1)) (hI1 : ImS σ0 σ1 m d s R) (k1 : ∀ H ∈ R, ∀ q ∈ H, σ1.get q = σ.get q) :
    ∃ nd a0 a1 a2 a3 σ', evCall Try.prog env L (k + 11) 8 [ptr d, ptr g] σ = some (.tuple #[ptr nd, .nilIface], σ') ∧ ImS σ0 σ' m d s ([a3] :: [a2] :: [a1] :: [a0] :: [nd] :: R) ∧ σ'.get nd = some (.own (ndc d m a0 a1 a2 a3 g 0) 82) ∧
      S.Stg σ' a0 [a0] 1 [] 0 0 ∧ S.Stg σ' a1 [a1] 1 [] 0 0 ∧ S.Stg σ' a2 [a2] 1 [] 0 0 ∧ S.Stg σ' a3 [a3] 1 [] 0 0 ∧ (∀ H ∈ R, ∀ q ∈ H, σ'.get q = σ.get q) := by
  obtain ⟨L', rfl⟩ : ∃ L', L = L' + 5 := ⟨L - 5, by omega⟩
  rw [f8_eq, g1, bnd_some, asT_t, toList2, uncons_c, asP_p, uncons_c, endl_n, eqNil_nil, not_true, br_false, need_true, need_true]
  have s2 : Same σ1 (σ1.new (.own [ptr d, ptr m, .pointer none, .pointer none, .pointer none, .pointer none, ptr g, .int .i64 0] 82)) [] := Same.new _ _ _
  have g2 : (σ1.new (.own [ptr d, ptr m, .pointer none, .pointer none, .pointer none, .pointer none, ptr g, .int .i64 0] 82)).get σ1.next = some (.own [ptr d, ptr m, .pointer none, .pointer none, .pointer none, .pointer none, ptr g, .int .i64 0] 82) := get_new_same _ _
  have n2 : (σ1.new (.own [ptr d, ptr m, .pointer none, .pointer none, .pointer none, .pointer none, ptr g, .int .i64 0] 82)).next = σ1.next + 1 := rfl
  have hI2 := hI1.push (X := [σ1.next]) hw s2 (by simp [n2])
  have e0 : ∀ K : Res → Res, K (lpAt Try.prog env (L' + 5) (k + 10) 8 [true, true, true, true, false, true] [] (L' + 5) [(8, .pointer (some ⟨σ1.next, 0, none⟩)), (24, .int .i64 0)] (σ1.new (.own [ptr d, ptr m, .pointer none, .pointer none, .pointer none, .pointer none, ptr g, .int .i64 0] 82))) = K (lpAt Try.prog env (L' + 5) (k + 10) 8 [true, true, true, true, false, true] [] (L' + 5) [(8, ptr σ1.next), (24, .int .i64 ((0 : Nat) : Int))] (σ1.new (.own [ptr d, ptr m, .pointer none, .pointer none, .pointer none, .pointer none, ptr g, .int .i64 0] 82))) := fun _ => rfl
  show ∃ nd a0 a1 a2 a3 σ', lpAt Try.prog env (L' + 5) (k + 10) 8 [true, true, true, true, false, true] [] (L' + 5) [(8, ptr σ1.next), (24, .int .i64 ((0 : Nat) : Int))] (σ1.new (.own [ptr d, ptr m, .pointer none, .pointer none, .pointer none, .pointer none, ptr g, .int .i64 0] 82)) = _ ∧ _
  clear e0
  generalize σ1.new (.own [ptr d, ptr m, .pointer none, .pointer none, .pointer none, .pointer none, ptr g, .int .i64 0] 82) = σ2 at s2 g2 n2 hI2
  obtain ⟨a0, σ3, e3, hI3, g3, hS0, t3, l3⟩ := stage_step (L' + 5) (k + 9) (L' + 4) (j := 0) (i := 0) hI2 hw rfl g2 rfl (by omega)
  obtain ⟨a1, σ4, e4, hI4, g4, hS1, t4, l4⟩ := stage_step (L' + 5) (k + 9) (L' + 3) (j := 1) (i := 1) hI3 hw rfl g3 rfl (by omega)
  obtain ⟨a2, σ5, e5, hI5, g5, hS2, t5, l5⟩ := stage_step (L' + 5) (k + 9) (L' + 2) (j := 2) (i := 2) hI4 hw rfl g4 rfl (by omega)
  obtain ⟨a3, σ6, e6, hI6, g6, hS3, t6, l6⟩ := stage_step (L' + 5) (k + 9) (L' + 1) (j := 3) (i := 3) hI5 hw rfl g5 rfl (by omega)
  have h3 := t3.1; have h4 := t4.1; have h5 := t5.1
  have e7 : lpAt Try.prog env (L' + 5) (k + 10) 8 [true, true, true, true, false, true] [] (L' + 1) [(8, ptr σ1.next), (24, .int .i64 ((3 + 1 : Nat) : Int))] σ6 = some (.tuple #[ptr σ1.next, .nilIface], σ6) := by
    rw [f8_l6, decide_eq_false (by decide), br_false]
  refine ⟨σ1.next, a0, a1, a2, a3, σ6, e3.trans (e4.trans (e5.trans (e6.trans e7))), hI6, g6, ((hS0.same t4 (by simp; omega)).same t5 (by simp; omega)).same t6 (by simp; omega), (hS1.same t5 (by simp; omega)).same t6 (by simp; omega), hS2.same t6 (by simp; omega), hS3, fun H hH q hq => ?_⟩
  have hq1 := hI1.lt hH q hq
  have ht : Same σ2 σ6 [σ1.next] := ((t3.trans t4).trans t5).trans t6
  rw [ht.2 q (by omega) (by simp; omega), s2.2 q hq1 (by simp)]
  exact k1 H hH q hq

theorem bnew_spec (L k : Nat) (hL : 100000 < L) {σ0 σ : St} {d g : Nat} {F : List Nat} {R : List (List Nat)} (hD : D.Disk σ d F fresh66 []) (hO : Owns σ0 σ (F :: R)) :
    ∃ nd m a0 a1 a2 a3 σ', evCall Try.prog env L (k + 11) 8 [ptr d, ptr g] σ = some (.tuple #[ptr nd, .nilIface], σ') ∧ ImS σ0 σ' m d ⟨fresh66, [], 0, 0, noBlocks, none⟩ ([a3] :: [a2] :: [a1] :: [a0] :: [nd] :: R) ∧ σ'.get nd = some (.own (ndc d m a0 a1 a2 a3 g 0) 82) ∧
      S.Stg σ' a0 [a0] 1 [] 0 0 ∧ S.Stg σ' a1 [a1] 1 [] 0 0 ∧ S.Stg σ' a2 [a2] 1 [] 0 0 ∧ S.Stg σ' a3 [a3] 1 [] 0 0 ∧ (∀ H ∈ R, ∀ q ∈ H, σ'.get q = σ.get q) := by
  obtain ⟨m, σ1, g1, hI1, k1, hinv⟩ := openGood hD hO (by unfold fresh66; simp) L k hL good66 (by omega)
  obtain ⟨nd, a0, a1, a2, a3, σ', h⟩ := bnew_img L k hL (g := g) rfl g1 hI1 k1
  exact ⟨nd, m, a0, a1, a2, a3, σ', h⟩

/-- Take: a marker, at the first stage. -/
theorem btake_spec (L k : Nat) {σ : St} {d m a0 a1 a2 a3 g nd : Nat} (hn : σ.get nd = some (.own (ndc d m a0 a1 a2 a3 g 0) 82)) (hlt : nd < σ.next) (hS : S.Stg σ a0 [a0] 1 [] 0 0) (hne : nd ≠ a0) :
    ∃ F' σ', evCall Try.prog env L (k + 4) 10 [ptr nd, .int .i64 0, .agg #[.int .i64 1, .int .i64 2, .int .i64 0, .string ⟨#[]⟩, .int .i64 4]] σ = some (.tuple #[.int .i64 1, .nilIface], σ') ∧ S.Stg σ' a0 F' 1 [⟨1, 2, 0, ⟨#[]⟩, 4⟩] 1 0 ∧ Turn σ σ' [a0] F' := by
  have e := f10_eq L (k + 3) σ nd 0 1 2 0 ⟨#[]⟩ 4
  have s1 : Same σ (σ.new (.own [.int .i64 1, .int .i64 2, .int .i64 0, .string ⟨#[]⟩, .int .i64 4] 40)) [] := Same.new _ _ _
  have g1 : (σ.new (.own [.int .i64 1, .int .i64 2, .int .i64 0, .string ⟨#[]⟩, .int .i64 4] 40)).get σ.next = some (.own [.int .i64 1, .int .i64 2, .int .i64 0, .string ⟨#[]⟩, .int .i64 4] 40) := get_new_same _ _
  generalize σ.new (.own [.int .i64 1, .int .i64 2, .int .i64 0, .string ⟨#[]⟩, .int .i64 4] 40) = σ1 at s1 g1 e
  have hn1 : σ1.get nd = _ := (s1.2 nd hlt (by simp)).trans hn
  have i0 : inRange 0 4 = true := rfl
  obtain ⟨v, σ2, g2, F', rfl, hS2, hT2⟩ := S.take_mark (hS.idle s1) L k (by omega) (by omega) (by simp) (Nat.le_refl _) 4 (by omega) (by omega)
  have g2' : evCall Try.prog env L (k + 3) 29 [.pointer (some ⟨a0, 0, none⟩), .agg #[.int .i64 1, .int .i64 2, .int .i64 0, .string ⟨#[]⟩, .int .i64 4]] σ1 = some (.int .i64 1, σ2) := g2
  have hn2 : σ2.get nd = _ := (hT2.same.2 nd (by have := s1.1; omega) (by simpa using hne)).trans hn1
  obtain ⟨σ3, g3, hS3, hT3⟩ := S.sflush_spec hS2 L (k + 2)
  rw [decide_eq_false (by decide), br_false, decide_eq_false (by decide), br_false, need_of i0, ld_at hn1 (2 + Int.toNat 0 * 1) (ptr a0) rfl, asP_p, lds_all (n := 5) g1 rfl, uncons_c, asI_i, uncons_c, asI_i, uncons_c, asI_i, uncons_c, asS_s, uncons_c, asI_i, endl_n, g2', bnd_some, asI_i, need_of i0, ld_at hn2 (2 + Int.toNat 0 * 1) (ptr a0) rfl, asP_p, g3, bnd_some, asT_t, toList0, endl_n] at e
  exact ⟨F', σ3, e, hS3, (Turn.before s1 hT2 (fun q hq => hS.lt q hq)).trans hT3⟩

/-- The marker can be applied. -/
theorem can_spec (L k : Nat) (hL : 100000 < L) {σ : St} {d m a0 a1 a2 a3 g nd : Nat} {F0 : List Nat} {t : Int} {bl : List ByteArray} {w : Option Addr} (hn : σ.get nd = some (.own (ndc d m a0 a1 a2 a3 g 0) 82)) (hlt : nd < σ.next) (hg : σ.get g = some (.own [.bool true, .bool false, .bool false, .bool false, .slice none 0 0] 71)) (hgl : g < σ.next)
    (hS : S.Stg σ a0 F0 1 [⟨1, 2, 0, ⟨#[]⟩, 4⟩] 1 0) (hI : Img σ m d t 0 bl w) : ∃ σ', evCall Try.prog env L (k + 4) 39 [ptr nd, .int .i64 4] σ = some (.bool true, σ') ∧ Same σ σ' [] := by
  obtain ⟨L', rfl⟩ : ∃ L', L = L' + 2 := ⟨L - 2, by omega⟩
  obtain ⟨ad, z, q, σ1, g1, hR, hq, s1⟩ := at_spec (L' + 2) (k + 1) (by omega) hg hgl 4
  have hn1 : σ1.get nd = _ := (s1.2 nd hlt (by simp)).trans hn
  obtain ⟨p, e, hat⟩ := hR.at (fun _ => rfl) (i := 0) (a := (0 : Int)) rfl
  subst e
  have i1 : inRange 0 ((1 : Nat) : Int) = true := rfl
  have i4 : inRange 0 4 = true := rfl
  rw [f39_eq, ld_at hn 6 (ptr g) rfl, asP_p, g1, bnd_some, asSl_s, f39_l3, decide_eq_true (by decide), br_true, need_of i1, adr_some, hat 0 (.int .i64 0) (0 + Int.toNat 0 * 1) (by omega) rfl rfl, asI_i, need_of i4, ld_at hn1 (0 + 2 + Int.toNat 0 * 1) (ptr a0) rfl, asP_p]
  rcases S.upto_spec (hS.idle s1) (L' + 2) k (by omega) (by simp) (by simp) 4 with ⟨j, r, ad2, z2, q2, σ2, g2, _, s2, _⟩ | ⟨σ2, _, _, hno⟩
  rotate_left
  · exact absurd ⟨rfl, rfl⟩ (hno ⟨1, 2, 0, ⟨#[]⟩, 4⟩ (by simp))
  have s12 := s1.trans s2
  have hn2 : σ2.get nd = _ := (s2.2 nd (by have := s1.1; omega) (by simp)).trans hn1
  have hm := mark_spec (hI.same s12 (by simp)) (L' + 2) (k + 2)
  rw [g2, bnd_some, asT_t, toList2, uncons_c, asSl_s, uncons_c, asB_b, endl_n, not_true, br_false, show IntKind.wrap .i64 ((0 : Int) + 1) = 1 from rfl, f39_l3, decide_eq_false (by decide), br_false, ld_at hn2 (0 + 1) (ptr m) rfl, asP_p, hm, bnd_some, asI_i, decide_eq_true (by decide), br_true]
  exact ⟨σ2, rfl, s12⟩

/-- A stage without markers adds nothing. -/
theorem ready_none (L k n : Nat) (hL : 10 < L) {σ : St} {nd a : Nat} {s3 : Int} {p0 p1 p2 p3 : Option Addr} {i : Int} {F : List Nat} (hi : 0 ≤ i ∧ i < 4) (hnth : ∀ K : Value → Res, nth [Value.pointer p0, Value.pointer p1, Value.pointer p2, Value.pointer p3] (Int.toNat i * 1) K = K (ptr a)) (hS : S.Stg σ a F 1 [] 0 0) :
    ∃ σ', lpAt Try.prog env L (k + 2) 16 [true, true, true, false, true] [] (n + 1) [(0, ptr nd), (3, .int .i64 s3), (13, .agg [.pointer p0, .pointer p1, .pointer p2, .pointer p3].toArray), (14, .int .i64 i)] σ =
      lpAt Try.prog env L (k + 2) 16 [true, true, true, false, true] [] n [(0, ptr nd), (3, .int .i64 s3), (13, .agg [.pointer p0, .pointer p1, .pointer p2, .pointer p3].toArray), (14, .int .i64 (i + 1))] σ' ∧ Same σ σ' [] := by
  obtain ⟨L', rfl⟩ : ∃ L', L = L' + 1 := ⟨L - 1, by omega⟩
  obtain ⟨v, σ1, g1, ad, z, q, rfl, hR, s1, _⟩ := S.marks_spec hS (L' + 1) k (by simp) (by simp) (Nat.le_refl _)
  have hw : IntKind.wrap .i64 (i + 1) = i + 1 := wrap_in _ (by omega) (by omega)
  rw [f16_l5, decide_eq_true hi.2, br_true, need_of (by simp [inRange]; omega), hnth, asP_p, g1, bnd_some, asSl_s, f16_l8, decide_eq_false (by decide), br_false, hw]
  exact ⟨σ1, rfl, s1⟩

theorem awake_spec (L k : Nat) (hL : 100000 < L) (σ : St) : ∃ σ', evCall Try.prog env L (k + 12) 6 [] σ = some (.bool true, σ') ∧ Same σ σ' [] := by
  obtain ⟨L', rfl⟩ : ∃ L', L = L' + 6 := ⟨L - 6, by omega⟩
  have s1 : Same σ (σ.new (.own [.int .i64 0] 3)) [] := Same.new _ _ _
  have g1 : (σ.new (.own [.int .i64 0] 3)).get σ.next = some (.own [.int .i64 0] 3) := get_new_same _ _
  have n1 : (σ.new (.own [.int .i64 0] 3)).next = σ.next + 1 := rfl
  rw [f6_eq]
  generalize σ.new (.own [.int .i64 0] 3) = σ1 at s1 g1 n1
  obtain ⟨g, σ2, e2, hg2, s2, hgl, hgl2⟩ := zero_spec (L' + 6) (k + 9) (by omega) g1 (by omega)
  have hO2 : Owns σ σ2 [[g]] := ((Owns.start σ).idle s1).more s2 (by simp; omega)
  obtain ⟨d, F, σ3, e3, hD3, hO3, s3⟩ := new66 (L' + 6) (k + 10) hO2
  obtain ⟨nd, m, a0, a1, a2, a3, σ4, e4, hI4, hn4, hS0, hS1, hS2, hS3, k4⟩ := bnew_spec (L' + 6) k hL (g := g) hD3 hO3
  have hg4 : σ4.get g = _ := (k4 [g] (by simp) g (by simp)).trans ((s3.2 g hgl2 (by simp)).trans hg2)
  obtain ⟨FF, GG, ww, _, hImg, hO4, _, _⟩ := hI4.ex
  have hdis : ∀ i j : Nat, ∀ x y : Nat, i ≠ j → ([[a3], [a2], [a1], [a0], [nd], [g]] : List (List Nat))[i]? = some [x] → ([[a3], [a2], [a1], [a0], [nd], [g]] : List (List Nat))[j]? = some [y] → x ≠ y := fun i j x y hij hi hj h => by
    have := hO4.off (i + 2) (j + 2) (by omega) (by simpa using hi) (by simpa using hj) x (by simp)
    simp at this
    exact this h
  obtain ⟨F5, σ5, e5, hS5, hT5⟩ := btake_spec (L' + 6) (k + 7) hn4 (hI4.lt (H := [nd]) (by simp) nd (by simp)) hS0 (hdis 4 3 nd a0 (by omega) rfl rfl)
  have hI5 := hI4.turned 3 rfl hT5
  have hx5 : ∀ x, x < σ4.next → x ≠ a0 → σ5.get x = σ4.get x := fun x hx hne => hT5.same.2 x hx (by simpa using hne)
  have hndl := hI4.lt (H := [nd]) (by simp) nd (by simp)
  have hgl4 := hI4.lt (H := [g]) (by simp) g (by simp)
  have hn5 : σ5.get nd = _ := (hx5 nd hndl (hdis 4 3 nd a0 (by omega) rfl rfl)).trans hn4
  have hg5 : σ5.get g = _ := (hx5 g hgl4 (hdis 5 3 g a0 (by omega) rfl rfl)).trans hg4
  have n5 := hT5.same.1
  have hS15 := hS1.same hT5.same (by simp; exact hdis 2 3 a1 a0 (by omega) rfl rfl)
  have hS25 := hS2.same hT5.same (by simp; exact hdis 1 3 a2 a0 (by omega) rfl rfl)
  have hS35 := hS3.same hT5.same (by simp; exact hdis 0 3 a3 a0 (by omega) rfl rfl)
  obtain ⟨FF5, GG5, ww5, _, hImg5, _⟩ := hI5.ex
  -- Ready
  obtain ⟨v6, σ6, e6, ad6, z6, q6, rfl, hR6, s6, _⟩ := S.marks_spec hS5 (L' + 6) (k + 8) (by simp) (by simp) (Nat.le_refl _)
  obtain ⟨σ7, e7, s7⟩ := can_spec (L' + 6) (k + 6) hL ((s6.2 nd (by omega) (by simp)).trans hn5) (by have := s6.1; omega) ((s6.2 g (by omega) (by simp)).trans hg5) (by have := s6.1; omega) (hS5.idle s6) (hImg5.same s6 (by simp))
  have s57 := s6.trans s7
  obtain ⟨σ8, e8, s8⟩ := ready_none (L' + 6) (k + 8) (L' + 4) (by omega) (nd := nd) (s3 := 4) (p0 := some ⟨a0, 0, none⟩) (p1 := some ⟨a1, 0, none⟩) (p2 := some ⟨a2, 0, none⟩) (p3 := some ⟨a3, 0, none⟩) (i := 1) (by omega) (fun _ => rfl) (hS15.idle s57)
  obtain ⟨σ9, e9, s9⟩ := ready_none (L' + 6) (k + 8) (L' + 3) (by omega) (nd := nd) (s3 := 4) (p0 := some ⟨a0, 0, none⟩) (p1 := some ⟨a1, 0, none⟩) (p2 := some ⟨a2, 0, none⟩) (p3 := some ⟨a3, 0, none⟩) (i := 1 + 1) (by omega) (fun _ => rfl) ((hS25.idle s57).idle s8)
  obtain ⟨σ10, e10, s10⟩ := ready_none (L' + 6) (k + 8) (L' + 2) (by omega) (nd := nd) (s3 := 4) (p0 := some ⟨a0, 0, none⟩) (p1 := some ⟨a1, 0, none⟩) (p2 := some ⟨a2, 0, none⟩) (p3 := some ⟨a3, 0, none⟩) (i := 1 + 1 + 1) (by omega) (fun _ => rfl) (((hS35.idle s57).idle s8).idle s9)
  obtain ⟨p, ep, hat⟩ := hR6.at (fun _ => rfl) (i := 0) (a := (4 : Int)) rfl
  have hRdy : evCall Try.prog env (L' + 6) (k + 11) 16 [ptr nd] σ5 = some (.int .i64 4, σ10) := by
    have i1 : inRange 0 ((1 : Nat) : Int) = true := rfl
    have i4 : inRange 0 4 = true := rfl
    have hat7 : ∀ K : Value → Res, σ6.ld p (0 + Int.toNat 0 * 1) K = K (.int .i64 4) := fun K => hat 0 (.int .i64 4) _ (by omega) rfl rfl K
    have e6' : evCall Try.prog env (L' + 6) (k + 10) 38 [.pointer (some ⟨a0, 0, none⟩)] σ5 = some (.slice (some ⟨p, 0, none⟩) 1 z6, σ6) := by rw [← ep]; exact e6
    rw [f16_eq, lds_own (n := 4) _ hn5 (by simp [ndc])]
    show (uncons [ptr a0, ptr a1, ptr a2, ptr a3] _) = _
    rw [uncons_c, asP_p, uncons_c, asP_p, uncons_c, asP_p, uncons_c, asP_p, endl_n]
    have l0 := f16_l5 (L' + 6) (k + 10) (L' + 5) σ5 nd 0 0 (some ⟨a0, 0, none⟩) (some ⟨a1, 0, none⟩) (some ⟨a2, 0, none⟩) (some ⟨a3, 0, none⟩) 0
    rw [decide_eq_true (by decide), br_true, need_of i4, show ∀ K : Value → Res, nth [Value.pointer (some ⟨a0, 0, none⟩), Value.pointer (some ⟨a1, 0, none⟩), Value.pointer (some ⟨a2, 0, none⟩), Value.pointer (some ⟨a3, 0, none⟩)] (Int.toNat 0 * 1) K = K (ptr a0) from fun _ => rfl, asP_p, e6', bnd_some, asSl_s] at l0
    have l1 := f16_l8 (L' + 6) (k + 10) (L' + 5) (L' + 5) σ6 nd 0 0 (some ⟨a0, 0, none⟩) (some ⟨a1, 0, none⟩) (some ⟨a2, 0, none⟩) (some ⟨a3, 0, none⟩) 0 (some ⟨p, 0, none⟩) 1 z6 1 0
    rw [decide_eq_true (by decide), br_true, need_of i1, adr_some, hat7, asI_i, decide_eq_true (by decide), br_true, e7, bnd_some, asB_b, br_true, show IntKind.wrap .i64 ((0 : Int) + 1) = 1 from rfl] at l1
    have l2 := f16_l8 (L' + 6) (k + 10) (L' + 5) (L' + 4) σ7 nd 0 4 (some ⟨a0, 0, none⟩) (some ⟨a1, 0, none⟩) (some ⟨a2, 0, none⟩) (some ⟨a3, 0, none⟩) 0 (some ⟨p, 0, none⟩) 1 z6 1 1
    rw [decide_eq_false (by decide), br_false, show IntKind.wrap .i64 ((0 : Int) + 1) = 1 from rfl] at l2
    have l3 := f16_l5 (L' + 6) (k + 10) (L' + 1) σ10 nd 0 4 (some ⟨a0, 0, none⟩) (some ⟨a1, 0, none⟩) (some ⟨a2, 0, none⟩) (some ⟨a3, 0, none⟩) (1 + 1 + 1 + 1)
    rw [decide_eq_false (by decide), br_false] at l3
    exact l0.trans (l1.trans (l2.trans (e8.trans (e9.trans (e10.trans l3)))))
  have e5' : evCall Try.prog env (L' + 6) (k + 11) 10 [ptr nd, .int .i64 0, .agg #[.int .i64 1, .int .i64 2, .int .i64 0, .string ⟨#[]⟩, .int .i64 4]] σ4 = _ := e5
  rw [e2, bnd_some, asT_t, toList2, uncons_c, asP_p, uncons_c, endl_n, e3, bnd_some, asP_p, e4, bnd_some, asT_t, toList2, uncons_c, asP_p, uncons_c, endl_n, eqNil_nil, not_true, br_false, show Option.isNone (some (⟨nd, 0, none⟩ : Addr)) = false from rfl, br_false, e5', bnd_some, asT_t, toList2, uncons_c, asI_i, uncons_c, endl_n, show ((1 : Int) == 1) = true from rfl, br_true, eqNil_nil, br_true, hRdy, bnd_some, asI_i, show ((4 : Int) == 4) = true from rfl]
  refine ⟨σ10, rfl, ?_⟩
  obtain ⟨_, _, _, _, _, hO5, _⟩ := hI5.ex
  have hk5 := hO5.kept
  have s510 := ((s57.trans s8).trans s9).trans s10
  have n510 := s510.1
  exact ⟨by have := hk5.1; omega, fun x hx _ => by rw [s510.2 x (by have := hk5.1; omega) (by simp)]; exact hk5.2 x hx⟩
end Go.AM.Bp

/-
  THE NODE, in the store; Take, can, Ready, Applied, Image.
-/
namespace Go.AM.Bp
open Go.Proofs

/-- The blocks of some things are as they were. -/
def Kp (σ σ' : St) (R : List (List Nat)) : Prop := ∀ H ∈ R, ∀ q ∈ H, σ'.get q = σ.get q
theorem Kp.refl (σ : St) (R : List (List Nat)) : Kp σ σ R := fun _ _ _ _ => rfl
theorem Kp.trans {a b c : St} {R : List (List Nat)} (h : Kp a b R) (k : Kp b c R) : Kp a c R := fun H hH q hq => (k H hH q hq).trans (h H hH q hq)

theorem ImS.owns {σ0 σ : St} {m d : Nat} {s : IS} {R : List (List Nat)} (h : ImS σ0 σ m d s R) : ∃ F G, Owns σ0 σ (F :: G :: R) := by
  obtain ⟨F, G, w, _, _, h3, _⟩ := h.ex
  exact ⟨F, G, h3⟩
theorem ImS.dis {σ0 σ : St} {m d : Nat} {s : IS} {R : List (List Nat)} (h : ImS σ0 σ m d s R) (i j : Nat) {A B : List Nat} (hij : i ≠ j) (hi : R[i]? = some A) (hj : R[j]? = some B) : ∀ q ∈ A, q ∉ B := by
  obtain ⟨F, G, hO⟩ := h.owns
  exact hO.off (i + 2) (j + 2) (by omega) (by simpa using hi) (by simpa using hj)
/-- One more thing, whatever is being laid. -/
theorem ImS.push2 {σ0 σ σ' : St} {m d : Nat} {s : IS} {R : List (List Nat)} {X : List Nat} (h : ImS σ0 σ m d s R) (hs : Same σ σ' []) (hX : ∀ q ∈ X, σ.next ≤ q ∧ q < σ'.next) : ImS σ0 σ' m d s (X :: R) := by
  have hi := h.idle hs
  obtain ⟨F, G, w, a1, a2, a3, a4, a5⟩ := h.ex
  refine ⟨F, G, w, a1.idle hs, a2.same hs (by simp), Owns.third (a3.more hs hX), a4, ?_⟩
  rcases a5 with a5 | ⟨b, mk', bl', done, e1, e2, e3, e4, e5⟩
  · exact .inl a5
  · exact .inr ⟨b, mk', bl', done, e1, e2, e3, e4, by rw [hs.2 b (a3.lt 1 rfl b e3) (by simp)]; exact e5.ex, e5.len⟩
theorem S.Stg.moved {σ σ' : St} {a : Nat} {F : List Nat} {first mark : Int} {rs : List S.Rec} {fast : Nat} (h : S.Stg σ a F first rs fast mark) (hs : ∀ q ∈ F, σ'.get q = σ.get q) (hl : ∀ q ∈ F, q < σ'.next) : S.Stg σ' a F first rs fast mark := by
  obtain ⟨qs, ad, z, rfl, h1, h2, h3⟩ := h.ex
  exact ⟨⟨qs, ad, z, rfl, h1, by rw [hs a (by simp)]; exact h2, h3.moved (fun x hx => hs x (by simp [hx])) (fun x hx => hl x (by simp [hx]))⟩, hl⟩

structure NdX (σ0 σ : St) (nd g m d : Nat) (a : Nat → Nat) (F : Nat → List Nat) (N : NS) (R : List (List Nat)) : Prop where
  im : ImS σ0 σ m d N.im (F 0 :: F 1 :: F 2 :: F 3 :: [nd] :: R)
  nd : σ.get nd = some (.own (ndc d m (a 0) (a 1) (a 2) (a 3) g N.mark) 82)
  st : ∀ v, v < 4 → S.Stg σ (a v) (F v) (N.st v).first (N.st v).rs (N.st v).rs.length (N.st v).mark
/-- A backup in the store, beside other things. -/
def Nd (σ0 σ : St) (nd g : Nat) (N : NS) (R : List (List Nat)) : Prop := ∃ m d a F, NdX σ0 σ nd g m d a F N R

theorem fl_get {α : Type} (F : Nat → α) (T : List α) (v : Nat) (h : v < 4) : (F 0 :: F 1 :: F 2 :: F 3 :: T)[v]? = some (F v) := by
  rcases (by omega : v = 0 ∨ v = 1 ∨ v = 2 ∨ v = 3) with rfl | rfl | rfl | rfl <;> rfl
theorem fl_set {α : Type} (F : Nat → α) (T : List α) (v : Nat) (h : v < 4) (X : α) : (F 0 :: F 1 :: F 2 :: F 3 :: T).set v X = upd F v X 0 :: upd F v X 1 :: upd F v X 2 :: upd F v X 3 :: T := by
  rcases (by omega : v = 0 ∨ v = 1 ∨ v = 2 ∨ v = 3) with rfl | rfl | rfl | rfl <;> rfl
theorem ndc_get (d m g : Nat) (a : Nat → Nat) (mark : Int) (v : Nat) (h : v < 4) : (ndc d m (a 0) (a 1) (a 2) (a 3) g mark)[2 + v]? = some (ptr (a v)) := by
  rcases (by omega : v = 0 ∨ v = 1 ∨ v = 2 ∨ v = 3) with rfl | rfl | rfl | rfl <;> rfl

section
variable {σ0 σ : St} {nd g m d : Nat} {a : Nat → Nat} {F : Nat → List Nat} {N : NS} {R : List (List Nat)}
theorem NdX.lt (h : NdX σ0 σ nd g m d a F N R) {H : List Nat} (hH : H ∈ R) : ∀ q ∈ H, q < σ.next := h.im.lt (by simp [hH])
theorem NdX.ndlt (h : NdX σ0 σ nd g m d a F N R) : nd < σ.next := h.im.lt (H := [nd]) (by simp) nd (by simp)
theorem NdX.idle (h : NdX σ0 σ nd g m d a F N R) {σ' : St} (hs : Same σ σ' []) : NdX σ0 σ' nd g m d a F N R :=
  ⟨h.im.idle hs, (hs.2 nd h.ndlt (by simp)).trans h.nd, fun v hv => (h.st v hv).idle hs⟩
theorem NdX.kept (h : NdX σ0 σ nd g m d a F N R) {σ' : St} (hs : Same σ σ' []) : Kp σ σ' R := fun H hH q hq => hs.2 q (h.lt hH q hq) (by simp)
theorem NdX.stg (h : NdX σ0 σ nd g m d a F N R) (v : Nat) (hv : v < 4) : ∀ K : Value → Res, σ.ld nd (2 + v) K = K (ptr (a v)) := fun K => ld_at h.nd (2 + v) _ (ndc_get d m g a N.mark v hv) K
/-- A stage turns. -/
theorem NdX.turn (h : NdX σ0 σ nd g m d a F N R) (v : Nat) (hv : v < 4) {σ' : St} {F' : List Nat} (hT : Turn σ σ' (F v) F') {s : SS} (hS : S.Stg σ' (a v) F' s.first s.rs s.rs.length s.mark) :
    NdX σ0 σ' nd g m d a (upd F v F') { N with st := upd N.st v s } R ∧ Kp σ σ' R := by
  have h1 := h.im.turned v (fl_get F ([nd] :: R) v hv) hT
  rw [fl_set F _ v hv] at h1
  have hne : nd ∉ F v := h.im.dis 4 v (by omega) rfl (fl_get F _ v hv) nd (by simp)
  refine ⟨⟨h1, (hT.same.2 nd h.ndlt hne).trans h.nd, fun u hu => ?_⟩, fun H hH q hq => ?_⟩
  · by_cases e : u = v
    · subst e; dsimp only; rw [upd_same, upd_same]; exact hS
    · dsimp only; rw [upd_ne _ _ e, upd_ne _ _ e]
      exact (h.st u hu).same hT.same (h.im.dis u v e (fl_get F _ u hu) (fl_get F _ v hv))
  · obtain ⟨i, hi⟩ := List.mem_iff_getElem?.1 hH
    exact hT.same.2 q (h.lt hH q hq) (h.im.dis (i + 5) v (by omega) (by simpa using hi) (fl_get F _ v hv) q hq)
/-- Another thing turns. -/
theorem NdX.turned (h : NdX σ0 σ nd g m d a F N R) (j : Nat) {A B : List Nat} (hj : R[j]? = some A) {σ' : St} (hT : Turn σ σ' A B) : NdX σ0 σ' nd g m d a F N (R.set j B) := by
  have hj5 : (F 0 :: F 1 :: F 2 :: F 3 :: [nd] :: R)[j + 5]? = some A := hj
  refine ⟨h.im.turned (j + 5) hj5 hT, (hT.same.2 nd h.ndlt (h.im.dis 4 (j + 5) (by omega) rfl hj5 nd (by simp))).trans h.nd, fun v hv => (h.st v hv).same hT.same (h.im.dis v (j + 5) (by omega) (fl_get F _ v hv) hj5)⟩
/-- The image turns, and nothing else. -/
theorem NdX.image (h : NdX σ0 σ nd g m d a F N R) {σ' : St} {s : IS} (hI : ImS σ0 σ' m d s (F 0 :: F 1 :: F 2 :: F 3 :: [nd] :: R)) (hk : Kp σ σ' (F 0 :: F 1 :: F 2 :: F 3 :: [nd] :: R)) :
    NdX σ0 σ' nd g m d a F { N with im := s } R ∧ Kp σ σ' R := by
  have hm : ∀ v, v < 4 → F v ∈ F 0 :: F 1 :: F 2 :: F 3 :: [nd] :: R := fun v hv => List.mem_of_getElem? (fl_get F _ v hv)
  refine ⟨⟨hI, (hk [nd] (by simp) nd (by simp)).trans h.nd, fun v hv => (h.st v hv).moved (hk _ (hm v hv)) (hI.lt (hm v hv))⟩, fun H hH => hk H (by simp [hH])⟩
theorem four_one (T : List (List Nat)) (nd : Nat) : ∀ (A B C D : List Nat), (A :: B :: C :: D :: [nd] :: T).set 4 [nd] = A :: B :: C :: D :: [nd] :: T := fun _ _ _ _ => rfl
/-- The node's own cells are written. -/
theorem NdX.own (h : NdX σ0 σ nd g m d a F N R) (mark : Int) :
    ∃ σ', (∀ K : St → Res, σ.put nd 7 [.int .i64 mark] K = K σ') ∧ NdX σ0 σ' nd g m d a F { N with mark := mark } R ∧ Kp σ σ' R := by
  refine ⟨_, fun K => put_int h.nd 7 .i64 mark (by simp [ndc]) K, ?_⟩
  have s1 := Same.set σ nd (.own (List.set (ndc d m (a 0) (a 1) (a 2) (a 3) g N.mark) 7 (.int .i64 mark)) 82)
  have g1 : (σ.set nd (.own (List.set (ndc d m (a 0) (a 1) (a 2) (a 3) g N.mark) 7 (.int .i64 mark)) 82)).get nd = some (.own (ndc d m (a 0) (a 1) (a 2) (a 3) g mark) 82) := get_set_same _ _ _
  have n1 : (σ.set nd (.own (List.set (ndc d m (a 0) (a 1) (a 2) (a 3) g N.mark) 7 (.int .i64 mark)) 82)).next = σ.next := rfl
  generalize σ.set nd (.own (List.set (ndc d m (a 0) (a 1) (a 2) (a 3) g N.mark) 7 (.int .i64 mark)) 82) = σ1 at s1 g1 n1
  have hlt := h.ndlt
  have hT : Turn σ σ1 [nd] [nd] := ⟨s1, fun q hq => ⟨.inl hq, by simp at hq; omega⟩⟩
  have h1 := h.im.turned 4 rfl hT
  rw [four_one] at h1
  refine ⟨⟨h1, g1, fun v hv => (h.st v hv).same s1 (fun q hq => h.im.dis v 4 (by omega) (fl_get F _ v hv) rfl q hq)⟩, fun H hH q hq => ?_⟩
  obtain ⟨i, hi⟩ := List.mem_iff_getElem?.1 hH
  exact s1.2 q (h.lt hH q hq) (h.im.dis (i + 5) 4 (by omega) (by simpa using hi) rfl q hq)
theorem NdX.grp (h : NdX σ0 σ nd g m d a F N R) {G : List Nat} {gs : GS} (hG : Grp σ g G gs) (hGR : G ∈ R) {σ' : St} (hk : Kp σ σ' R) (h' : ∃ m' a' F' N', NdX σ0 σ' nd g m' d a' F' N' R) : Grp σ' g G gs := by
  obtain ⟨_, _, _, _, h'⟩ := h'
  exact hG.moved (hk G hGR) (h'.lt hGR)
end

/-! Errors. -/
/-- A new error, that nothing else knows. -/
def Fr (σ σ' : St) (v : Value) (e at_ : Int) : Prop := ∃ q, v = .iface 126 (ptr q) ∧ E.Err σ' v e at_ ∧ σ.next ≤ q ∧ q < σ'.next
theorem Fr.err {σ σ' : St} {v : Value} {e a : Int} (h : Fr σ σ' v e a) : E.Err σ' v e a := h.choose_spec.2.1
theorem Fr.before {σ σ1 σ' : St} {v : Value} {e a : Int} (h : Fr σ1 σ' v e a) (hs : σ.next ≤ σ1.next) : Fr σ σ' v e a := by
  obtain ⟨q, h1, h2, h3, h4⟩ := h
  exact ⟨q, h1, h2, by omega, h4⟩
theorem E.Err.moved {σ σ' : St} {q : Nat} {e a : Int} (h : E.Err σ (.iface 126 (ptr q)) e a) (hs : σ'.get q = σ.get q) (hl : q < σ'.next) : E.Err σ' (.iface 126 (ptr q)) e a := by
  obtain ⟨q', e1, g, _⟩ := h
  cases e1
  exact ⟨q, rfl, hs.trans g, hl⟩
theorem wrong46 (L k : Nat) (σ : St) (at_ e : Int) (he : e ≠ 0) : ∃ v σ', evCall Try.prog env L (k + 2) 27 [.int .i64 at_, .iface 74 (.int .i64 e)] σ = some (v, σ') ∧ Fr σ σ' v e at_ ∧ Same σ σ' [] := by
  rw [f27_eq, f45_eq, eqNil_iface, br_false]
  have hb : ∀ K : Res, eqErr (.iface 74 (.int .i64 e)) 74 .i64 0 (fun v2 => br v2 (some (Value.nilIface, σ)) K) = K := by
    intro K
    have : eqErr (.iface 74 (.int .i64 e)) 74 .i64 0 (fun v2 => br v2 (some (Value.nilIface, σ)) K) = br (e == 0) (some (Value.nilIface, σ)) K := by simp [eqErr]
    rw [this, show (e == 0) = false by simpa using he, br_false]
  rw [hb, need_true, need_of (show oneCell (Value.iface 74 (Value.int .i64 e)) = true from rfl), need_true, bnd_some]
  exact ⟨_, _, rfl, ⟨σ.next, rfl, ⟨σ.next, rfl, get_new_same _ _, by simp⟩, Nat.le_refl _, by simp⟩, Same.new _ _ _⟩
theorem wrong46_nil (L k : Nat) (σ : St) (at_ : Int) : evCall Try.prog env L (k + 2) 27 [.int .i64 at_, .nilIface] σ = some (.nilIface, σ) := by
  rw [f27_eq, f45_eq, eqNil_nil, br_true, bnd_some]
  rfl

section
variable {σ0 σ : St} {nd g m d : Nat} {a : Nat → Nat} {F : Nat → List Nat} {N : NS} {R : List (List Nat)} {c : Nat}

/-! Take. -/
theorem ntake_spec (L k : Nat) (h : NdX σ0 σ nd g m d a F N R) (hI : N.Inv c) (hc : c ≤ 899) (v : Nat) (hv : v < 4) (r : S.Rec) :
    ∃ F' σ', evCall Try.prog env L (k + 4) 10 [ptr nd, .int .i64 v, r.agg] σ = some (.tuple #[.int .i64 ((N.take v r).st v).last, .nilIface], σ') ∧ NdX σ0 σ' nd g m d a F' (N.take v r) R ∧ Kp σ σ' R := by
  have hv4 := (hI.st v hv)
  have hlen := hv4.len
  have hf1 := hv4.f1
  have e := f10_eq L (k + 3) σ nd (v : Int) r.seq r.kind r.block r.data r.number
  have s1 : Same σ (σ.new (.own [.int .i64 r.seq, .int .i64 r.kind, .int .i64 r.block, .string r.data, .int .i64 r.number] 40)) [] := Same.new _ _ _
  have g1 : (σ.new (.own [.int .i64 r.seq, .int .i64 r.kind, .int .i64 r.block, .string r.data, .int .i64 r.number] 40)).get σ.next = some (.own [.int .i64 r.seq, .int .i64 r.kind, .int .i64 r.block, .string r.data, .int .i64 r.number] 40) := get_new_same _ _
  generalize σ.new (.own [.int .i64 r.seq, .int .i64 r.kind, .int .i64 r.block, .string r.data, .int .i64 r.number] 40) = σ1 at s1 g1 e
  have h1 := h.idle s1
  have iv : inRange (v : Int) 4 = true := by simp [inRange]; omega
  obtain ⟨v2, σ2, g2, rs', F', rfl, hS2, hT2, hor⟩ := S.take_gen (h1.st v hv) L k hf1 (by omega) (by omega) (Nat.le_refl _) r (fun b => b = decide (S.Can r)) (fun σ => by
    obtain ⟨v, σ', g1, e, e2⟩ := S.right_is L k σ r
    exact ⟨v, σ', g1, ⟨_, e, rfl⟩, e2⟩)
  have htk : ((N.take v r).st v).rs = rs' ∧ ((N.take v r).st v).first = (N.st v).first ∧ ((N.take v r).st v).mark = (N.st v).mark := by
    unfold NS.take
    dsimp only
    rw [upd_same]
    unfold SS.take
    rcases hor with ⟨rfl, h1 | h1⟩ | ⟨h1, h2, rfl⟩
    · rw [if_neg (fun h => h1 h.1)]; exact ⟨rfl, rfl, rfl⟩
    · rw [if_neg (fun h => by rw [decide_eq_true h.2] at h1; cases h1)]; exact ⟨rfl, rfl, rfl⟩
    · rw [if_pos ⟨h1, by simpa using h2.symm⟩]; exact ⟨rfl, rfl, rfl⟩
  have hnd2 : nd ∉ F v := h1.im.dis 4 v (by omega) rfl (fl_get F _ v hv) nd (by simp)
  have hn2 : σ2.get nd = _ := (hT2.same.2 nd h1.ndlt hnd2).trans h1.nd
  obtain ⟨σ3, g3, hS3, hT3⟩ := S.sflush_spec hS2 L (k + 2)
  have ho : 2 + Int.toNat (v : Int) * 1 = 2 + v := by simp
  rw [decide_eq_false (by omega), br_false, decide_eq_false (by omega), br_false, need_of iv, ho, h1.stg v hv, asP_p, lds_all (n := 5) g1 rfl, uncons_c, asI_i, uncons_c, asI_i, uncons_c, asI_i, uncons_c, asS_s, uncons_c, asI_i, endl_n] at e
  have g2' : evCall Try.prog env L (k + 3) 29 [.pointer (some ⟨a v, 0, none⟩), .agg #[.int .i64 r.seq, .int .i64 r.kind, .int .i64 r.block, .string r.data, .int .i64 r.number]] σ1 = _ := g2
  rw [g2', bnd_some, asI_i, need_of iv, ld_at hn2 (2 + v) _ (ndc_get d m g a N.mark v hv), asP_p, g3, bnd_some, asT_t, toList0, endl_n] at e
  obtain ⟨h3, k3⟩ := h1.turn v hv (hT2.trans hT3) (s := (N.take v r).st v) (by rw [htk.1, htk.2.1, htk.2.2]; exact hS3)
  refine ⟨upd F v F', σ3, ?_, ?_, (h.kept s1).trans k3⟩
  · unfold SS.last
    rw [htk.1, htk.2.1]
    exact e
  · have : ({ N with st := upd N.st v ((N.take v r).st v) } : NS) = N.take v r := by
      unfold NS.take; dsimp only; rw [upd_same]
    rw [this] at h3
    exact h3
theorem ntake_out (L k : Nat) (σ : St) (nd : Nat) (v : Int) (hv : v < 0 ∨ 4 ≤ v) (r : S.Rec) : ∃ e σ', evCall Try.prog env L (k + 3) 10 [ptr nd, .int .i64 v, r.agg] σ = some (.tuple #[.int .i64 0, e], σ') ∧ E.Err σ' e 5 v ∧ Same σ σ' [] := by
  have e := f10_eq L (k + 2) σ nd v r.seq r.kind r.block r.data r.number
  have s1 : Same σ (σ.new (.own [.int .i64 r.seq, .int .i64 r.kind, .int .i64 r.block, .string r.data, .int .i64 r.number] 40)) [] := Same.new _ _ _
  generalize σ.new (.own [.int .i64 r.seq, .int .i64 r.kind, .int .i64 r.block, .string r.data, .int .i64 r.number] 40) = σ1 at s1 e
  obtain ⟨w, σ2, g2, hE, s2⟩ := wrong46 L k σ1 v 5 (by decide)
  refine ⟨w, σ2, ?_, hE.err, s1.trans s2⟩
  rcases hv with hv | hv
  · rw [decide_eq_true hv, br_true, g2, bnd_some] at e
    exact e
  · rw [decide_eq_false (by omega), br_false, decide_eq_true hv, br_true, g2, bnd_some] at e
    exact e

/-! What can be applied. -/
theorem ncan_loop (L k : Nat) (hL : 100000 < L) (h : NdX σ0 σ nd g m d a F N R) (hI : N.Inv c) (hc : c ≤ 899) (mk : Int) {l : List Nat} (hl : ∀ v ∈ l, v < 4) (hl4 : l.length ≤ 4) {ad : Option Addr} {z : Nat} {q : List Nat} {σb : St} (hR : Row c1 1 3 σb ad z q (ints l)) : ∀ (n i : Nat) (σ' : St), i ≤ l.length → l.length - i < n → Same σ σ' [] → Same σb σ' [] →
    ∃ σ2, lpAt Try.prog env L (k + 3) 39 [true, true, false, true] [] n [(0, ptr nd), (1, .int .i64 mk), (5, .slice ad l.length z), (16, .slice ad l.length z), (17, .int .i64 l.length), (18, .int .i64 i)] σ' = some (.bool ((l.drop i).all (fun v => (upTo (N.st v).rs mk).isSome) && (decide ((N.im.km : Int) < mk) && !l.isEmpty)), σ2) ∧ Same σ' σ2 []
  | 0, i, σ', _, hn, _, _ => by omega
  | n + 1, i, σ', hi, hn, hs, hb => by
    rw [f39_l3]
    have h' := h.idle hs
    by_cases hie : i = l.length
    · subst hie
      rw [decide_eq_false (by omega), br_false, ld_at h'.nd (0 + 1) (ptr m) rfl, asP_p, markS h'.im L (k + 2), bnd_some, asI_i, List.drop_length]
      refine ⟨σ', ?_, Same.refl _ _⟩
      by_cases hm : mk > (N.im.km : Int)
      · rw [decide_eq_true hm, br_true]
        have : decide (((l.length : Nat) : Int) > 0) = !l.isEmpty := by cases l <;> simp <;> omega
        rw [this]; simp
      · rw [decide_eq_false hm, br_false]; simp
    have hget : l[i]? = some l[i] := List.getElem?_eq_getElem (by omega)
    have hlv := hl l[i] (List.getElem_mem _)
    have hdr : l.drop i = l[i] :: l.drop (i + 1) := List.drop_eq_getElem_cons (by omega)
    generalize l[i] = v at *
    obtain ⟨p, e, hat⟩ := (hR.same hb (by simp)).at (fun _ => rfl) (i := i) (a := (v : Int)) (by unfold ints; rw [List.getElem?_map, hget]; rfl)
    subst e
    have hw : IntKind.wrap .i64 ((i : Int) + 1) = ((i + 1 : Nat) : Int) := by rw [wrap_in _ (by omega) (by omega)]; omega
    have hv4 := hI.st v hlv
    have hlen := hv4.len
    have hf1 := hv4.f1
    rw [decide_eq_true (by omega), br_true, need_of (by simp [inRange]; omega), adr_some, hat 0 (.int .i64 v) _ (by omega) rfl (by simp), asI_i, need_of (by simp [inRange]; omega), show 0 + 2 + Int.toNat (v : Int) * 1 = 2 + v by simp, h'.stg v hlv, asP_p]
    rcases S.upto_spec (h'.st v hlv) L k (by omega) (by omega) (Nat.le_refl _) mk with ⟨j, r, ad', z', q', σ2, g2, _, s2, _, _, hj, hh, hno⟩ | ⟨σ2, g2, s2, hno⟩
    · rw [g2, bnd_some, asT_t, toList2, uncons_c, asSl_s, uncons_c, asB_b, endl_n, not_true, br_false, hw]
      obtain ⟨σ3, e3, s3⟩ := ncan_loop L k hL h hI hc mk hl hl4 hR n (i + 1) σ2 (by omega) (by omega) (hs.trans s2) (hb.trans s2)
      refine ⟨σ3, ?_, s2.trans s3⟩
      rw [e3, hdr, List.all_cons, upTo_some hj hh hno]
      rfl
    · rw [g2, bnd_some, asT_t, toList2, uncons_c, asSl_s, uncons_c, asB_b, endl_n, not_false, br_true]
      refine ⟨σ2, ?_, s2⟩
      rw [hdr, List.all_cons, upTo_none (rs := (N.st v).rs) (m := mk) (fun r hr => hno r (by rw [List.take_length]; exact hr))]
      rfl
theorem ncan_spec (L k : Nat) (hL : 100000 < L) (h : NdX σ0 σ nd g m d a F N R) (hI : N.Inv c) (hc : c ≤ 899) {G : List Nat} {gs : GS} (hG : Grp σ g G gs) (mk : Int) :
    ∃ σ', evCall Try.prog env L (k + 4) 39 [ptr nd, .int .i64 mk] σ = some (.bool (N.can gs mk), σ') ∧ Same σ σ' [] := by
  obtain ⟨ad, z, q, σ1, g1, hR, s1, _⟩ := atg_spec L (k + 1) (by omega) hG mk
  rw [f39_eq, ld_at h.nd 6 (ptr g) rfl, asP_p, g1, bnd_some, asSl_s]
  have h4 := at_len gs mk
  obtain ⟨σ2, e2, s2⟩ := ncan_loop L k hL h hI hc mk (l := gs.at_ mk) (fun v hv => at_lt hv) h4 hR L 0 σ1 (by omega) (by omega) s1 (Same.refl _ _)
  refine ⟨σ2, ?_, s1.trans s2⟩
  rw [List.drop_zero] at e2
  exact e2

/-! Ready. -/
theorem nready_inner (L k m0 : Nat) (hL : 100000 < L) (h : NdX σ0 σ nd g m d a F N R) (hI : N.Inv c) (hc : c ≤ 899) {G : List Nat} {gs : GS} (hG : Grp σ g G gs) (hG2 : ∀ q ∈ G, q < σ.next) {v : Nat} (hv : v < 4) {l : List Int} (hl : l.length ≤ 1000) {ad : Option Addr} {z : Nat} {q : List Nat} {σb : St} (hR : Row c1 1 3 σb ad z q l) : ∀ (n i : Nat) (out : Int) (σ' : St), i ≤ l.length → l.length - i < n → Same σ σ' [] → Same σb σ' [] →
    ∃ σ2, lpAt Try.prog env L (k + 4) 16 [true, true, true, false, true, false, true, true, false, true, true] [m0] n [(0, ptr nd), (3, .int .i64 out), (13, .agg [ptr (a 0), ptr (a 1), ptr (a 2), ptr (a 3)].toArray), (14, .int .i64 v), (18, .slice ad l.length z), (19, .int .i64 l.length), (20, .int .i64 i)] σ' =
      lpAt Try.prog env L (k + 4) 16 [true, true, true, false, true] [] m0 [(0, ptr nd), (3, .int .i64 (rdyL (N.can gs) out (l.drop i))), (13, .agg [ptr (a 0), ptr (a 1), ptr (a 2), ptr (a 3)].toArray), (14, .int .i64 ((v + 1 : Nat) : Int))] σ2 ∧ Same σ' σ2 []
  | 0, i, out, σ', _, hn, _, _ => by omega
  | n + 1, i, out, σ', hi, hn, hs, hb => by
    rw [f16_l8]
    by_cases hie : i = l.length
    · subst hie
      have hw : IntKind.wrap .i64 ((v : Int) + 1) = ((v + 1 : Nat) : Int) := by rw [wrap_in _ (by omega) (by omega)]; omega
      rw [decide_eq_false (by omega), br_false, List.drop_length, hw]
      exact ⟨σ', rfl, Same.refl _ _⟩
    have hget : l[i]? = some l[i] := List.getElem?_eq_getElem (by omega)
    have hdr : l.drop i = l[i] :: l.drop (i + 1) := List.drop_eq_getElem_cons (by omega)
    generalize l[i] = mk at *
    obtain ⟨p, e, hat⟩ := (hR.same hb (by simp)).at (fun _ => rfl) hget
    subst e
    have hw : IntKind.wrap .i64 ((i : Int) + 1) = ((i + 1 : Nat) : Int) := by rw [wrap_in _ (by omega) (by omega)]; omega
    rw [decide_eq_true (by omega), br_true, need_of (by simp [inRange]; omega), adr_some, hat 0 (.int .i64 mk) _ (by omega) rfl (by simp), asI_i, hdr, hw]
    unfold rdyL
    by_cases ho : mk > out
    · obtain ⟨σ2, g2, s2⟩ := ncan_spec L k hL (h.idle hs) hI hc (hG.idle hs) mk
      rw [decide_eq_true ho, br_true, g2, bnd_some, asB_b]
      cases hcn : N.can gs mk with
      | true =>
        rw [br_true, if_pos ⟨by omega, rfl⟩]
        obtain ⟨σ3, e3, s3⟩ := nready_inner L k m0 hL h hI hc hG hG2 hv hl hR n (i + 1) mk σ2 (by omega) (by omega) (hs.trans s2) (hb.trans s2)
        exact ⟨σ3, e3, s2.trans s3⟩
      | false =>
        rw [br_false, if_neg (by simp)]
        obtain ⟨σ3, e3, s3⟩ := nready_inner L k m0 hL h hI hc hG hG2 hv hl hR n (i + 1) out σ2 (by omega) (by omega) (hs.trans s2) (hb.trans s2)
        exact ⟨σ3, e3, s2.trans s3⟩
    · rw [decide_eq_false ho, br_false, if_neg (fun hx => ho hx.1)]
      exact nready_inner L k m0 hL h hI hc hG hG2 hv hl hR n (i + 1) out σ' (by omega) (by omega) hs hb
def NS.marksFrom (N : NS) (v : Nat) : List Int := ((List.range 4).drop v).flatMap fun v => S.marksOf (N.st v).rs
theorem range_drop (v : Nat) (hv : v < 4) : (List.range 4).drop v = v :: (List.range 4).drop (v + 1) := by
  rcases (by omega : v = 0 ∨ v = 1 ∨ v = 2 ∨ v = 3) with rfl | rfl | rfl | rfl <;> rfl
theorem ptr_nth (a : Nat → Nat) (v : Nat) (h : v < 4) (K : Value → Res) : nth [ptr (a 0), ptr (a 1), ptr (a 2), ptr (a 3)] (Int.toNat (v : Int) * 1) K = K (ptr (a v)) := by
  rcases (by omega : v = 0 ∨ v = 1 ∨ v = 2 ∨ v = 3) with rfl | rfl | rfl | rfl <;> rfl
theorem nready_outer (L k : Nat) (hL : 100000 < L) (h : NdX σ0 σ nd g m d a F N R) (hI : N.Inv c) (hc : c ≤ 899) {G : List Nat} {gs : GS} (hG : Grp σ g G gs) : ∀ (n v : Nat) (out : Int) (σ' : St), v ≤ 4 → 4 - v < n → Same σ σ' [] →
    ∃ σ2, lpAt Try.prog env L (k + 4) 16 [true, true, true, false, true] [] n [(0, ptr nd), (3, .int .i64 out), (13, .agg [ptr (a 0), ptr (a 1), ptr (a 2), ptr (a 3)].toArray), (14, .int .i64 v)] σ' = some (.int .i64 (rdyL (N.can gs) out (N.marksFrom v)), σ2) ∧ Same σ' σ2 []
  | 0, v, out, σ', _, hn, _ => by omega
  | n + 1, v, out, σ', hv, hn, hs => by
    have el := f16_l5 L (k + 4) n σ' nd 0 out (some ⟨a 0, 0, none⟩) (some ⟨a 1, 0, none⟩) (some ⟨a 2, 0, none⟩) (some ⟨a 3, 0, none⟩) (v : Int)
    by_cases hv4 : v = 4
    · subst hv4
      rw [decide_eq_false (by decide), br_false] at el
      exact ⟨σ', el, Same.refl _ _⟩
    have hi := hI.st v (by omega)
    have hlen := hi.len
    have hf1 := hi.f1
    obtain ⟨v2, σ2, g2, ad, z, q, rfl, hR, s2, _⟩ := S.marks_spec ((h.idle hs).st v (by omega)) L (k + 2) (by omega) (by omega) (Nat.le_refl _)
    rw [List.take_length] at hR g2
    have hml := S.marksOf_len (N.st v).rs
    rw [decide_eq_true (by omega), br_true, need_of (by simp [inRange]; omega), show ∀ K : Value → Res, nth [Value.pointer (some ⟨a 0, 0, none⟩), Value.pointer (some ⟨a 1, 0, none⟩), Value.pointer (some ⟨a 2, 0, none⟩), Value.pointer (some ⟨a 3, 0, none⟩)] (Int.toNat (v : Int) * 1) K = K (ptr (a v)) from fun K => ptr_nth a v (by omega) K, asP_p, g2, bnd_some, asSl_s] at el
    obtain ⟨σ3, e3, s3⟩ := nready_inner L k n hL h hI hc hG hG.lt (v := v) (by omega) (l := S.marksOf (N.st v).rs) (by omega) hR L 0 out σ2 (by omega) (by omega) (hs.trans s2) (Same.refl _ _)
    rw [List.drop_zero] at e3
    obtain ⟨σ4, e4, s4⟩ := nready_outer L k hL h hI hc hG n (v + 1) (rdyL (N.can gs) out (S.marksOf (N.st v).rs)) σ3 (by omega) (by omega) ((hs.trans s2).trans s3)
    refine ⟨σ4, el.trans (e3.trans (e4.trans ?_)), (s2.trans s3).trans s4⟩
    have : N.marksFrom v = S.marksOf (N.st v).rs ++ N.marksFrom (v + 1) := by unfold NS.marksFrom; rw [range_drop v (by omega), List.flatMap_cons]
    rw [this, rdyL_app]
theorem nready_spec (L k : Nat) (hL : 100000 < L) (h : NdX σ0 σ nd g m d a F N R) (hI : N.Inv c) (hc : c ≤ 899) {G : List Nat} {gs : GS} (hG : Grp σ g G gs) :
    ∃ σ', evCall Try.prog env L (k + 5) 16 [ptr nd] σ = some (.int .i64 (N.ready gs), σ') ∧ Same σ σ' [] := by
  rw [f16_eq, lds_own (n := 4) _ h.nd (by simp [ndc])]
  show ∃ σ', (uncons [ptr (a 0), ptr (a 1), ptr (a 2), ptr (a 3)] _) = _ ∧ _
  rw [uncons_c, asP_p, uncons_c, asP_p, uncons_c, asP_p, uncons_c, asP_p, endl_n]
  obtain ⟨σ2, e2, s2⟩ := nready_outer L k hL h hI hc hG L 0 0 σ (by omega) (by omega) (Same.refl _ _)
  exact ⟨σ2, e2, s2⟩
end
end Go.AM.Bp

/-
  THE NODE: Begin, Step, Crash, Promote, Image, Applied.
-/
namespace Go.AM.Bp
open Go.Proofs

theorem strs_set32 (b : List ByteArray) (v : Nat) (x : Int) (hx : 0 ≤ x) (s : ByteArray) : (strs b).set (0 + Int.toNat (v : Int) * 8 + Int.toNat x * 1) (.string s) = strs (b.set (8 * v + x.toNat) s) := by
  rw [strs_set]; congr 2; simp; omega
theorem replay_snoc (b : List ByteArray) (v : Nat) (l : List S.Rec) (r : S.Rec) : replay b v (l ++ [r]) = if r.kind = 1 then (replay b v l).set (8 * v + r.block.toNat) r.data else replay b v l := by
  unfold replay; rw [List.foldl_append]; rfl

section
variable {σ0 σ : St} {nd g m d : Nat} {a : Nat → Nat} {F : Nat → List Nat} {N : NS} {R : List (List Nat)} {c : Nat}

/-! Begin. -/
theorem nbegin_inner (L k m0 : Nat) {p : Nat} {mk : Int} {ad1 : Option Addr} {n1 z1 : Nat} {s43 : Int} {i1 : Nat} (hi1 : i1 ≤ 10) {v : Nat} (hv : v < 4) {b : List ByteArray} (hb : b.length = 32) {l : List S.Rec} (hl : l.length ≤ 1000) (hcan : ∀ r ∈ l, S.Can r) {ad : Option Addr} {z : Nat} {q : List Nat} (hp : p ∉ q) : ∀ (n i : Nat) (σ : St), i ≤ l.length → l.length - i < n → Row S.c5 5 40 σ ad z q l → σ.get p = some (.own (strs (replay b v (l.take i))) 48) → p < σ.next →
    ∃ σ2, lpAt Try.prog env L k 11 [true, true, true, true, true, false, true, false, true, true, false, true, true, true] [m0] n [(0, ptr nd), (4, .int .i64 mk), (5, ptr p), (7, .int .i64 v), (42, .slice ad1 n1 z1), (43, .int .i64 s43), (44, .int .i64 i1), (59, .slice ad l.length z), (60, .int .i64 l.length), (61, .int .i64 i)] σ =
      lpAt Try.prog env L k 11 [true, true, true, true, true, false, true] [] m0 [(0, ptr nd), (4, .int .i64 mk), (5, ptr p), (42, .slice ad1 n1 z1), (43, .int .i64 s43), (44, .int .i64 ((i1 + 1 : Nat) : Int))] σ2 ∧ σ2.get p = some (.own (strs (replay b v l)) 48) ∧ Same σ σ2 [p]
  | 0, i, σ, _, hn, _, _, _ => by omega
  | n + 1, i, σ, hi, hn, hR, hg, hpl => by
    rw [f11_l14]
    by_cases hie : i = l.length
    · subst hie
      have hw : IntKind.wrap .i64 ((i1 : Int) + 1) = ((i1 + 1 : Nat) : Int) := by rw [wrap_in _ (by omega) (by omega)]; omega
      rw [decide_eq_false (by omega), br_false, hw]
      rw [List.take_length] at hg
      exact ⟨σ, rfl, hg, Same.refl _ _⟩
    have hget : l[i]? = some l[i] := List.getElem?_eq_getElem (by omega)
    have hri := hcan l[i] (List.getElem_mem _)
    have htk : l.take (i + 1) = l.take i ++ [l[i]] := by rw [List.take_add_one, hget]; rfl
    obtain ⟨w, e, hld⟩ := hR.lds (fun _ => rfl) hget
    generalize l[i] = r at *
    subst e
    have hw : IntKind.wrap .i64 ((i : Int) + 1) = ((i + 1 : Nat) : Int) := by rw [wrap_in _ (by omega) (by omega)]; omega
    rw [decide_eq_true (by omega), br_true, need_of (by simp [inRange]; omega), adr_some, hld _ (by simp)]
    unfold S.c5
    rw [uncons_c, asI_i, uncons_c, asI_i, uncons_c, asI_i, uncons_c, asS_s, uncons_c, asI_i, endl_n]
    obtain ⟨σ1, hput, g1, s1, n1'⟩ := tmp_put σ [.int .i64 0, .int .i64 0, .int .i64 0, .string ⟨#[]⟩, .int .i64 0] [.int .i64 r.seq, .int .i64 r.kind, .int .i64 r.block, .string r.data, .int .i64 r.number] 40 rfl rfl
    have hg1 : σ1.get p = _ := (s1.2 p hpl (by simp)).trans hg
    rw [hput, ld_at g1 1 _ rfl, asI_i, hw]
    have hrl := replay_len v (l.take i) b
    by_cases hk : r.kind = 1
    · obtain ⟨_, hc1 | hc1⟩ := hri
      rotate_left
      · omega
      obtain ⟨_, hb0, hb7, _⟩ := hc1
      rw [show (r.kind == 1) = true by simpa using hk, br_true, ld_at g1 2 _ rfl, asI_i, ld_at g1 3 _ rfl, asS_s, need_of (by simp [inRange]; omega), need_of (by simp [inRange]; omega), put_at hg1 _ (.string r.data) (by rw [strs_len, hrl, hb]; simp; omega) rfl, strs_set32 _ _ _ hb0]
      have s2 := Same.set σ1 p (.own (strs ((replay b v (l.take i)).set (8 * v + r.block.toNat) r.data)) 48)
      have hrs := replay_snoc b v (l.take i) r
      rw [if_pos hk, ← htk] at hrs
      rw [← hrs] at s2 ⊢
      have s02 : Same σ _ [p] := (s1.mono (by simp)).trans s2
      obtain ⟨σ3, e3, g3, s3⟩ := nbegin_inner L k m0 hi1 hv hb hl hcan hp n (i + 1) _ (by omega) (by omega) (hR.same s02 (fun x hx => by simp; rintro rfl; exact hp hx)) (get_set_same _ _ _) (by simp; omega)
      exact ⟨σ3, e3, g3, s02.trans s3⟩
    · rw [show (r.kind == 1) = false by simpa using hk, br_false]
      have hrs := replay_snoc b v (l.take i) r
      rw [if_neg hk, ← htk] at hrs
      rw [← hrs] at hg1
      obtain ⟨σ3, e3, g3, s3⟩ := nbegin_inner L k m0 hi1 hv hb hl hcan hp n (i + 1) σ1 (by omega) (by omega) (hR.same s1 (by simp)) hg1 (by omega)
      exact ⟨σ3, e3, g3, (s1.mono (by simp)).trans s3⟩
theorem foldl_drop {α β : Type} (f : β → α → β) (x : β) (l : List α) (i : Nat) (y : α) (h : l[i]? = some y) : (l.take (i + 1)).foldl f x = f ((l.take i).foldl f x) y := by
  rw [List.take_add_one, h, List.foldl_append]; rfl
theorem nbegin_outer (L k : Nat) (hL : 100000 < L) (h : NdX σ0 σ nd g m d a F N R) (hI : N.Inv c) (hc : c ≤ 899) {mk : Int} {p : Nat} (hpn : σ.next ≤ p) {l : List Nat} (hl : ∀ v ∈ l, v < 4) (hl4 : l.length ≤ 4) {ad : Option Addr} {z : Nat} {q : List Nat} (hpq : p ∉ q) {b : List ByteArray} (hb : b.length = 32) : ∀ (n i : Nat) (σ' : St), i ≤ l.length → l.length - i < n → Same σ σ' [] → Row c1 1 3 σ' ad z q (ints l) → σ'.get p = some (.own (strs ((l.take i).foldl (N.layOne mk) b)) 48) → p < σ'.next →
    ∃ n' σ2, lpAt Try.prog env L (k + 3) 11 [true, true, true, true, true, false, true] [] n [(0, ptr nd), (4, .int .i64 mk), (5, ptr p), (42, .slice ad l.length z), (43, .int .i64 l.length), (44, .int .i64 i)] σ' =
      lpAt Try.prog env L (k + 3) 11 [true, true, true, true, true, false, true] [] (n' + 1) [(0, ptr nd), (4, .int .i64 mk), (5, ptr p), (42, .slice ad l.length z), (43, .int .i64 l.length), (44, .int .i64 l.length)] σ2 ∧ Same σ σ2 [] ∧ σ2.get p = some (.own (strs (l.foldl (N.layOne mk) b)) 48) ∧ p < σ2.next
  | 0, i, σ', _, hn, _, _, _, _ => by omega
  | n + 1, i, σ', hi, hn, hs, hR, hg, hpl => by
    by_cases hie : i = l.length
    · subst hie
      rw [List.take_length] at hg
      exact ⟨n, σ', rfl, hs, hg, hpl⟩
    rw [f11_l10]
    have h' := h.idle hs
    have hget : l[i]? = some l[i] := List.getElem?_eq_getElem (by omega)
    have hlv := hl l[i] (List.getElem_mem _)
    have hfd := foldl_drop (N.layOne mk) b l i _ hget
    have hbl := lay_len N mk (l.take i) b
    generalize l[i] = v at *
    obtain ⟨w, e, hat⟩ := hR.at (fun _ => rfl) (i := i) (a := (v : Int)) (by unfold ints; rw [List.getElem?_map, hget]; rfl)
    subst e
    have hv4 := hI.st v hlv
    have hlen := hv4.len
    have hf1 := hv4.f1
    rw [decide_eq_true (by omega), br_true, need_of (by simp [inRange]; omega), adr_some, hat 0 (.int .i64 v) _ (by omega) rfl (by simp), asI_i, need_of (by simp [inRange]; omega), show 0 + 2 + Int.toNat (v : Int) * 1 = 2 + v by simp, h'.stg v hlv, asP_p]
    have step : ∀ {σ2 : St} {ad' : Option Addr} {z' : Nat} {q' : List Nat} {l' : List S.Rec}, Same σ' σ2 [] → Row S.c5 5 40 σ2 ad' z' q' l' → p ∉ q' → l'.length ≤ 1000 → (∀ r ∈ l', S.Can r) → replay ((l.take i).foldl (N.layOne mk) b) v l' = N.layOne mk ((l.take i).foldl (N.layOne mk) b) v →
        ∃ n' σ3, lpAt Try.prog env L (k + 3) 11 [true, true, true, true, true, false, true, false, true, true, false, true, true, true] [n] L [(0, ptr nd), (4, .int .i64 mk), (5, ptr p), (7, .int .i64 v), (42, .slice (some ⟨w, 0, none⟩) l.length z), (43, .int .i64 l.length), (44, .int .i64 i), (59, .slice ad' l'.length z'), (60, .int .i64 l'.length), (61, .int .i64 0)] σ2 =
          lpAt Try.prog env L (k + 3) 11 [true, true, true, true, true, false, true] [] (n' + 1) [(0, ptr nd), (4, .int .i64 mk), (5, ptr p), (42, .slice (some ⟨w, 0, none⟩) l.length z), (43, .int .i64 l.length), (44, .int .i64 l.length)] σ3 ∧ Same σ σ3 [] ∧ σ3.get p = some (.own (strs (l.foldl (N.layOne mk) b)) 48) ∧ p < σ3.next := by
      intro σ2 ad' z' q' l' s2 hR2 hpq' hl' hcan hrep
      have n2 := s2.1
      obtain ⟨σ3, e3, g3, s3⟩ := nbegin_inner (nd := nd) L (k + 3) n (mk := mk) (ad1 := some ⟨w, 0, none⟩) (n1 := l.length) (z1 := z) (s43 := l.length) (i1 := i) (by omega) hlv (hbl.trans hb) hl' hcan hpq' L 0 σ2 (by omega) (by omega) hR2 (by rw [List.take_zero]; exact (s2.2 p hpl (by simp)).trans hg) (by omega)
      rw [hrep, ← hfd] at g3
      have n3 := s3.1
      have s03 : Same σ σ3 [] := (hs.trans s2).fresh s3 (fun x hx => .inr (by simp at hx; omega))
      obtain ⟨n', σ4, e4, h4⟩ := nbegin_outer L k hL h hI hc hpn hl hl4 hpq hb n (i + 1) σ3 (by omega) (by omega) s03 ((hR.same s2 (by simp)).same s3 (fun x hx => by simp; rintro rfl; exact hpq hx)) g3 (by omega)
      exact ⟨n', σ4, e3.trans e4, h4⟩
    rcases S.upto_spec (h'.st v hlv) L k (by omega) (by omega) (Nat.le_refl _) mk with ⟨j, r, ad', z', q', σ2, g2, hR2, s2, hq2, hjl, hj, hh, hno⟩ | ⟨σ2, g2, s2, hno⟩
    · have htl : ((N.st v).rs.take (j + 1)).length = j + 1 := by rw [List.length_take]; omega
      obtain ⟨n', σ3, e3, h3⟩ := step s2 hR2 (fun hx => by have := hq2 p hx; omega) (by omega) (fun r hr => by
        obtain ⟨i, hi⟩ := List.mem_iff_getElem?.1 (List.mem_of_mem_take hr)
        exact (hv4.seq i r hi).1) (by unfold NS.layOne; rw [upTo_some hj hh hno])
      rw [htl] at e3
      rw [g2, bnd_some, asT_t, toList2, uncons_c, asSl_s, uncons_c, asB_b, endl_n]
      exact ⟨n', σ3, e3, h3⟩
    · obtain ⟨n', σ3, e3, h3⟩ := step (l' := []) s2 (Row.nil _ _ _ _) (by simp) (by simp) (by simp) (by unfold NS.layOne; rw [upTo_none (rs := (N.st v).rs) (m := mk) (fun r hr => hno r (by rw [List.take_length]; exact hr))]; rfl)
      rw [g2, bnd_some, asT_t, toList2, uncons_c, asSl_s, uncons_c, asB_b, endl_n]
      exact ⟨n', σ3, e3, h3⟩

theorem NS.Inv.begun (hI : N.Inv c) (h0 : N.mark = 0) {gs : GS} (hr : N.ready gs ≠ 0) : (N.begun gs (N.ready gs)).Inv (c + 1) ∧ long (N.lay gs (N.ready gs)) = false ∧ N.ready gs ≤ top ∧ (N.im.km : Int) < N.ready gs ∧ 0 < N.ready gs := by
  obtain ⟨hcan, hpos⟩ := ready_can hr
  obtain ⟨_, htop⟩ := can_top hI hcan
  obtain ⟨_, hkm, _⟩ := can_inv hcan
  have hw : N.im.work = none := by
    rcases hI.wk with ⟨_, h⟩ | ⟨h, _⟩
    · exact h
    · omega
  have hbl : long N.im.bl = false := by
    by_cases h0 : N.im.t = 0
    · rw [(hI.im.good.zero h0).2.2.2]; exact long_none
    · rw [long_false]
      intro s hs
      obtain ⟨i, hi⟩ := List.mem_iff_getElem?.1 hs
      exact (hI.im.good.blocks (by omega) i s hi).2
  have hlg := lay_long hI (N.ready gs) (gs.at_ (N.ready gs)) N.im.bl (fun v hv => at_lt hv) hbl
  have hll : (N.lay gs (N.ready gs)).length = 32 := (lay_len N _ _ _).trans hI.im.good.len
  refine ⟨⟨hI.im.begin hw hll hlg htop hkm, ?_, fun v hv => (hI.st v hv).mono (by omega), .inr ⟨hpos, _, 0, rfl⟩⟩, hlg, htop, hkm, hpos⟩
  have := hI.tc
  unfold NS.begun
  dsimp only
  simp
  split at this <;> omega
theorem nbegin_spec (L k : Nat) (hL : 100000 < L) (h : NdX σ0 σ nd g m d a F N R) (hI : N.Inv c) (hc : c ≤ 899) {G : List Nat} {gs : GS} (hG : Grp σ g G gs) :
    ∃ v σ', evCall Try.prog env L (k + 6) 11 [ptr nd] σ = some (v, σ') ∧ Kp σ σ' R ∧
      ((N.mark ≠ 0 ∧ (∃ e, v = .tuple #[.int .i64 0, e] ∧ Fr σ σ' e 9 0) ∧ Same σ σ' []) ∨ (N.mark = 0 ∧ N.ready gs = 0 ∧ (∃ e, v = .tuple #[.int .i64 0, e] ∧ Fr σ σ' e 8 0) ∧ Same σ σ' []) ∨
       (N.mark = 0 ∧ N.ready gs ≠ 0 ∧ v = .tuple #[.int .i64 (N.ready gs), .nilIface] ∧ NdX σ0 σ' nd g m d a F (N.begun gs (N.ready gs)) R)) := by
  rw [f11_eq, ld_at h.nd 7 (.int .i64 N.mark) rfl, asI_i]
  by_cases h0 : N.mark = 0
  rotate_left
  · obtain ⟨e, σ1, g1, hE, s1⟩ := wrong46 L (k + 3) σ 0 9 (by decide)
    rw [show (N.mark != 0) = true by simpa using h0, br_true, g1, bnd_some]
    exact ⟨_, σ1, rfl, h.kept s1, .inl ⟨h0, ⟨e, rfl, hE⟩, s1⟩⟩
  obtain ⟨σ1, g1, s1⟩ := nready_spec L k hL h hI hc hG
  rw [show (N.mark != 0) = false by simpa using h0, br_false, g1, bnd_some, asI_i]
  by_cases hr : N.ready gs = 0
  · obtain ⟨e, σ2, g2, hE, s2⟩ := wrong46 L (k + 3) σ1 0 8 (by decide)
    have s02 := s1.trans s2
    rw [show (N.ready gs == 0) = true by simpa using hr, br_true, g2, bnd_some]
    exact ⟨_, σ2, rfl, h.kept s02, .inr (.inl ⟨h0, hr, ⟨e, rfl, hE.before s1.1⟩, s02⟩)⟩
  have h1 := h.idle s1
  obtain ⟨σ2, g2, s2⟩ := blocksS h1.im L (k + 4)
  have hbl := h1.im.blen
  have e1 : (strs N.im.bl).toArray.toList = strs N.im.bl := rfl
  rw [show (N.ready gs == 0) = false by simpa using hr, br_false, ld_at h1.nd 1 (ptr m) rfl, asP_p, g2, bnd_some, asAgL_a, e1, need_of (by rw [strs_len, hbl]; rfl), tmp_put2 σ2 _ (strs N.im.bl) 48 (by rw [strs_len, hbl]; rfl) (strs_one _)]
  have s3 : Same σ2 (σ2.new (.own (strs N.im.bl) 48)) [] := Same.new _ _ _
  have g3 : (σ2.new (.own (strs N.im.bl) 48)).get σ2.next = some (.own (strs N.im.bl) 48) := get_new_same _ _
  have n3 : (σ2.new (.own (strs N.im.bl) 48)).next = σ2.next + 1 := rfl
  generalize σ2.new (.own (strs N.im.bl) 48) = σ3 at s3 g3 n3
  have s03 := (s1.trans s2).trans s3
  have h3 := h.idle s03
  obtain ⟨ad, z, q, σ4, g4, hR4, s4, hq4⟩ := atg_spec L (k + 3) (by omega) (hG.idle s03) (N.ready gs)
  rw [ld_at h3.nd 6 (ptr g) rfl, asP_p, g4, bnd_some, asSl_s]
  have s04 := s03.trans s4
  have n02 := (s1.trans s2).1
  have n4 := s4.1
  have hal := at_len gs (N.ready gs)
  obtain ⟨n', σ5, e5, s05, g5, l5⟩ := nbegin_outer L (k + 2) hL h hI hc (mk := N.ready gs) (p := σ2.next) (by omega) (l := gs.at_ (N.ready gs)) (fun v hv => at_lt hv) hal (fun hx => by have := hq4 _ hx; omega) hbl L 0 σ4 (by omega) (by omega) s04 hR4 (by rw [List.take_zero]; exact (s4.2 _ (by omega) (by simp)).trans g3) (by omega)
  have e5' := e5
  rw [f11_l10, decide_eq_false (by omega), br_false] at e5
  have h5 := h.idle s05
  obtain ⟨hI', hlg, htop, hkm, hpos⟩ := hI.begun h0 hr
  have hll : (N.lay gs (N.ready gs)).length = 32 := (lay_len N _ _ _).trans hbl
  have hw : N.im.work = none := by
    rcases hI.wk with ⟨_, h⟩ | ⟨h, _⟩
    · exact h
    · omega
  obtain ⟨v, σ6, g6, k6, hor⟩ := begin_spec h5.im L (k + 1) hL hI.im.ok hll (N.ready gs)
  rw [ld_at h5.nd (0 + 1) (ptr m) rfl, asP_p, lds_all (n := 32) g5 (by rw [strs_len]; exact hll.symm)] at e5
  have g6' : evCall Try.prog env L (k + 5) 34 [ptr m, .agg (strs ((gs.at_ (N.ready gs)).foldl (N.layOne (N.ready gs)) N.im.bl)).toArray, .int .i64 (N.ready gs)] σ5 = some (v, σ6) := g6
  rw [g6', bnd_some] at e5
  rcases hor with ⟨hx, _⟩ | ⟨_, hx | hx, _⟩ | ⟨_, _, _, hx, _⟩ | ⟨_, _, _, _, rfl, hI6⟩
  · exact absurd hw hx
  · rw [hlg] at hx; cases hx
  · omega
  · omega
  obtain ⟨h6, kp6⟩ := h5.image hI6 k6
  obtain ⟨σ7, g7, h7, kp7⟩ := h6.own (N.ready gs)
  rw [eqNil_nil, not_true, br_false, g7] at e5
  refine ⟨_, σ7, e5, ((h.kept s05).trans kp6).trans kp7, .inr (.inr ⟨h0, hr, rfl, h7⟩)⟩
end
end Go.AM.Bp

/-
  THE NODE: drop, Step, Crash.
-/
namespace Go.AM.Bp
open Go.Proofs

theorem ImS.perm {σ0 σ : St} {m d : Nat} {s : IS} {Rs Gs : List (List Nat)} (h : ImS σ0 σ m d s Rs) (f : Nat → Nat) (hf : ∀ i j, f i = f j → i = j) (hg : ∀ i G, Gs[i]? = some G → Rs[f i]? = some G) : ImS σ0 σ m d s Gs := by
  obtain ⟨F, G, w, a1, a2, a3, a4, a5⟩ := h.ex
  refine ⟨F, G, w, a1, a2, a3.map (fun i => if i < 2 then i else f (i - 2) + 2) (fun i j e => ?_) (fun i H hH => ?_), a4, a5⟩
  · by_cases hi : i < 2 <;> by_cases hj : j < 2 <;> simp [hi, hj] at e <;> first | omega | (have := hf _ _ e; omega)
  · match i, hH with
    | 0, hH => exact hH
    | 1, hH => exact hH
    | i + 2, hH => exact hg i H hH
section
variable {σ0 σ : St} {nd g m d : Nat} {a : Nat → Nat} {F : Nat → List Nat} {N : NS} {R : List (List Nat)} {c : Nat}
/-- One more thing beside the node. -/
theorem NdX.push (h : NdX σ0 σ nd g m d a F N R) {σ' : St} (hs : Same σ σ' []) {X : List Nat} (hX : ∀ q ∈ X, σ.next ≤ q ∧ q < σ'.next) : NdX σ0 σ' nd g m d a F N (X :: R) := by
  have hi := h.idle hs
  refine ⟨(h.im.push2 hs hX).perm (fun i => if i < 5 then i + 1 else if i = 5 then 0 else i) (fun i j e => ?_) (fun i H hH => ?_), hi.nd, hi.st⟩
  · by_cases h1 : i < 5 <;> by_cases h2 : j < 5 <;> by_cases h3 : i = 5 <;> by_cases h4 : j = 5 <;> simp [h1, h2, h3, h4] at e <;> omega
  · match i, hH with
    | 0, hH => exact hH
    | 1, hH => exact hH
    | 2, hH => exact hH
    | 3, hH => exact hH
    | 4, hH => exact hH
    | 5, hH => exact hH
    | i + 6, hH => exact hH
theorem NdX.pop {X : List Nat} (h : NdX σ0 σ nd g m d a F N (X :: R)) : NdX σ0 σ nd g m d a F N R := by
  refine ⟨h.im.perm (fun i => if i < 5 then i else i + 1) (fun i j e => ?_) (fun i H hH => ?_), h.nd, h.st⟩
  · by_cases h1 : i < 5 <;> by_cases h2 : j < 5 <;> simp [h1, h2] at e <;> omega
  · match i, hH with
    | 0, hH => exact hH
    | 1, hH => exact hH
    | 2, hH => exact hH
    | 3, hH => exact hH
    | 4, hH => exact hH
    | i + 5, hH => exact hH

/-! drop. -/
theorem dropL_snoc (N : NS) (mk : Int) (l : List Nat) (v : Nat) (hv : v ∉ l) : N.dropL mk (l ++ [v]) = { N.dropL mk l with st := upd (N.dropL mk l).st v (if (N.st v).mark ≠ mk then (N.st v).drop mk else N.st v) } := by
  unfold NS.dropL
  simp only [NS.mk.injEq, true_and, and_true]
  funext u
  unfold upd
  by_cases hu : u = v
  · subst hu; simp
  · simp [hu]
theorem ndrop_loop (L k : Nat) (hL : 100000 < L) (hc : c ≤ 899) (mk : Int) {l : List Nat} (hl : ∀ v ∈ l, v < 4) (hl4 : l.length ≤ 4) (hnd : l.Nodup) {ad : Option Addr} {z : Nat} {q : List Nat} (hI : N.Inv c) : ∀ (n i : Nat) (σ : St) (F : Nat → List Nat), i ≤ l.length → l.length - i < n → Row c1 1 3 σ ad z q (ints l) → NdX σ0 σ nd g m d a F (N.dropL mk (l.take i)) (q :: R) →
    ∃ F' σ2, lpAt Try.prog env L (k + 4) 36 [true, true] [] n [(0, ptr nd), (2, .int .i64 mk), (17, .slice ad l.length z), (18, .int .i64 l.length), (19, .int .i64 i)] σ = some (.tuple #[], σ2) ∧ NdX σ0 σ2 nd g m d a F' (N.dropL mk l) (q :: R) ∧ Kp σ σ2 (q :: R)
  | 0, i, σ, F, _, hn, _, _ => by omega
  | n + 1, i, σ, F, hi, hn, hR, h => by
    rw [f36_l2]
    by_cases hie : i = l.length
    · subst hie
      rw [List.take_length] at h
      rw [decide_eq_false (by omega), br_false]
      exact ⟨F, σ, rfl, h, Kp.refl _ _⟩
    have hget : l[i]? = some l[i] := List.getElem?_eq_getElem (by omega)
    have hlv := hl l[i] (List.getElem_mem _)
    have htk : l.take (i + 1) = l.take i ++ [l[i]] := by rw [List.take_add_one, hget]; rfl
    have hno : l[i] ∉ l.take i := by
      intro hx
      have h2 := hnd
      rw [← List.take_append_drop i l, List.nodup_append] at h2
      have hdr : l.drop i = l[i] :: l.drop (i + 1) := List.drop_eq_getElem_cons (by omega)
      exact h2.2.2 _ hx _ (by rw [hdr]; exact List.mem_cons_self) rfl
    generalize l[i] = v at *
    have hds := dropL_snoc N mk (l.take i) v hno
    rw [← htk] at hds
    have hsv : (N.dropL mk (l.take i)).st v = N.st v := by unfold NS.dropL; simp [hno]
    obtain ⟨w, e, hat⟩ := hR.at (fun _ => rfl) (i := i) (a := (v : Int)) (by unfold ints; rw [List.getElem?_map, hget]; rfl)
    subst e
    have hw : IntKind.wrap .i64 ((i : Int) + 1) = ((i + 1 : Nat) : Int) := by rw [wrap_in _ (by omega) (by omega)]; omega
    have hv4 := hI.st v hlv
    have hlen := hv4.len
    have hf1 := hv4.f1
    have hS := h.st v hlv
    rw [hsv] at hS
    have iv : inRange (v : Int) 4 = true := by simp [inRange]; omega
    have ho : 0 + 2 + Int.toNat (v : Int) * 1 = 2 + v := by simp
    rw [decide_eq_true (by omega), br_true, need_of (by simp [inRange]; omega), adr_some, hat 0 (.int .i64 v) _ (by omega) rfl (by simp), asI_i, need_of iv, ho, h.stg v hlv, asP_p, S.dropped_spec hS L (k + 3) hf1 (by omega), bnd_some, asT_t, toList2, uncons_c, asI_i, uncons_c, asI_i, endl_n, hw]
    by_cases hm : (N.st v).mark = mk
    · rw [show ((N.st v).mark != mk) = false by simpa using hm, br_false]
      rw [if_neg (by simpa using hm)] at hds
      have hE : N.dropL mk (l.take (i + 1)) = N.dropL mk (l.take i) := by
        rw [hds]
        have : upd (N.dropL mk (l.take i)).st v (N.st v) = (N.dropL mk (l.take i)).st := by
          funext u; unfold upd; by_cases hu : u = v
          · subst hu; simp [hsv]
          · simp [hu]
        rw [this]
      exact ndrop_loop L k hL hc mk hl hl4 hnd hI n (i + 1) σ F (by omega) (by omega) hR (by rw [hE]; exact h)
    · rw [if_pos hm] at hds
      rw [show ((N.st v).mark != mk) = true by simpa using hm, br_true, need_of iv, h.stg v hlv, asP_p]
      have next : ∀ {σ2 : St} {F' : List Nat} {v2 : Value}, Turn σ σ2 (F v) F' → S.Stg σ2 (a v) F' ((N.st v).drop mk).first ((N.st v).drop mk).rs ((N.st v).drop mk).rs.length ((N.st v).drop mk).mark →
          ∃ F'' σ3, lpAt Try.prog env L (k + 4) 36 [true, true] [] n [(0, ptr nd), (2, .int .i64 mk), (17, .slice (some ⟨w, 0, none⟩) l.length z), (18, .int .i64 l.length), (19, .int .i64 ((i + 1 : Nat) : Int))] σ2 = some (.tuple #[], σ3) ∧ NdX σ0 σ3 nd g m d a F'' (N.dropL mk l) (q :: R) ∧ Kp σ σ3 (q :: R) := by
        intro σ2 F' v2 hT hS2
        obtain ⟨h2, k2⟩ := h.turn v hlv hT hS2
        rw [← hds] at h2
        have hR2 := hR.moved (fun x hx => k2 q (by simp) x hx) (h2.lt (H := q) (by simp))
        obtain ⟨F'', σ3, e3, h3, k3⟩ := ndrop_loop L k hL hc mk hl hl4 hnd hI n (i + 1) σ2 _ (by omega) (by omega) hR2 h2
        exact ⟨F'', σ3, e3, h3, k2.trans k3⟩
      rcases S.drop_spec hS L k (by omega) (by omega) (Nat.le_refl _) hf1 (by omega) mk with ⟨j, r, F', σ2, g2, hS2, hT2, hjl, hj, hh, hno2⟩ | ⟨w2, σ2, g2, _, s2, hno2⟩
      · have hup := upTo_some hj hh hno2
        rw [g2, bnd_some]
        refine next (v2 := .nilIface) hT2 ?_
        unfold SS.drop
        rw [hup]
        dsimp only
        rw [List.length_drop]
        exact hS2
      · have hup := upTo_none (rs := (N.st v).rs) (m := mk) (fun r hr => hno2 r (by rw [List.take_length]; exact hr))
        rw [g2, bnd_some]
        refine next (v2 := w2) (.idle s2 hS.lt) ?_
        unfold SS.drop
        rw [hup]
        exact hS.idle s2
theorem ndrop_spec (L k : Nat) (hL : 100000 < L) (hc : c ≤ 899) (h : NdX σ0 σ nd g m d a F N R) (hI : N.Inv c) {G : List Nat} {gs : GS} (hG : Grp σ g G gs) :
    ∃ F' σ', evCall Try.prog env L (k + 5) 36 [ptr nd] σ = some (.tuple #[], σ') ∧ NdX σ0 σ' nd g m d a F' (N.drop gs) R ∧ Kp σ σ' R := by
  obtain ⟨ad, z, q, σ1, g1, hR, s1, hq⟩ := atg_spec L (k + 2) (by omega) hG (N.im.km : Int)
  have h1 := h.push s1 (X := q) (fun x hx => ⟨hq x hx, hR.lt x hx⟩)
  have hal := at_len gs (N.im.km : Int)
  rw [f36_eq, ld_at h.nd 1 (ptr m) rfl, asP_p, markS h.im L (k + 3), bnd_some, asI_i, ld_at h.nd 6 (ptr g) rfl, asP_p, g1, bnd_some, asSl_s]
  obtain ⟨F', σ2, e2, h2, k2⟩ := ndrop_loop L k hL hc (N.im.km : Int) (l := gs.at_ (N.im.km : Int)) (fun v hv => at_lt hv) hal (at_nodup _ _) hI L 0 σ1 F (by omega) (by omega) hR (by
    have : N.dropL (N.im.km : Int) ((gs.at_ (N.im.km : Int)).take 0) = N := by unfold NS.dropL; simp
    rw [this]; exact h1)
  exact ⟨F', σ2, e2, h2.pop, (h.kept s1).trans (fun H hH => k2 H (List.mem_cons_of_mem _ hH))⟩

/-! Step. -/
theorem NS.Inv.step (hI : N.Inv c) (hc : c ≤ 899) (gs : GS) : (N.step gs).Inv c := by
  unfold NS.step
  cases hw : N.im.work with
  | none => exact hI
  | some p =>
    obtain ⟨mk', bl', k⟩ := p
    have htc := hI.tc
    rw [hw] at htc
    simp at htc
    have hinv := hI.im.step (by omega) hw
    obtain ⟨hm0, bl, k', hwk⟩ : 0 < N.mark ∧ ∃ bl k, N.im.work = some (N.mark.toNat, bl, k) := by
      rcases hI.wk with ⟨_, h⟩ | h
      · rw [hw] at h; cases h
      · exact h
    rw [hw] at hwk
    cases hwk
    have hok := (hI.im.ok.bw _ _ _ hw).1
    dsimp only
    by_cases hk : k = 34
    · rw [if_pos hk]
      subst hk
      refine NS.Inv.dropL (N := { N with im := stepS N.im N.mark.toNat bl' 34, mark := 0 }) ⟨hinv, ?_, hI.st, .inl ⟨rfl, rfl⟩⟩ _ _
      show N.im.t + 1 + 0 ≤ c
      omega
    · rw [if_neg hk]
      refine ⟨hinv, ?_, hI.st, .inr ⟨hm0, ?_⟩⟩
      · unfold stepS
        dsimp only
        split
        · dsimp only; simp; omega
        · split
          · dsimp only; simp; omega
          · split
            · dsimp only; simp; omega
            · omega
      · unfold stepS
        dsimp only
        split
        · exact ⟨_, _, rfl⟩
        · split
          · exact ⟨_, _, rfl⟩
          · split
            · exact ⟨_, _, rfl⟩
            · omega
theorem nstep_spec (L k : Nat) (hL : 100000 < L) (hc : c ≤ 899) (h : NdX σ0 σ nd g m d a F N R) (hI : N.Inv c) {G : List Nat} {gs : GS} (hG : Grp σ g G gs) (hGR : G ∈ R) :
    ∃ v F' σ', evCall Try.prog env L (k + 9) 12 [ptr nd] σ = some (v, σ') ∧ Kp σ σ' R ∧
      ((N.mark = 0 ∧ (∃ e, v = .tuple #[.bool false, e] ∧ Fr σ σ' e 9 0) ∧ Same σ σ' []) ∨
       (∃ bl' k, N.mark ≠ 0 ∧ N.im.work = some (N.mark.toNat, bl', k) ∧ v = .tuple #[.bool (decide (k = 34)), .nilIface] ∧ NdX σ0 σ' nd g m d a F' (N.step gs) R)) := by
  rw [f12_eq, ld_at h.nd 7 (.int .i64 N.mark) rfl, asI_i]
  by_cases h0 : N.mark = 0
  · obtain ⟨e, σ1, g1, hE, s1⟩ := wrong46 L (k + 6) σ 0 9 (by decide)
    rw [show (N.mark == 0) = true by simpa using h0, br_true, g1, bnd_some]
    exact ⟨_, F, σ1, rfl, h.kept s1, .inl ⟨h0, ⟨e, rfl, hE⟩, s1⟩⟩
  obtain ⟨hm0, bl, j, hwk⟩ : 0 < N.mark ∧ ∃ bl k, N.im.work = some (N.mark.toNat, bl, k) := by
    rcases hI.wk with ⟨h, _⟩ | h
    · exact absurd h h0
    · exact h
  rw [show (N.mark == 0) = false by simpa using h0, br_false, ld_at h.nd 1 (ptr m) rfl, asP_p]
  obtain ⟨v, σ1, g1, k1, hor⟩ := step_spec h.im L k hL hI.im.ok
  rw [g1, bnd_some]
  rcases hor with ⟨hw, _⟩ | ⟨mk', bl', j', hw, rfl, hI1⟩
  · rw [hwk] at hw; cases hw
  rw [hwk] at hw
  cases hw
  obtain ⟨h1, kp1⟩ := h.image hI1 k1
  rw [asT_t, toList2, uncons_c, asB_b, uncons_c, endl_n]
  by_cases hk : j = 34
  · obtain ⟨σ2, g2, h2, kp2⟩ := h1.own 0
    have hE : N.step gs = NS.drop { N with im := stepS N.im N.mark.toNat bl j, mark := 0 } gs := by unfold NS.step; rw [hwk]; dsimp only; rw [if_pos hk]
    have hG2 : Grp σ2 g G gs := hG.moved (fun q hq => (kp1.trans kp2) G hGR q hq) (h2.lt hGR)
    have hI2 : NS.Inv { N with im := stepS N.im N.mark.toNat bl j, mark := 0 } c := by
      have htc := hI.tc
      rw [hwk] at htc
      simp at htc
      refine ⟨hI.im.step (by omega) hwk, ?_, hI.st, .inl ⟨rfl, by unfold stepS; rw [if_neg (by omega), if_neg (by omega), if_neg (by omega)]⟩⟩
      unfold stepS; rw [if_neg (by omega), if_neg (by omega), if_neg (by omega)]
      show N.im.t + 1 + 0 ≤ c
      omega
    obtain ⟨F', σ3, g3, h3, kp3⟩ := ndrop_spec L (k + 3) hL hc h2 hI2 hG2
    rw [decide_eq_true hk, br_true, g2, g3, bnd_some, asT_t, toList0, endl_n, wrong46_nil L (k + 6), bnd_some]
    exact ⟨_, F', σ3, rfl, (kp1.trans kp2).trans kp3, .inr ⟨bl, j, h0, hwk, by rw [decide_eq_true hk], by rw [hE]; exact h3⟩⟩
  · have hE : N.step gs = { N with im := stepS N.im N.mark.toNat bl j } := by unfold NS.step; rw [hwk]; dsimp only; rw [if_neg hk]
    rw [decide_eq_false hk, br_false, wrong46_nil L (k + 6), bnd_some]
    exact ⟨_, F, σ1, rfl, kp1, .inr ⟨bl, j, h0, hwk, by rw [decide_eq_false hk], by rw [hE]; exact h1⟩⟩

/-! Crash. -/
def NS.crashed (N : NS) (keep : Int) : NS :=
  match opn (rd (D.lay (D.bit keep) 0 N.im.S N.im.W)) with
  | some (t, km, bl) => { N with im := ⟨D.lay (D.bit keep) 0 N.im.S N.im.W, [], t, km, bl, none⟩, mark := 0 }
  | none => N
def NS.crash (N : NS) (keep : Int) (gs : GS) : NS := (N.crashed keep).drop gs
theorem crashed_is (hI : N.Inv c) (hc : c ≤ 899) (keep : Int) : ∃ t km bl, Good (rd (D.lay (D.bit keep) 0 N.im.S N.im.W)) t km bl ∧ t ≤ c ∧ N.crashed keep = { N with im := ⟨D.lay (D.bit keep) 0 N.im.S N.im.W, [], t, km, bl, none⟩, mark := 0 } ∧
    ((t = N.im.t ∧ km = N.im.km ∧ bl = N.im.bl) ∨ (t = N.im.t + 1 ∧ N.im.work = some (km, bl, 34) ∧ D.bit keep 0 = true)) := by
  have htc := hI.tc
  rcases hI.im.crash (D.bit keep) with hg | ⟨mk', bl', hw, hb, hg⟩
  · exact ⟨_, _, _, hg, by split at htc <;> omega, by unfold NS.crashed; rw [hg.opn], .inl ⟨rfl, rfl, rfl⟩⟩
  · rw [hw] at htc; simp at htc
    exact ⟨_, _, _, hg, htc, by unfold NS.crashed; rw [hg.opn], .inr ⟨rfl, hw, hb⟩⟩
theorem NS.Inv.crashed (hI : N.Inv c) (hc : c ≤ 899) (keep : Int) : (N.crashed keep).Inv c := by
  obtain ⟨t, km, bl, hg, ht, e, _⟩ := crashed_is hI hc keep
  rw [e]
  exact ⟨⟨(D.lay_len _ _ _ _).trans hI.im.sl, by show t ≤ 900; omega, hg, rfl⟩, ht, hI.st, .inl ⟨rfl, rfl⟩⟩
theorem NS.Inv.crash (hI : N.Inv c) (hc : c ≤ 899) (keep : Int) (gs : GS) : (N.crash keep gs).Inv c := (hI.crashed hc keep).dropL _ _
theorem ncrash_spec (L k : Nat) (hL : 100000 < L) (hc : c ≤ 899) (h : NdX σ0 σ nd g m d a F N R) (hI : N.Inv c) {G : List Nat} {gs : GS} (hG : Grp σ g G gs) (hGR : G ∈ R) (keep : Int) :
    ∃ m' F' σ', evCall Try.prog env L (k + 12) 18 [ptr nd, .int .u64 keep] σ = some (.nilIface, σ') ∧ NdX σ0 σ' nd g m' d a F' (N.crash keep gs) R ∧ Kp σ σ' R := by
  obtain ⟨t, km, bl, hg, ht, hE, _⟩ := crashed_is hI hc keep
  obtain ⟨FD, σ1, g1, hD1, hO1, k1⟩ := crashS h.im hI.im.ok L (k + 8) hL keep
  have hsl : (D.lay (D.bit keep) 0 N.im.S N.im.W).length = 66 := (D.lay_len _ _ _ _).trans hI.im.sl
  have hn1 : σ1.get nd = _ := (k1 [nd] (by simp) nd (by simp)).trans h.nd
  obtain ⟨m2, σ2, g2, hI2, k2, _⟩ := openGood hD1 hO1 hsl L k hL hg (by omega)
  have hk12 : Kp σ σ2 (F 0 :: F 1 :: F 2 :: F 3 :: [nd] :: R) := Kp.trans k1 k2
  have hn2 : σ2.get nd = some (.own (ndc d m (a 0) (a 1) (a 2) (a 3) g N.mark) 82) := (hk12 [nd] (by simp) nd (by simp)).trans h.nd
  -- the node's image, and marker
  have g3 := fun (K : St → Res) => put_at hn2 1 (.pointer (some ⟨m2, 0, none⟩)) (by simp [ndc]) rfl K
  have s3 := Same.set σ2 nd (.own (List.set (ndc d m (a 0) (a 1) (a 2) (a 3) g N.mark) 1 (.pointer (some ⟨m2, 0, none⟩))) 82)
  have n3 : (σ2.set nd (.own (List.set (ndc d m (a 0) (a 1) (a 2) (a 3) g N.mark) 1 (.pointer (some ⟨m2, 0, none⟩))) 82)).get nd = some (.own (ndc d m2 (a 0) (a 1) (a 2) (a 3) g N.mark) 82) := get_set_same _ _ _
  generalize σ2.set nd (.own (List.set (ndc d m (a 0) (a 1) (a 2) (a 3) g N.mark) 1 (.pointer (some ⟨m2, 0, none⟩))) 82) = σ3 at g3 s3 n3
  have hndl := hI2.lt (H := [nd]) (by simp) nd (by simp)
  have hm : ∀ v, v < 4 → F v ∈ F 0 :: F 1 :: F 2 :: F 3 :: [nd] :: R := fun v hv => List.mem_of_getElem? (fl_get F _ v hv)
  have hT : Turn σ2 σ3 [nd] [nd] := ⟨s3, fun q hq => ⟨.inl hq, by have := s3.1; simp at hq; omega⟩⟩
  have hI3 := hI2.turned 4 rfl hT
  rw [four_one] at hI3
  have h3 : NdX σ0 σ3 nd g m2 d a F { N with im := ⟨D.lay (D.bit keep) 0 N.im.S N.im.W, [], t, km, bl, none⟩ } R :=
    ⟨hI3, n3, fun v hv => ((h.st v hv).moved (hk12 _ (hm v hv)) (hI2.lt (hm v hv))).same s3 (fun q hq => hI2.dis v 4 (by omega) (fl_get F _ v hv) rfl q hq)⟩
  have kp3 : Kp σ2 σ3 R := fun H hH q hq => by
    obtain ⟨i, hi⟩ := List.mem_iff_getElem?.1 hH
    exact s3.2 q (hI2.lt (by simp [hH]) q hq) (hI2.dis (i + 5) 4 (by omega) (by simpa using hi) rfl q hq)
  obtain ⟨σ4, g4, h4, kp4⟩ := h3.own 0
  have kp02 : Kp σ σ2 R := fun H hH => hk12 H (by simp [hH])
  have kp04 : Kp σ σ4 R := (kp02.trans kp3).trans kp4
  have hG4 : Grp σ4 g G gs := hG.moved (fun q hq => kp04 G hGR q hq) (h4.lt hGR)
  have hI4 := hI.crashed hc keep
  rw [hE] at hI4
  obtain ⟨F', σ5, g5, h5, kp5⟩ := ndrop_spec L (k + 6) hL hc h4 hI4 hG4
  refine ⟨m2, F', σ5, ?_, by unfold NS.crash; rw [hE]; exact h5, kp04.trans kp5⟩
  rw [f18_eq, ld_at h.nd 0 (ptr d) rfl, asP_p, g1, bnd_some, asT_t, toList0, endl_n, f42_eq, ld_at hn1 0 (ptr d) rfl, asP_p, g2, bnd_some, asT_t, toList2, uncons_c, asP_p, uncons_c, endl_n, eqNil_nil, not_true, br_false, g3, g4, bnd_some, eqNil_nil, not_true, br_false, g5, bnd_some, asT_t, toList0, endl_n]
end
end Go.AM.Bp

/-
  THE NODE: Promote, Image, Applied; steps in a row.
-/
namespace Go.AM.Bp
open Go.Proofs

def NS.steps (g : GS) : Nat → NS → NS
  | 0, N => N
  | n + 1, N => NS.steps g n (N.step g)
theorem step_idle {N : NS} (g : GS) (h : N.im.work = none) : N.step g = N := by unfold NS.step; rw [h]
theorem steps_idle (g : GS) : ∀ (n : Nat) {N : NS}, N.im.work = none → N.steps g n = N
  | 0, N, h => rfl
  | n + 1, N, h => by unfold NS.steps; rw [step_idle g h]; exact steps_idle g n h
theorem NS.Inv.steps {c : Nat} (hc : c ≤ 899) (g : GS) : ∀ (n : Nat) {N : NS}, N.Inv c → (N.steps g n).Inv c
  | 0, N, h => h
  | n + 1, N, h => NS.Inv.steps hc g n (h.step hc g)
theorem step_work {N : NS} (g : GS) {mk' k : Nat} {bl' : List ByteArray} (h : N.im.work = some (mk', bl', k)) (hk : k < 34) : (N.step g).im.work = some (mk', bl', k + 1) ∧ (N.step g).mark = N.mark ∧ (N.step g).st = N.st ∧ (N.step g).im.t = N.im.t ∧ (N.step g).im.km = N.im.km ∧ (N.step g).im.bl = N.im.bl := by
  unfold NS.step
  rw [h]
  dsimp only
  rw [if_neg (by omega)]
  unfold stepS
  dsimp only
  split
  · exact ⟨rfl, rfl, rfl, rfl, rfl, rfl⟩
  · split
    · rename_i h32; subst h32; exact ⟨rfl, rfl, rfl, rfl, rfl, rfl⟩
    · split
      · rename_i h33; subst h33; exact ⟨rfl, rfl, rfl, rfl, rfl, rfl⟩
      · omega
theorem step_last {N : NS} (g : GS) {mk' : Nat} {bl' : List ByteArray} (h : N.im.work = some (mk', bl', 34)) : N.step g = NS.drop { N with im := ⟨D.lay (fun _ => true) 0 N.im.S N.im.W, [], N.im.t + 1, mk', bl', none⟩, mark := 0 } g := by
  unfold NS.step
  rw [h]
  dsimp only
  rw [if_pos rfl]
  unfold stepS
  rw [if_neg (by omega), if_neg (by omega), if_neg (by omega)]
theorem drop_im (N : NS) (g : GS) : (N.drop g).im = N.im := rfl
theorem drop_mark (N : NS) (g : GS) : (N.drop g).mark = N.mark := rfl
/-- All that is left. -/
theorem steps_done (g : GS) {mk' : Nat} {bl' : List ByteArray} : ∀ (n k : Nat) {N : NS}, N.im.work = some (mk', bl', k) → k + n = 34 →
    ∃ S', N.steps g (n + 1) = NS.drop { N with im := ⟨S', [], N.im.t + 1, mk', bl', none⟩, mark := 0 } g
  | 0, k, N, h, hk => by
    have : k = 34 := by omega
    subst this
    exact ⟨_, step_last g h⟩
  | n + 1, k, N, h, hk => by
    obtain ⟨h1, h2, h3, h4, h5, h6⟩ := step_work g h (by omega)
    obtain ⟨S', e⟩ := steps_done g n (k + 1) h1 (by omega)
    refine ⟨S', ?_⟩
    show NS.steps g (n + 1) (N.step g) = _
    rw [e, h4]
    unfold NS.drop NS.dropL
    simp only [h3]
theorem steps_add (g : GS) : ∀ (m n : Nat) (N : NS), N.steps g (m + n) = (N.steps g m).steps g n
  | 0, n, N => by rw [Nat.zero_add]; rfl
  | m + 1, n, N => by
    rw [show m + 1 + n = (m + n) + 1 by omega]
    show NS.steps g (m + n) (N.step g) = _
    rw [steps_add g m n]
    rfl
theorem steps_full (g : GS) {mk' k : Nat} {bl' : List ByteArray} {N : NS} (h : N.im.work = some (mk', bl', k)) (hk : k ≤ 34) (n : Nat) (hn : 35 - k ≤ n) : ∃ S', N.steps g n = NS.drop { N with im := ⟨S', [], N.im.t + 1, mk', bl', none⟩, mark := 0 } g := by
  obtain ⟨S', e⟩ := steps_done g (34 - k) k h (by omega)
  refine ⟨S', ?_⟩
  rw [show n = (34 - k + 1) + (n - (35 - k)) by omega, steps_add, e, steps_idle _ _ (by rw [drop_im])]

section
variable {σ0 σ : St} {nd g m d : Nat} {a : Nat → Nat} {F : Nat → List Nat} {N : NS} {R : List (List Nat)} {c : Nat}

/-! Promote. -/
theorem cut_loop (L k : Nat) (hc : c ≤ 899) : ∀ (n v : Nat) (s : Int) (σ : St) (F : Nat → List Nat) (N : NS), v ≤ 4 → 4 - v < n → N.Inv c → 0 ≤ s → s ≤ 1000 * v → NdX σ0 σ nd g m d a F N R →
    ∃ F' σ', lpAt Try.prog env L (k + 1) 17 [true, true, true, true, false, true] [] n [(3, .int .i64 s), (18, .agg [ptr (a 0), ptr (a 1), ptr (a 2), ptr (a 3)].toArray), (19, .int .i64 v)] σ = some (.int .i64 (s + (((List.range 4).drop v).map fun v => ((N.st v).rs.length : Int)).sum), σ') ∧
      NdX σ0 σ' nd g m d a F' { N with st := fun u => if v ≤ u ∧ u < 4 then (N.st u).cut else N.st u } R ∧ Kp σ σ' R
  | 0, v, s, σ, F, N, _, hn, _, _, _, _ => by omega
  | n + 1, v, s, σ, F, N, hv, hn, hI, hs0, hs1, h => by
    have el := f17_l7 L (k + 1) n σ s (some ⟨a 0, 0, none⟩) (some ⟨a 1, 0, none⟩) (some ⟨a 2, 0, none⟩) (some ⟨a 3, 0, none⟩) (v : Int)
    by_cases hv4 : v = 4
    · subst hv4
      rw [decide_eq_false (by decide), br_false] at el
      have e0 : (List.range 4).drop 4 = [] := rfl
      refine ⟨F, σ, el.trans (by rw [e0]; simp), ?_, Kp.refl _ _⟩
      have : (fun u => if 4 ≤ u ∧ u < 4 then (N.st u).cut else N.st u) = N.st := by funext u; rw [if_neg (by omega)]
      rw [this]; exact h
    have hi := hI.st v (by omega)
    have hlen := hi.len
    have hf1 := hi.f1
    obtain ⟨σ1, g1, hS1, hT1⟩ := S.cut_spec (h.st v (by omega)) L k
    have hw : IntKind.wrap .i64 ((v : Int) + 1) = ((v + 1 : Nat) : Int) := by rw [wrap_in _ (by omega) (by omega)]; omega
    have hw2 : IntKind.wrap .i64 (s + ((N.st v).rs.length : Int)) = s + ((N.st v).rs.length : Int) := wrap_in _ (by omega) (by omega)
    rw [decide_eq_true (by omega), br_true, need_of (by simp [inRange]; omega), show ∀ K : Value → Res, nth [Value.pointer (some ⟨a 0, 0, none⟩), Value.pointer (some ⟨a 1, 0, none⟩), Value.pointer (some ⟨a 2, 0, none⟩), Value.pointer (some ⟨a 3, 0, none⟩)] (Int.toNat (v : Int) * 1) K = K (ptr (a v)) from fun K => ptr_nth a v (by omega) K, asP_p, g1, bnd_some, asI_i, hw, hw2] at el
    obtain ⟨h1, k1⟩ := h.turn v (by omega) hT1 (s := (N.st v).cut) hS1
    have hI1 : NS.Inv { N with st := upd N.st v (N.st v).cut } c := ⟨hI.im, hI.tc, fun u hu => by
      dsimp only
      by_cases e : u = v
      · subst e; rw [upd_same]; exact (hI.st u hu).cut
      · rw [upd_ne _ _ e]; exact hI.st u hu, hI.wk⟩
    obtain ⟨F', σ2, e2, h2, k2⟩ := cut_loop L k hc n (v + 1) (s + ((N.st v).rs.length : Int)) σ1 _ _ (by omega) (by omega) hI1 (by omega) (by omega) h1
    refine ⟨F', σ2, el.trans (e2.trans ?_), ?_, k1.trans k2⟩
    · rw [range_drop v (by omega), List.map_cons, List.sum_cons]
      have : (((List.range 4).drop (v + 1)).map fun u => ((upd N.st v (N.st v).cut u).rs.length : Int)) = (((List.range 4).drop (v + 1)).map fun u => ((N.st u).rs.length : Int)) := by
        apply List.map_congr_left
        intro u hu
        rw [upd_ne]
        intro e
        subst e
        have := List.mem_drop_iff_getElem.1 hu
        obtain ⟨i, hi, e⟩ := this
        simp at e
        omega
      dsimp only
      rw [this, Int.add_assoc]
    · have : (fun u => if v ≤ u ∧ u < 4 then (N.st u).cut else N.st u) = fun u => if v + 1 ≤ u ∧ u < 4 then (upd N.st v (N.st v).cut u).cut else upd N.st v (N.st v).cut u := by
        funext u
        by_cases e : u = v
        · subst e; rw [upd_same, if_pos (by omega), if_neg (by omega)]
        · rw [upd_ne _ _ e]
          by_cases h1 : v ≤ u ∧ u < 4
          · rw [if_pos h1, if_pos (by omega)]
          · rw [if_neg h1, if_neg (by omega)]
      rw [this]
      exact h2
/-- Behind a promotion: what was being applied is, the rest falls. -/
def NS.fin (N : NS) (g : GS) : NS := N.steps g 35
def NS.cut4 (N : NS) : NS := { N with st := fun u => if u < 4 then (N.st u).cut else N.st u }
def NS.promote (N : NS) (g : GS) : NS := (N.fin g).cut4
theorem NS.Inv.cut4 (hI : N.Inv c) : N.cut4.Inv c := ⟨hI.im, hI.tc, fun v hv => by
  unfold NS.cut4; dsimp only; rw [if_pos hv]; exact (hI.st v hv).cut, hI.wk⟩
theorem NS.Inv.promote (hI : N.Inv c) (hc : c ≤ 899) (gs : GS) : (N.promote gs).Inv c := (NS.Inv.steps hc gs 35 hI).cut4
theorem fin_mark (hI : N.Inv c) (gs : GS) : (N.fin gs).mark = 0 ∧ (N.fin gs).im.work = none := by
  rcases hI.wk with ⟨h1, h2⟩ | ⟨_, bl, k, h⟩
  · unfold NS.fin; rw [steps_idle gs 35 h2]; exact ⟨h1, h2⟩
  · obtain ⟨S', e⟩ := steps_full gs h (hI.im.ok.bw _ _ _ h).1 35 (by omega)
    unfold NS.fin
    rw [e]
    exact ⟨rfl, rfl⟩
theorem steps_loop (L k : Nat) (hL : 100000 < L) (hc : c ≤ 899) {G : List Nat} {gs : GS} (hGR : G ∈ R) : ∀ (r n : Nat) (σ : St) (F : Nat → List Nat) (N : NS), r < n → N.Inv c → (∀ mk' bl' j, N.im.work = some (mk', bl', j) → 35 - j ≤ r) → NdX σ0 σ nd g m d a F N R → Grp σ g G gs →
    ∃ F' n' σ', lpAt Try.prog env L (k + 9) 17 [true, true, false] [] n [(0, ptr nd)] σ = lpAt Try.prog env L (k + 9) 17 [true, true, false] [] (n' + 1) [(0, ptr nd)] σ' ∧ NdX σ0 σ' nd g m d a F' (N.steps gs r) R ∧ Kp σ σ' R ∧ (N.steps gs r).mark = 0
  | r, 0, σ, F, N, hn, _, _, _, _ => by omega
  | 0, n + 1, σ, F, N, hn, hI, hr, h, hG => by
    rcases hI.wk with ⟨h1, h2⟩ | ⟨_, bl, k, hw⟩
    · exact ⟨F, n, σ, rfl, h, Kp.refl _ _, h1⟩
    · have := hr _ _ _ hw
      have := (hI.im.ok.bw _ _ _ hw).1
      omega
  | r + 1, n + 1, σ, F, N, hn, hI, hr, h, hG => by
    by_cases h0 : N.mark = 0
    · have hw : N.im.work = none := by
        rcases hI.wk with ⟨_, h2⟩ | ⟨h1, _⟩
        · exact h2
        · omega
      refine ⟨F, n, σ, rfl, ?_, Kp.refl _ _, ?_⟩
      · rw [steps_idle gs _ hw]; exact h
      · rw [steps_idle gs _ hw]; exact h0
    · obtain ⟨v, F1, σ1, g1, k1, hor⟩ := nstep_spec L k hL hc h hI hG hGR
      rcases hor with ⟨hx, _⟩ | ⟨bl', j, _, hw, rfl, h1⟩
      · exact absurd hx h0
      have hj := (hI.im.ok.bw _ _ _ hw).1
      have hrj := hr _ _ _ hw
      obtain ⟨F2, n2, σ2, e2, h2, k2, hm2⟩ := steps_loop L k hL hc hGR r n σ1 F1 (N.step gs) (by omega) (hI.step hc gs) (fun mk' bl'' j' hw' => by
        by_cases hj34 : j = 34
        · subst hj34
          rw [step_last gs hw] at hw'
          cases hw'
        · have := (step_work gs hw (by omega)).1
          rw [this] at hw'
          cases hw'
          omega) h1 (hG.moved (fun q hq => k1 G hGR q hq) (h1.lt hGR))
      refine ⟨F2, n2, σ2, ?_, h2, k1.trans k2, hm2⟩
      rw [f17_l3, ld_at h.nd (0 + 7) (.int .i64 N.mark) rfl, asI_i, show (N.mark != 0) = true by simpa using h0, br_true, g1, bnd_some, asT_t, toList2, uncons_c, asB_b, uncons_c, endl_n]
      exact e2
theorem npromote_spec (L k : Nat) (hL : 100000 < L) (hc : c ≤ 899) (h : NdX σ0 σ nd g m d a F N R) (hI : N.Inv c) {G : List Nat} {gs : GS} (hG : Grp σ g G gs) (hGR : G ∈ R) :
    ∃ F' σ', evCall Try.prog env L (k + 10) 17 [ptr nd] σ = some (.int .i64 ((N.fin gs).held : Nat), σ') ∧ NdX σ0 σ' nd g m d a F' (N.promote gs) R ∧ Kp σ σ' R := by
  obtain ⟨F1, n1, σ1, e1, h1, k1, hm⟩ := steps_loop L k hL hc hGR 35 L σ F N (by omega) hI (fun _ _ _ _ => by omega) h hG
  have hI1 : (N.steps gs 35).Inv c := NS.Inv.steps hc gs 35 hI
  obtain ⟨F2, σ2, e2, h2, k2⟩ := cut_loop (a := a) L (k + 8) hc L 0 0 σ1 F1 (N.steps gs 35) (by omega) (by omega) hI1 (by omega) (by omega) h1
  refine ⟨F2, σ2, ?_, ?_, k1.trans k2⟩
  · rw [f17_eq, e1, f17_l3, ld_at h1.nd (0 + 7) (.int .i64 (N.steps gs 35).mark) rfl, asI_i, show ((N.steps gs 35).mark != 0) = false by rw [hm]; rfl, br_false, lds_own (n := 4) _ h1.nd (by simp [ndc])]
    show (uncons [ptr (a 0), ptr (a 1), ptr (a 2), ptr (a 3)] _) = _
    rw [uncons_c, asP_p, uncons_c, asP_p, uncons_c, asP_p, uncons_c, asP_p, endl_n]
    refine e2.trans ?_
    unfold NS.fin NS.held
    simp [List.range, List.range.loop]
    omega
  · have : (fun u => if 0 ≤ u ∧ u < 4 then ((N.steps gs 35).st u).cut else (N.steps gs 35).st u) = fun u => if u < 4 then ((N.steps gs 35).st u).cut else (N.steps gs 35).st u := by funext u; simp
    rw [this] at h2
    exact h2

/-! Image. -/
theorem nimage_spec (L k : Nat) (h : NdX σ0 σ nd g m d a F N R) : ∃ σ', evCall Try.prog env L (k + 2) 13 [ptr nd] σ = some (.tuple #[.agg (strs N.im.bl).toArray, .int .i64 (N.im.km : Nat)], σ') ∧ Same σ σ' [] := by
  rw [f13_eq]
  have s1 : Same σ (σ.new (.own (strs noBlocks) 48)) [] := Same.new _ _ _
  have g1 : (σ.new (.own (strs noBlocks) 48)).get σ.next = some (.own (strs noBlocks) 48) := get_new_same _ _
  have n1 : (σ.new (.own (strs noBlocks) 48)).next = σ.next + 1 := rfl
  have hlit : strs noBlocks = [Value.string ⟨#[]⟩, Value.string ⟨#[]⟩, Value.string ⟨#[]⟩, Value.string ⟨#[]⟩, Value.string ⟨#[]⟩, Value.string ⟨#[]⟩, Value.string ⟨#[]⟩, Value.string ⟨#[]⟩, Value.string ⟨#[]⟩, Value.string ⟨#[]⟩, Value.string ⟨#[]⟩, Value.string ⟨#[]⟩, Value.string ⟨#[]⟩, Value.string ⟨#[]⟩, Value.string ⟨#[]⟩, Value.string ⟨#[]⟩, Value.string ⟨#[]⟩, Value.string ⟨#[]⟩, Value.string ⟨#[]⟩, Value.string ⟨#[]⟩, Value.string ⟨#[]⟩, Value.string ⟨#[]⟩, Value.string ⟨#[]⟩, Value.string ⟨#[]⟩, Value.string ⟨#[]⟩, Value.string ⟨#[]⟩, Value.string ⟨#[]⟩, Value.string ⟨#[]⟩, Value.string ⟨#[]⟩, Value.string ⟨#[]⟩, Value.string ⟨#[]⟩, Value.string ⟨#[]⟩] := rfl
  rw [← hlit]
  generalize σ.new (.own (strs noBlocks) 48) = σ1 at s1 g1 n1
  have h1 := h.idle s1
  obtain ⟨σ2, g2, s2⟩ := blocksS h1.im L k
  have h2 := h1.idle s2
  have g12 : σ2.get σ.next = _ := (s2.2 σ.next (by omega) (by simp)).trans g1
  have hbl := h1.im.blen
  have e1 : (strs N.im.bl).toArray.toList = strs N.im.bl := rfl
  have hput := fun (K : St → Res) => put_all (ws := strs N.im.bl) g12 (by rw [strs_len, hbl]; rfl) (strs_one _) K
  have s3 := Same.set σ2 σ.next (.own (strs N.im.bl) 48)
  have g3 : (σ2.set σ.next (.own (strs N.im.bl) 48)).get σ.next = some (.own (strs N.im.bl) 48) := get_set_same _ _ _
  generalize σ2.set σ.next (.own (strs N.im.bl) 48) = σ3 at hput s3 g3
  rw [ld_at h1.nd 1 (ptr m) rfl, asP_p, g2, bnd_some, asAgL_a, e1, ld_at h2.nd 1 (ptr m) rfl, asP_p, ld_at h1.nd 1 (ptr m) rfl, asP_p, chk_same, markS h2.im L k, bnd_some, asI_i, need_of (by rw [strs_len, hbl]; rfl), hput, lds_all (n := 32) g3 (by rw [strs_len, hbl])]
  exact ⟨σ3, rfl, (s1.trans s2).fresh s3 (fun x hx => .inr (by simp at hx; omega))⟩

/-! Applied. -/
def NS.apl (N : NS) (v : Nat) : Int := (N.st v).first - 1
def apC (N : NS) (v : Nat) : List Value := [.int .i64 (if 0 < v then N.apl 0 else 0), .int .i64 (if 1 < v then N.apl 1 else 0), .int .i64 (if 2 < v then N.apl 2 else 0), .int .i64 (if 3 < v then N.apl 3 else 0)]
theorem apC_set (N : NS) (v : Nat) (hv : v < 4) : (apC N v).set (0 + Int.toNat (v : Int) * 1) (.int .i64 (N.apl v)) = apC N (v + 1) := by
  rcases (by omega : v = 0 ∨ v = 1 ∨ v = 2 ∨ v = 3) with rfl | rfl | rfl | rfl <;> rfl
def NS.apV (N : NS) : Value := .agg #[.int .i64 (N.apl 0), .int .i64 (N.apl 1), .int .i64 (N.apl 2), .int .i64 (N.apl 3)]
theorem napplied_loop (L k : Nat) (h : NdX σ0 σ nd g m d a F N R) (hI : N.Inv c) (hc : c ≤ 899) {t0 t1 : Nat} (ht0 : σ.next ≤ t0) (ht1 : σ.next ≤ t1) (h01 : t0 ≠ t1) : ∀ (n v : Nat) (σ' : St), v ≤ 4 → 4 - v < n → Same σ σ' [] → σ'.get t1 = some (.own (apC N v) 57) → (∃ x, σ'.get t0 = some (.own x 57) ∧ x.length = 4) → t0 < σ'.next → t1 < σ'.next →
    ∃ σ2, lpAt Try.prog env L (k + 1) 19 [true, true, true, false, true] [] n [(2, ptr t0), (3, ptr t1), (12, .agg [ptr (a 0), ptr (a 1), ptr (a 2), ptr (a 3)].toArray), (13, .int .i64 v)] σ' = some (N.apV, σ2) ∧ Same σ σ2 []
  | 0, v, σ', _, hn, _, _, _, _, _ => by omega
  | n + 1, v, σ', hv, hn, hs, g1, ⟨x, g0, hx⟩, l0, l1 => by
    have el := f19_l5 L (k + 1) n σ' t0 0 t1 0 (some ⟨a 0, 0, none⟩) (some ⟨a 1, 0, none⟩) (some ⟨a 2, 0, none⟩) (some ⟨a 3, 0, none⟩) (v : Int)
    by_cases hv4 : v = 4
    · subst hv4
      have hput := fun (K : St → Res) => put_all (ws := apC N 4) g0 (by rw [hx]; rfl) rfl K
      have s3 := Same.set σ' t0 (.own (apC N 4) 57)
      have g3 : (σ'.set t0 (.own (apC N 4) 57)).get t0 = some (.own (apC N 4) 57) := get_set_same _ _ _
      generalize σ'.set t0 (.own (apC N 4) 57) = σ3 at hput s3 g3
      have hA : apC N 4 = [Value.int .i64 (N.apl 0), .int .i64 (N.apl 1), .int .i64 (N.apl 2), .int .i64 (N.apl 3)] := rfl
      rw [hA] at g1 hput g3
      rw [decide_eq_false (by decide), br_false, lds_all (n := 4) g1 rfl, uncons_c, asI_i, uncons_c, asI_i, uncons_c, asI_i, uncons_c, asI_i, endl_n, hput, lds_all (n := 4) g3 rfl, uncons_c, asI_i, uncons_c, asI_i, uncons_c, asI_i, uncons_c, asI_i, endl_n] at el
      exact ⟨σ3, el, hs.fresh s3 (fun x hx => .inr (by simp at hx; omega))⟩
    have hi := hI.st v (by omega)
    have hlen := hi.len
    have hf1 := hi.f1
    have hw : IntKind.wrap .i64 ((v : Int) + 1) = ((v + 1 : Nat) : Int) := by rw [wrap_in _ (by omega) (by omega)]; omega
    have iv : inRange (v : Int) 4 = true := by simp [inRange]; omega
    rw [decide_eq_true (by omega), br_true, need_of iv, show ∀ K : Value → Res, nth [Value.pointer (some ⟨a 0, 0, none⟩), Value.pointer (some ⟨a 1, 0, none⟩), Value.pointer (some ⟨a 2, 0, none⟩), Value.pointer (some ⟨a 3, 0, none⟩)] (Int.toNat (v : Int) * 1) K = K (ptr (a v)) from fun K => ptr_nth a v (by omega) K, asP_p, S.dropped_spec ((h.idle hs).st v (by omega)) L k hf1 (by omega), bnd_some, asT_t, toList2, uncons_c, asI_i, uncons_c, asI_i, endl_n, need_of iv, put_int g1 _ _ _ (by simp [apC]; omega), hw, show (N.st v).first - 1 = N.apl v from rfl, apC_set N v (by omega)] at el
    have s2 := Same.set σ' t1 (.own (apC N (v + 1)) 57)
    obtain ⟨σ3, e3, s3⟩ := napplied_loop L k h hI hc ht0 ht1 h01 n (v + 1) _ (by omega) (by omega) (hs.fresh s2 (fun x hx => .inr (by simp at hx; omega))) (get_set_same _ _ _) ⟨x, (s2.2 t0 l0 (by simpa using h01)).trans g0, hx⟩ (by simpa using l0) (by simpa using l1)
    exact ⟨σ3, el.trans e3, s3⟩
theorem napplied_spec (L k : Nat) (hL : 100000 < L) (h : NdX σ0 σ nd g m d a F N R) (hI : N.Inv c) (hc : c ≤ 899) : ∃ σ', evCall Try.prog env L (k + 2) 19 [ptr nd] σ = some (N.apV, σ') ∧ Same σ σ' [] := by
  rw [f19_eq]
  have s1 : Same σ (σ.new (.own [.int .i64 0, .int .i64 0, .int .i64 0, .int .i64 0] 57)) [] := Same.new _ _ _
  have g1 : (σ.new (.own [.int .i64 0, .int .i64 0, .int .i64 0, .int .i64 0] 57)).get σ.next = some (.own [.int .i64 0, .int .i64 0, .int .i64 0, .int .i64 0] 57) := get_new_same _ _
  have n1 : (σ.new (.own [.int .i64 0, .int .i64 0, .int .i64 0, .int .i64 0] 57)).next = σ.next + 1 := rfl
  generalize σ.new (.own [.int .i64 0, .int .i64 0, .int .i64 0, .int .i64 0] 57) = σ1 at s1 g1 n1
  have s2 : Same σ1 (σ1.new (.own [.int .i64 0, .int .i64 0, .int .i64 0, .int .i64 0] 57)) [] := Same.new _ _ _
  have g2 : (σ1.new (.own [.int .i64 0, .int .i64 0, .int .i64 0, .int .i64 0] 57)).get σ1.next = some (.own [.int .i64 0, .int .i64 0, .int .i64 0, .int .i64 0] 57) := get_new_same _ _
  have n2 : (σ1.new (.own [.int .i64 0, .int .i64 0, .int .i64 0, .int .i64 0] 57)).next = σ1.next + 1 := rfl
  generalize σ1.new (.own [.int .i64 0, .int .i64 0, .int .i64 0, .int .i64 0] 57) = σ2 at s2 g2 n2
  have s02 := s1.trans s2
  rw [lds_own (n := 4) _ (h.idle s02).nd (by simp [ndc])]
  show ∃ σ', (uncons [ptr (a 0), ptr (a 1), ptr (a 2), ptr (a 3)] _) = _ ∧ _
  rw [uncons_c, asP_p, uncons_c, asP_p, uncons_c, asP_p, uncons_c, asP_p, endl_n]
  obtain ⟨σ3, e3, s3⟩ := napplied_loop L k h hI hc (t0 := σ.next) (t1 := σ1.next) (by omega) (by omega) (by omega) L 0 σ2 (by omega) (by omega) s02 g2 ⟨_, (s2.2 σ.next (by omega) (by simp)).trans g1, rfl⟩ (by omega) (by omega)
  exact ⟨σ3, e3, s3⟩
end
end Go.AM.Bp

/-
  THE GROUP, made of a list; the backup, made on a fresh disk.
-/
namespace Go.AM.Bp
open Go.Proofs

/-! A group of a list. -/
def OkG (l : List Int) : Prop := (∀ v ∈ l, 0 ≤ v ∧ v < 4) ∧ l.Nodup
def gOf (l : List Int) : GS := ⟨fun v => decide ((v : Int) ∈ l), []⟩
theorem wrong44 (L k : Nat) (σ : St) (at_ e : Int) (he : e ≠ 0) : ∃ v σ', evCall Try.prog env L (k + 2) 25 [.int .i64 at_, .int .i64 e] σ = some (v, σ') ∧ Same σ σ' [] := by
  rw [f25_eq, f45_eq, eqNil_iface, br_false]
  have hb : ∀ K : Res, eqErr (.iface 74 (.int .i64 e)) 74 .i64 0 (fun v2 => br v2 (some (Value.nilIface, σ)) K) = K := by
    intro K
    have : eqErr (.iface 74 (.int .i64 e)) 74 .i64 0 (fun v2 => br v2 (some (Value.nilIface, σ)) K) = br (e == 0) (some (Value.nilIface, σ)) K := by simp [eqErr]
    rw [this, show (e == 0) = false by simpa using he, br_false]
  rw [hb, need_true, need_of (show oneCell (Value.iface 74 (Value.int .i64 e)) = true from rfl), need_true, bnd_some]
  exact ⟨_, _, rfl, Same.new _ _ _⟩
theorem there43 (L k : Nat) (σ : St) (v : Int) : evCall Try.prog env L (k + 1) 24 [.int .i64 v] σ = some (.bool (decide (0 ≤ v ∧ v < 4)), σ) := by
  rw [f24_eq]
  by_cases h : v ≥ 0
  · rw [decide_eq_true h, br_true]
    by_cases h4 : v < 4
    · rw [decide_eq_true h4, decide_eq_true ⟨h, h4⟩]
    · rw [decide_eq_false h4, decide_eq_false (fun hx => h4 hx.2)]
  · rw [decide_eq_false h, br_false, decide_eq_false (fun hx => h hx.1)]
theorem gnew_loop (L k : Nat) {σ0 σ1 : St} {ad : Option Addr} {l : List Int} {z : Nat} (hl : l.length ≤ 1000) (hH : Holds σ0 1 c1 ad l) (h01 : σ0.next ≤ σ1.next) {g : Nat} (hg0 : σ1.next ≤ g) : ∀ (n i : Nat) (σ : St), i ≤ l.length → l.length - i < n → Same σ1 σ [] → Kept' σ0.next σ0 σ → σ.get g = some (.own (bv (gOf (l.take i)).f ++ [.slice none 0 0]) 71) → g < σ.next → OkG (l.take i) →
    (∃ e σ', ¬ OkG l ∧ lpAt Try.prog env L (k + 2) 7 [true, true, false, true] [] n [(4, ptr g), (9, .slice ad l.length z), (10, .int .i64 l.length), (11, .int .i64 i)] σ = some (.tuple #[.pointer none, e], σ') ∧ Same σ1 σ' []) ∨
    (∃ σ', OkG l ∧ lpAt Try.prog env L (k + 2) 7 [true, true, false, true] [] n [(4, ptr g), (9, .slice ad l.length z), (10, .int .i64 l.length), (11, .int .i64 i)] σ = some (.tuple #[ptr g, .nilIface], σ') ∧ σ'.get g = some (.own (bv (gOf l).f ++ [.slice none 0 0]) 71) ∧ Same σ1 σ' [] ∧ g < σ'.next)
  | 0, i, σ, _, hn, _, _, _, _, _ => by omega
  | n + 1, i, σ, hi, hn, hs, hk, hg, hgl, hok => by
    rw [f7_l3]
    by_cases hie : i = l.length
    · subst hie
      rw [List.take_length] at hg hok
      rw [decide_eq_false (by omega), br_false]
      exact .inr ⟨σ, hok, rfl, hg, hs, hgl⟩
    have hget : l[i]? = some l[i] := List.getElem?_eq_getElem (by omega)
    have htk : l.take (i + 1) = l.take i ++ [l[i]] := by rw [List.take_add_one, hget]; rfl
    have hdr : l = l.take i ++ l[i] :: l.drop (i + 1) := by rw [← List.drop_eq_getElem_cons (by omega), List.take_append_drop]
    obtain ⟨q, e, hat⟩ := hH.ld hk hget
    generalize l[i] = v at *
    have hw : IntKind.wrap .i64 ((i : Int) + 1) = ((i + 1 : Nat) : Int) := by rw [wrap_in _ (by omega) (by omega)]; omega
    subst e
    rw [decide_eq_true (by omega), br_true, need_of (by simp [inRange]; omega), adr_some, hat 0 (.int .i64 v) _ (by omega) rfl (by simp), asI_i, there43 L (k + 1), bnd_some, asB_b]
    by_cases hv : 0 ≤ v ∧ v < 4
    rotate_left
    · obtain ⟨e, σ2, g2, s2⟩ := wrong44 L k σ v 5 (by decide)
      rw [decide_eq_false hv, not_false, br_true, g2, bnd_some]
      refine .inl ⟨e, σ2, fun h => hv (h.1 v (by rw [hdr]; simp)), rfl, hs.trans s2⟩
    obtain ⟨u, hu⟩ : ∃ u : Nat, v = u := ⟨v.toNat, by omega⟩
    subst hu
    have hu4 : u < 4 := by omega
    rw [decide_eq_true hv, not_true, br_false, need_of (by simp [inRange]; omega), ld_at hg (0 + 0 + Int.toNat (u : Int) * 1) (.bool (decide ((u : Int) ∈ l.take i))) (by
      rcases (by omega : u = 0 ∨ u = 1 ∨ u = 2 ∨ u = 3) with rfl | rfl | rfl | rfl <;> rfl), asB_b]
    by_cases hm : (u : Int) ∈ l.take i
    · obtain ⟨e, σ2, g2, s2⟩ := wrong44 L k σ u 1 (by decide)
      rw [decide_eq_true hm, br_true, g2, bnd_some]
      refine .inl ⟨e, σ2, fun h => ?_, rfl, hs.trans s2⟩
      have hn := h.2
      rw [hdr, List.nodup_append] at hn
      exact hn.2.2 _ hm _ (by simp) rfl
    · rw [decide_eq_false hm, br_false, need_of (by simp [inRange]; omega), put_bool hg _ _ (by simp [bv]; omega), hw]
      have hset : (bv (gOf (l.take i)).f ++ [Value.slice none 0 0]).set (0 + 0 + Int.toNat (u : Int) * 1) (.bool true) = bv (gOf (l.take (i + 1))).f ++ [.slice none 0 0] := by
        rw [htk]
        unfold gOf bv
        dsimp only
        have hd : ∀ x : Nat, decide ((x : Int) ∈ l.take i ++ [(u : Int)]) = if x = u then true else decide ((x : Int) ∈ l.take i) := fun x => by
          by_cases hx : x = u
          · subst hx; simp
          · have : ¬ (x : Int) = (u : Int) := by omega
            simp [hx, this]
        rw [hd, hd, hd, hd]
        rcases (by omega : u = 0 ∨ u = 1 ∨ u = 2 ∨ u = 3) with rfl | rfl | rfl | rfl <;> rfl
      rw [hset]
      have s2 := Same.set σ g (.own (bv (gOf (l.take (i + 1))).f ++ [.slice none 0 0]) 71)
      have s12 : Same σ1 _ [] := hs.fresh s2 (fun x hx => .inr (by simp at hx; omega))
      refine gnew_loop L k hl hH h01 hg0 n (i + 1) _ (by omega) (by omega) s12 ?_ (get_set_same _ _ _) (by simpa using hgl) ?_
      · refine hk.step s2 (fun x hx => ?_)
        simp at hx
        subst hx
        have := hk.1
        have h1 := hs.1
        exact Nat.le_trans h01 hg0
      · rw [htk]
        refine ⟨fun x hx => ?_, ?_⟩
        · rcases List.mem_append.1 hx with hx | hx
          · exact hok.1 x hx
          · simp at hx; subst hx; exact hv
        · rw [List.nodup_append]
          exact ⟨hok.2, by simp, fun x hx y hy => by simp at hy; subst hy; rintro rfl; exact hm hx⟩
theorem gnew_spec (L k : Nat) (hL : 100000 < L) {σ0 σ : St} (hk : Kept' σ0.next σ0 σ) {ad : Option Addr} {l : List Int} (z : Nat) (hl : l.length ≤ 1000) (hH : Holds σ0 1 c1 ad l) :
    (∃ e σ', ¬ OkG l ∧ evCall Try.prog env L (k + 3) 7 [.slice ad l.length z] σ = some (.tuple #[.pointer none, e], σ') ∧ Same σ σ' []) ∨
    (∃ g σ', OkG l ∧ evCall Try.prog env L (k + 3) 7 [.slice ad l.length z] σ = some (.tuple #[ptr g, .nilIface], σ') ∧ Grp σ' g [g] (gOf l) ∧ Same σ σ' [] ∧ σ.next ≤ g) := by
  rw [f7_eq]
  have s1 : Same σ (σ.new (.own [.bool false, .bool false, .bool false, .bool false, .slice none 0 0] 71)) [] := Same.new _ _ _
  have g1 : (σ.new (.own [.bool false, .bool false, .bool false, .bool false, .slice none 0 0] 71)).get σ.next = some (.own [.bool false, .bool false, .bool false, .bool false, .slice none 0 0] 71) := get_new_same _ _
  have n1 : (σ.new (.own [.bool false, .bool false, .bool false, .bool false, .slice none 0 0] 71)).next = σ.next + 1 := rfl
  generalize σ.new (.own [.bool false, .bool false, .bool false, .bool false, .slice none 0 0] 71) = σ1 at s1 g1 n1
  rcases gnew_loop (z := z) L k hl hH hk.1 (g := σ.next) (Nat.le_refl _) L 0 σ1 (by omega) (by omega) s1 (hk.step s1 (by simp)) (by rw [List.take_zero]; exact g1) (by omega) ⟨by simp, by simp⟩ with ⟨e, σ2, hno, e2, s2⟩ | ⟨σ2, hok, e2, g2, s2, l2⟩
  · exact .inl ⟨e, σ2, hno, e2, s2⟩
  · exact .inr ⟨σ.next, σ2, hok, e2, ⟨⟨none, 0, [], rfl, by simp, g2, Row.nil _ _ _ _⟩, by simpa using l2, by simp [gOf], by simp [gOf]⟩, s2, Nat.le_refl _⟩
theorem gOf_at {l : List Int} (h : OkG l) (m : Int) (v : Nat) : v ∈ (gOf l).at_ m ↔ (v : Int) ∈ l := by
  unfold GS.at_ GS.has gOf beh
  simp only [List.take_nil, List.foldl_nil, List.mem_filter, List.mem_range, decide_eq_true_eq]
  exact ⟨fun h => h.2, fun hx => ⟨by have := h.1 _ hx; omega, hx⟩⟩

/-! A backup on a fresh disk. -/
theorem nnew_spec (L k : Nat) (hL : 100000 < L) {σ0 σ : St} {d g : Nat} {F : List Nat} {R : List (List Nat)} (hD : D.Disk σ d F fresh66 []) (hO : Owns σ0 σ (F :: R)) :
    ∃ nd m a F' σ', evCall Try.prog env L (k + 11) 8 [ptr d, ptr g] σ = some (.tuple #[ptr nd, .nilIface], σ') ∧ NdX σ0 σ' nd g m d a F' newN R ∧ Kp σ σ' R := by
  obtain ⟨nd, m, a0, a1, a2, a3, σ', e, hI, hn, h0, h1, h2, h3, hk⟩ := bnew_spec L k hL (g := g) hD hO
  refine ⟨nd, m, fun v => if v = 0 then a0 else if v = 1 then a1 else if v = 2 then a2 else a3, fun v => [if v = 0 then a0 else if v = 1 then a1 else if v = 2 then a2 else a3], σ', e, ⟨?_, hn, ?_⟩, hk⟩
  · refine hI.perm (fun i => if i < 4 then 3 - i else i) (fun i j e => ?_) (fun i H hH => ?_)
    · by_cases h1 : i < 4 <;> by_cases h2 : j < 4 <;> simp [h1, h2] at e <;> omega
    · match i, hH with
      | 0, hH => exact hH
      | 1, hH => exact hH
      | 2, hH => exact hH
      | 3, hH => exact hH
      | i + 4, hH => exact hH
  · exact four h0 h1 h2 h3
end Go.AM.Bp

/-
  A GROUP of a list, and its backup on a fresh disk: how the laws begin.
-/
namespace Go.AM.Bp
open Go.Proofs

theorem begun (L k : Nat) (hL : 100000 < L) {σ0 σ : St} (hs : Same σ0 σ []) {ad : Option Addr} {l : List Int} (z : Nat) (hl : l.length ≤ 1000) (hH : Holds σ0 1 c1 ad l) :
    (∃ e σ', ¬ OkG l ∧ evCall Try.prog env L (k + 12) 7 [.slice ad l.length z] σ = some (.tuple #[.pointer none, e], σ') ∧ Same σ σ' []) ∨
    (∃ g σ1 d σ2 nd m a F σ3, OkG l ∧ evCall Try.prog env L (k + 12) 7 [.slice ad l.length z] σ = some (.tuple #[ptr g, .nilIface], σ1) ∧ evCall Try.prog env L (k + 12) 9 [.int .i64 66] σ1 = some (ptr d, σ2) ∧
      evCall Try.prog env L (k + 12) 8 [ptr d, ptr g] σ2 = some (.tuple #[ptr nd, .nilIface], σ3) ∧ NdX σ0 σ3 nd g m d a F newN [[g]] ∧ Grp σ3 g [g] (gOf l)) := by
  have hk : Kept' σ0.next σ0 σ := ⟨hs.1, fun k hk => hs.2 k hk (by simp)⟩
  rcases gnew_spec L (k + 9) hL hk z hl hH with ⟨e, σ1, hno, e1, s1⟩ | ⟨g, σ1, hok, e1, hG, s1, hg⟩
  · exact .inl ⟨e, σ1, hno, e1, s1⟩
  have hO1 : Owns σ0 σ1 [[g]] := ((Owns.start σ0).idle hs).more s1 (fun q hq => by have := hG.lt q hq; simp at hq; subst hq; omega)
  obtain ⟨d, F, σ2, e2, hD2, hO2, s2⟩ := new66 L (k + 11) hO1
  obtain ⟨nd, m, a, F', σ3, e3, h3, k3⟩ := nnew_spec L (k + 1) hL (g := g) hD2 hO2
  exact .inr ⟨g, σ1, d, σ2, nd, m, a, F', σ3, hok, e1, e2, e3, h3, (hG.idle s2).moved (fun q hq => k3 [g] (by simp) q hq) (h3.lt (by simp))⟩
end Go.AM.Bp

/-
  THE LAWS' CALLS, as they come; few.
-/
namespace Go.AM.Bp
open Go.Proofs

/-- A call. -/
structure OpB where
  kind : Int
  v : Int
  n : Int
  r : S.Rec
  keep : Int
  next : Bool
def c10 (o : OpB) : List Value := [.int .i64 o.kind, .int .i64 o.v, .int .i64 o.n, .int .i64 o.r.seq, .int .i64 o.r.kind, .int .i64 o.r.block, .string o.r.data, .int .i64 o.r.number, .int .u64 o.keep, .bool o.next]
theorem c10_len (o : OpB) : (c10 o).length = 10 := rfl
theorem few_loop (L k : Nat) {σ0 σ : St} (hk : Kept' σ0.next σ0 σ) {ad : Option Addr} {l : List OpB} (z : Nat) (hl : l.length ≤ 1000) (hH : Holds σ0 10 c10 ad l) : ∀ (n i : Nat), i ≤ l.length → l.length - i < n →
    ∃ b, lpAt Try.prog env L k 20 [true, true, false, true] [] n [(0, .slice ad l.length z), (8, .int .i64 l.length), (9, .int .i64 i)] σ = some (.bool b, σ)
  | 0, i, _, hn => by omega
  | n + 1, i, hi, hn => by
    rw [f20_l4]
    by_cases hie : i = l.length
    · rw [decide_eq_false (by omega), br_false]; exact ⟨true, rfl⟩
    have hget : l[i]? = some l[i] := List.getElem?_eq_getElem (by omega)
    obtain ⟨q, e, hat⟩ := hH.ld hk hget
    subst e
    have hw : IntKind.wrap .i64 ((i : Int) + 1) = ((i + 1 : Nat) : Int) := by rw [wrap_in _ (by omega) (by omega)]; omega
    rw [decide_eq_true (by omega), br_true, need_of (by simp [inRange]; omega), adr_some, hat 6 (.string l[i].r.data) _ (by omega) rfl (by simp), asS_s, hw]
    by_cases h : ((l[i].r.data.size : Nat) : Int) > 100
    · rw [decide_eq_true h, br_true]; exact ⟨false, rfl⟩
    · rw [decide_eq_false h, br_false]; exact few_loop L k hk z hl hH n (i + 1) (by omega) (by omega)
theorem few_spec80 (L k : Nat) (hL : 100000 < L) {σ0 σ : St} (hk : Kept' σ0.next σ0 σ) {ad : Option Addr} {l : List OpB} (z : Nat) (hH : Holds σ0 10 c10 ad l) :
    ∃ b, evCall Try.prog env L (k + 1) 20 [.slice ad l.length z] σ = some (.bool b, σ) ∧ (b = true → l.length ≤ 80) := by
  rw [f20_eq]
  by_cases h : ((l.length : Nat) : Int) > 80
  · rw [decide_eq_true h, br_true]; exact ⟨false, rfl, fun h => by cases h⟩
  · rw [decide_eq_false h, br_false]
    obtain ⟨b, e⟩ := few_loop L k hk z (by omega) hH L 0 (by omega) (by omega)
    exact ⟨b, e, fun _ => by omega⟩
end Go.AM.Bp

/-
  TWO NODES side by side.
-/
namespace Go.AM.Bp
open Go.Proofs

theorem D.Disk.moved {σ σ' : St} {a : Nat} {F : List Nat} {S : List D.Sec} {W : List D.Lw} (h : D.Disk σ a F S W) (hs : ∀ q ∈ F, σ'.get q = σ.get q) (hl : ∀ q ∈ F, q < σ'.next) : D.Disk σ' a F S W := by
  obtain ⟨q1, q2, ad1, z1, ad2, z2, rfl, h1, h2, h3, h4⟩ := h.ex
  exact ⟨⟨q1, q2, ad1, z1, ad2, z2, rfl, by rw [hs a (by simp)]; exact h1, h2.moved (fun q hq => hs q (by simp [hq])) (fun q hq => hl q (by simp [hq])), h3.moved (fun q hq => hs q (by simp [hq])) (fun q hq => hl q (by simp [hq])), h4⟩, hl⟩
/-- The blocks of a node. -/
def nsets (FD FI : List Nat) (F : Nat → List Nat) (nd : Nat) : List (List Nat) := [FD, FI, F 0, F 1, F 2, F 3, [nd]]
/-- A node, but for what is owned by whom. -/
structure NdF (σ : St) (nd g m d : Nat) (a : Nat → Nat) (F : Nat → List Nat) (FD FI : List Nat) (N : NS) : Prop where
  dk : D.Disk σ d FD N.im.S N.im.W
  im : ∃ w, Img σ m d (N.im.t : Nat) (N.im.km : Nat) N.im.bl w ∧ ((N.im.work = none ∧ w = none) ∨ ∃ b mk' bl' done, N.im.work = some (mk', bl', done) ∧ w = some ⟨b, 0, none⟩ ∧ b ∈ FI ∧ b ≠ m ∧ Wk σ b ((N.im.t + 1 : Nat) : Int) (mk' : Nat) bl' (done : Nat))
  mI : m ∈ FI
  nd : σ.get nd = some (.own (ndc d m (a 0) (a 1) (a 2) (a 3) g N.mark) 82)
  st : ∀ v, v < 4 → S.Stg σ (a v) (F v) (N.st v).first (N.st v).rs (N.st v).rs.length (N.st v).mark
theorem NdX.split {σ0 σ : St} {nd g m d : Nat} {a : Nat → Nat} {F : Nat → List Nat} {N : NS} {R : List (List Nat)} (h : NdX σ0 σ nd g m d a F N R) : ∃ FD FI, NdF σ nd g m d a F FD FI N ∧ Owns σ0 σ (nsets FD FI F nd ++ R) := by
  obtain ⟨FD, FI, w, h1, h2, h3, h4, h5⟩ := h.im.ex
  exact ⟨FD, FI, ⟨h1, ⟨w, h2, h5⟩, h4, h.nd, h.st⟩, h3⟩
theorem NdF.join {σ0 σ : St} {nd g m d : Nat} {a : Nat → Nat} {F : Nat → List Nat} {FD FI : List Nat} {N : NS} {R : List (List Nat)} (h : NdF σ nd g m d a F FD FI N) (hO : Owns σ0 σ (nsets FD FI F nd ++ R)) : NdX σ0 σ nd g m d a F N R := by
  obtain ⟨w, h2, h5⟩ := h.im
  exact ⟨⟨FD, FI, w, h.dk, h2, hO, h.mI, h5⟩, h.nd, h.st⟩
theorem NdF.moved {σ σ' : St} {nd g m d : Nat} {a : Nat → Nat} {F : Nat → List Nat} {FD FI : List Nat} {N : NS} (h : NdF σ nd g m d a F FD FI N) (hs : ∀ H ∈ nsets FD FI F nd, ∀ q ∈ H, σ'.get q = σ.get q) (hl : ∀ H ∈ nsets FD FI F nd, ∀ q ∈ H, q < σ'.next) : NdF σ' nd g m d a F FD FI N := by
  obtain ⟨w, h2, h5⟩ := h.im
  have hm : ∀ v, v < 4 → F v ∈ nsets FD FI F nd := fun v hv => by
    rcases (by omega : v = 0 ∨ v = 1 ∨ v = 2 ∨ v = 3) with rfl | rfl | rfl | rfl <;> simp [nsets]
  have hD : FD ∈ nsets FD FI F nd := by simp [nsets]
  have hI : FI ∈ nsets FD FI F nd := by simp [nsets]
  have hN : [nd] ∈ nsets FD FI F nd := by simp [nsets]
  refine ⟨D.Disk.moved h.dk (hs _ hD) (hl _ hD), ⟨w, ⟨(hs _ hI m h.mI).trans h2.ex, hl _ hI m h.mI, h2.len⟩, h5.imp id ?_⟩, h.mI, (hs _ hN nd (by simp)).trans h.nd, fun v hv => (h.st v hv).moved (hs _ (hm v hv)) (hl _ (hm v hv))⟩
  rintro ⟨b, mk', bl', done, e1, e2, e3, e4, e5⟩
  exact ⟨b, mk', bl', done, e1, e2, e3, e4, ⟨(hs _ hI b e3).trans e5.ex, e5.len⟩⟩

/-- Two nodes, and other things. -/
def Two (σ0 σ : St) (nd1 nd2 g : Nat) (N1 N2 : NS) (T : List (List Nat)) : Prop := ∃ m1 d1 a1 F1 FD1 FI1 m2 d2 a2 F2 FD2 FI2, NdF σ nd1 g m1 d1 a1 F1 FD1 FI1 N1 ∧ NdF σ nd2 g m2 d2 a2 F2 FD2 FI2 N2 ∧ Owns σ0 σ (nsets FD1 FI1 F1 nd1 ++ (nsets FD2 FI2 F2 nd2 ++ T))
section
variable {σ0 σ : St} {nd1 nd2 g : Nat} {N1 N2 : NS} {T : List (List Nat)}
theorem own_moved {σ' : St} {H : List Nat} {Fs : List (List Nat)} (hO : Owns σ0 σ' Fs) (h : H ∈ Fs) : ∀ q ∈ H, q < σ'.next := fun q hq => (hO.own H h q hq).2
theorem Two.use (h : Two σ0 σ nd1 nd2 g N1 N2 T) : ∃ m d a F R, NdX σ0 σ nd1 g m d a F N1 R ∧ (∀ H ∈ T, H ∈ R) ∧
    ∀ (σ' : St) (m' d' : Nat) (a' : Nat → Nat) (F' : Nat → List Nat) (N1' : NS), NdX σ0 σ' nd1 g m' d' a' F' N1' R → Kp σ σ' R → Two σ0 σ' nd1 nd2 g N1' N2 T ∧ Kp σ σ' T := by
  obtain ⟨m1, d1, a1, F1, FD1, FI1, m2, d2, a2, F2, FD2, FI2, h1, h2, hO⟩ := h
  refine ⟨m1, d1, a1, F1, _, h1.join hO, fun H hH => List.mem_append_right _ hH, fun σ' m' d' a' F' N1' h' hk => ?_⟩
  obtain ⟨FD', FI', hF, hO'⟩ := h'.split
  exact ⟨⟨m', d', a', F', FD', FI', m2, d2, a2, F2, FD2, FI2, hF, h2.moved (fun H hH => hk H (List.mem_append_left _ hH)) (fun H hH => own_moved hO' (by simp [hH])), hO'⟩, fun H hH => hk H (List.mem_append_right _ hH)⟩
theorem Two.swap (h : Two σ0 σ nd1 nd2 g N1 N2 T) : Two σ0 σ nd2 nd1 g N2 N1 T := by
  obtain ⟨m1, d1, a1, F1, FD1, FI1, m2, d2, a2, F2, FD2, FI2, h1, h2, hO⟩ := h
  refine ⟨m2, d2, a2, F2, FD2, FI2, m1, d1, a1, F1, FD1, FI1, h2, h1, hO.map (fun i => if i < 7 then i + 7 else if i < 14 then i - 7 else i) (fun i j e => ?_) (fun i H hH => ?_)⟩
  · by_cases a1 : i < 7 <;> by_cases a2 : i < 14 <;> by_cases b1 : j < 7 <;> by_cases b2 : j < 14 <;> simp [a1, a2, b1, b2] at e <;> omega
  · match i, hH with
    | 0, hH => exact hH
    | 1, hH => exact hH
    | 2, hH => exact hH
    | 3, hH => exact hH
    | 4, hH => exact hH
    | 5, hH => exact hH
    | 6, hH => exact hH
    | 7, hH => exact hH
    | 8, hH => exact hH
    | 9, hH => exact hH
    | 10, hH => exact hH
    | 11, hH => exact hH
    | 12, hH => exact hH
    | 13, hH => exact hH
    | i + 14, hH => exact hH
theorem Two.lt (h : Two σ0 σ nd1 nd2 g N1 N2 T) {H : List Nat} (hH : H ∈ T) : ∀ q ∈ H, q < σ.next := by
  obtain ⟨m1, d1, a1, F1, FD1, FI1, m2, d2, a2, F2, FD2, FI2, h1, h2, hO⟩ := h
  exact own_moved hO (by simp [hH])
theorem Two.keptBase (h : Two σ0 σ nd1 nd2 g N1 N2 T) : Kept' σ0.next σ0 σ := by
  obtain ⟨m1, d1, a1, F1, FD1, FI1, m2, d2, a2, F2, FD2, FI2, h1, h2, hO⟩ := h
  exact hO.kept
theorem Two.idle (h : Two σ0 σ nd1 nd2 g N1 N2 T) {σ' : St} (hs : Same σ σ' []) : Two σ0 σ' nd1 nd2 g N1 N2 T ∧ Kp σ σ' T := by
  obtain ⟨m, d, a, F, R, hX, _, hu⟩ := h.use
  exact hu σ' m d a F N1 (hX.idle hs) (hX.kept hs)
theorem Two.push (h : Two σ0 σ nd1 nd2 g N1 N2 T) {σ' : St} (hs : Same σ σ' []) {X : List Nat} (hX : ∀ q ∈ X, σ.next ≤ q ∧ q < σ'.next) : Two σ0 σ' nd1 nd2 g N1 N2 (X :: T) := by
  obtain ⟨m1, d1, a1, F1, FD1, FI1, m2, d2, a2, F2, FD2, FI2, h1, h2, hO⟩ := h
  have hO' := hO.more hs hX
  have hlt : ∀ H ∈ nsets FD1 FI1 F1 nd1 ++ (nsets FD2 FI2 F2 nd2 ++ T), ∀ q ∈ H, σ'.get q = σ.get q := fun H hH q hq => hs.2 q (own_moved hO hH q hq) (by simp)
  refine ⟨m1, d1, a1, F1, FD1, FI1, m2, d2, a2, F2, FD2, FI2, h1.moved (fun H hH => hlt H (by simp [hH])) (fun H hH => own_moved hO' (by simp [hH])), h2.moved (fun H hH => hlt H (by simp [hH])) (fun H hH => own_moved hO' (by simp [hH])), hO'.map (fun i => if i < 14 then i + 1 else if i = 14 then 0 else i) (fun i j e => ?_) (fun i H hH => ?_)⟩
  · by_cases a1 : i < 14 <;> by_cases a2 : i = 14 <;> by_cases b1 : j < 14 <;> by_cases b2 : j = 14 <;> simp [a1, a2, b1, b2] at e <;> omega
  · match i, hH with
    | 0, hH => exact hH
    | 1, hH => exact hH
    | 2, hH => exact hH
    | 3, hH => exact hH
    | 4, hH => exact hH
    | 5, hH => exact hH
    | 6, hH => exact hH
    | 7, hH => exact hH
    | 8, hH => exact hH
    | 9, hH => exact hH
    | 10, hH => exact hH
    | 11, hH => exact hH
    | 12, hH => exact hH
    | 13, hH => exact hH
    | 14, hH => exact hH
    | i + 15, hH => exact hH
theorem Two.pop {X : List Nat} (h : Two σ0 σ nd1 nd2 g N1 N2 (X :: T)) : Two σ0 σ nd1 nd2 g N1 N2 T := by
  obtain ⟨m1, d1, a1, F1, FD1, FI1, m2, d2, a2, F2, FD2, FI2, h1, h2, hO⟩ := h
  refine ⟨m1, d1, a1, F1, FD1, FI1, m2, d2, a2, F2, FD2, FI2, h1, h2, hO.map (fun i => if i < 14 then i else i + 1) (fun i j e => ?_) (fun i H hH => ?_)⟩
  · by_cases a1 : i < 14 <;> by_cases b1 : j < 14 <;> simp [a1, b1] at e <;> omega
  · match i, hH with
    | 0, hH => exact hH
    | 1, hH => exact hH
    | 2, hH => exact hH
    | 3, hH => exact hH
    | 4, hH => exact hH
    | 5, hH => exact hH
    | 6, hH => exact hH
    | 7, hH => exact hH
    | 8, hH => exact hH
    | 9, hH => exact hH
    | 10, hH => exact hH
    | 11, hH => exact hH
    | 12, hH => exact hH
    | 13, hH => exact hH
    | i + 14, hH => exact hH

/-! The calls, of the first. -/
variable {gs : GS} {c : Nat}
def OkG2 (σ : St) (g : Nat) (gs : GS) : Prop := Grp σ g [g] gs
theorem Two.grp (h : Two σ0 σ nd1 nd2 g N1 N2 T) {σ' : St} (hG : Grp σ g [g] gs) (hg : [g] ∈ T) (hk : Kp σ σ' T) (h' : ∃ N1' N2', Two σ0 σ' nd1 nd2 g N1' N2' T) : Grp σ' g [g] gs := by
  obtain ⟨_, _, h'⟩ := h'
  exact hG.moved (fun q hq => hk [g] hg q hq) (h'.lt hg)
theorem Two.take (h : Two σ0 σ nd1 nd2 g N1 N2 T) (hI : N1.Inv c) (hc : c ≤ 899) (L k : Nat) (v : Nat) (hv : v < 4) (r : S.Rec) :
    ∃ σ', evCall Try.prog env L (k + 4) 10 [ptr nd1, .int .i64 v, r.agg] σ = some (.tuple #[.int .i64 ((N1.take v r).st v).last, .nilIface], σ') ∧ Two σ0 σ' nd1 nd2 g (N1.take v r) N2 T ∧ Kp σ σ' T := by
  obtain ⟨m, d, a, F, R, hX, _, hu⟩ := h.use
  obtain ⟨F', σ', e, h', k'⟩ := ntake_spec L k hX hI hc v hv r
  obtain ⟨h1, h2⟩ := hu σ' m d a F' _ h' k'
  exact ⟨σ', e, h1, h2⟩
theorem Two.begin (h : Two σ0 σ nd1 nd2 g N1 N2 T) (hI : N1.Inv c) (hc : c ≤ 899) (L k : Nat) (hL : 100000 < L) (hG : Grp σ g [g] gs) :
    ∃ v σ', evCall Try.prog env L (k + 6) 11 [ptr nd1] σ = some (v, σ') ∧ Kp σ σ' T ∧
      ((N1.mark = 0 ∧ N1.ready gs = 0 ∧ (∃ q, v = .tuple #[.int .i64 0, .iface 126 (ptr q)]) ∧ Two σ0 σ' nd1 nd2 g N1 N2 T) ∨
       (N1.mark = 0 ∧ N1.ready gs ≠ 0 ∧ v = .tuple #[.int .i64 (N1.ready gs), .nilIface] ∧ Two σ0 σ' nd1 nd2 g (N1.begun gs (N1.ready gs)) N2 T) ∨ N1.mark ≠ 0) := by
  obtain ⟨m, d, a, F, R, hX, _, hu⟩ := h.use
  obtain ⟨v, σ', e, k', hor⟩ := nbegin_spec L k hL hX hI hc hG
  rcases hor with ⟨hx, _, s⟩ | ⟨h0, hr, ⟨e2, rfl, hfr⟩, s⟩ | ⟨h0, hr, rfl, h'⟩
  · exact ⟨v, σ', e, (hu σ' m d a F N1 (hX.idle s) (hX.kept s)).2, .inr (.inr hx)⟩
  · obtain ⟨q, rfl, _⟩ := hfr
    obtain ⟨h1, h2⟩ := hu σ' m d a F N1 (hX.idle s) k'
    exact ⟨_, σ', e, h2, .inl ⟨h0, hr, ⟨q, rfl⟩, h1⟩⟩
  · obtain ⟨h1, h2⟩ := hu σ' m d a F _ h' k'
    exact ⟨_, σ', e, h2, .inr (.inl ⟨h0, hr, rfl, h1⟩)⟩
theorem Two.step (h : Two σ0 σ nd1 nd2 g N1 N2 T) (hI : N1.Inv c) (hc : c ≤ 899) (L k : Nat) (hL : 100000 < L) (hG : Grp σ g [g] gs) (hg : [g] ∈ T) :
    ∃ b e σ', evCall Try.prog env L (k + 9) 12 [ptr nd1] σ = some (.tuple #[.bool b, e], σ') ∧ Two σ0 σ' nd1 nd2 g (N1.step gs) N2 T ∧ Kp σ σ' T := by
  obtain ⟨m, d, a, F, R, hX, hT, hu⟩ := h.use
  obtain ⟨v, F', σ', e, k', hor⟩ := nstep_spec L k hL hc hX hI hG (hT _ hg)
  rcases hor with ⟨h0, ⟨e2, rfl, _⟩, s⟩ | ⟨_, _, _, _, rfl, h'⟩
  · have hw : N1.im.work = none := by
      rcases hI.wk with ⟨_, h⟩ | ⟨h, _⟩
      · exact h
      · omega
    obtain ⟨h1, h2⟩ := hu σ' m d a F N1 (hX.idle s) k'
    rw [step_idle gs hw]
    exact ⟨_, _, σ', e, h1, h2⟩
  · obtain ⟨h1, h2⟩ := hu σ' m d a F' _ h' k'
    exact ⟨_, _, σ', e, h1, h2⟩
theorem Two.crash (h : Two σ0 σ nd1 nd2 g N1 N2 T) (hI : N1.Inv c) (hc : c ≤ 899) (L k : Nat) (hL : 100000 < L) (hG : Grp σ g [g] gs) (hg : [g] ∈ T) (keep : Int) :
    ∃ σ', evCall Try.prog env L (k + 12) 18 [ptr nd1, .int .u64 keep] σ = some (.nilIface, σ') ∧ Two σ0 σ' nd1 nd2 g (N1.crash keep gs) N2 T ∧ Kp σ σ' T := by
  obtain ⟨m, d, a, F, R, hX, hT, hu⟩ := h.use
  obtain ⟨m', F', σ', e, h', k'⟩ := ncrash_spec L k hL hc hX hI hG (hT _ hg) keep
  obtain ⟨h1, h2⟩ := hu σ' m' d a F' _ h' k'
  exact ⟨σ', e, h1, h2⟩
theorem Two.promote (h : Two σ0 σ nd1 nd2 g N1 N2 T) (hI : N1.Inv c) (hc : c ≤ 899) (L k : Nat) (hL : 100000 < L) (hG : Grp σ g [g] gs) (hg : [g] ∈ T) :
    ∃ σ', evCall Try.prog env L (k + 10) 17 [ptr nd1] σ = some (.int .i64 ((N1.fin gs).held : Nat), σ') ∧ Two σ0 σ' nd1 nd2 g (N1.promote gs) N2 T ∧ Kp σ σ' T := by
  obtain ⟨m, d, a, F, R, hX, hT, hu⟩ := h.use
  obtain ⟨F', σ', e, h', k'⟩ := npromote_spec L k hL hc hX hI hG (hT _ hg)
  obtain ⟨h1, h2⟩ := hu σ' m d a F' _ h' k'
  exact ⟨σ', e, h1, h2⟩
theorem Two.image (h : Two σ0 σ nd1 nd2 g N1 N2 T) (L k : Nat) : ∃ σ', evCall Try.prog env L (k + 2) 13 [ptr nd1] σ = some (.tuple #[.agg (strs N1.im.bl).toArray, .int .i64 (N1.im.km : Nat)], σ') ∧ Same σ σ' [] ∧ N1.im.bl.length = 32 := by
  obtain ⟨m, d, a, F, R, hX, _, hu⟩ := h.use
  obtain ⟨σ', e, s⟩ := nimage_spec L k hX
  exact ⟨σ', e, s, hX.im.blen⟩
theorem Two.applied (h : Two σ0 σ nd1 nd2 g N1 N2 T) (hI : N1.Inv c) (hc : c ≤ 899) (L k : Nat) (hL : 100000 < L) : ∃ σ', evCall Try.prog env L (k + 2) 19 [ptr nd1] σ = some (N1.apV, σ') ∧ Same σ σ' [] := by
  obtain ⟨m, d, a, F, R, hX, _, hu⟩ := h.use
  exact napplied_spec L k hL hX hI hc
end
end Go.AM.Bp

/-
  BackupCuts: what is so of the two nodes; the calls.
-/
namespace Go.AM.Bp
open Go.Proofs

/-! ### Plain -/
def cS16 (s : ByteArray) : Prop := s.size ≤ 16
def cRec (D : List ByteArray) (v i : Nat) : S.Rec := ⟨(i : Int) + 1, 1, (((i + v) % 8 : Nat) : Int), D.getD i ⟨#[]⟩, 0⟩
def cList (D : List ByteArray) (v n : Nat) : List S.Rec := (List.range n).map (cRec D v)
def nRec (D : List ByteArray) : S.Rec := ⟨(D.length : Int) + 1, 2, 0, ⟨#[]⟩, 9⟩
def cFull (D : List ByteArray) (v : Nat) : List S.Rec := cList D v D.length ++ [nRec D]
theorem cList_len (D : List ByteArray) (v n : Nat) : (cList D v n).length = n := by simp [cList]
theorem cList_succ (D : List ByteArray) (v n : Nat) : cList D v (n + 1) = cList D v n ++ [cRec D v n] := by simp [cList, List.range_succ]
theorem upTo_full (D : List ByteArray) (v : Nat) : upTo (cFull D v) 9 = some D.length := by
  refine upTo_some (r := nRec D) ?_ ⟨rfl, rfl⟩ (fun j' r' hj' hr => ?_)
  · unfold cFull
    rw [List.getElem?_append_right (by rw [cList_len]; exact Nat.le_refl _), cList_len, Nat.sub_self]; rfl
  · unfold cFull at hr
    rw [List.getElem?_append_left (by rw [cList_len]; exact hj')] at hr
    have := List.mem_of_getElem? hr
    unfold cList at this
    obtain ⟨i, _, rfl⟩ := List.mem_map.1 this
    intro h
    have : (1 : Int) = 2 := h.1
    omega
theorem marks_full (D : List ByteArray) (v : Nat) : S.marksOf (cFull D v) = [9] := by
  unfold cFull
  rw [S.marksOf_snoc, if_pos (show (nRec D).kind = 2 from rfl)]
  have : S.marksOf (cList D v D.length) = [] := by
    unfold S.marksOf; rw [List.filterMap_eq_nil_iff]; intro r hr
    unfold cList at hr
    obtain ⟨j, _, rfl⟩ := List.mem_map.1 hr
    rfl
  rw [this]; rfl
/-- The group of the volumes 0 and 1. -/
abbrev g01 : GS := gOf [0, 1]
theorem ok01 : OkG [0, 1] := ⟨by simp, by simp⟩
theorem at01 (m : Int) (v : Nat) : v ∈ g01.at_ m ↔ v = 0 ∨ v = 1 := by
  rw [gOf_at ok01]; simp
  omega
/-- All taken, nothing applied. -/
structure Full (D : List ByteArray) (N : NS) : Prop where
  st : ∀ u, u < 4 → N.st u = if u < 2 then ⟨1, 0, cFull D u⟩ else ⟨1, 0, []⟩
/-- All applied. -/
structure Done (D : List ByteArray) (B : List ByteArray) (N : NS) : Prop where
  st : ∀ u, u < 4 → N.st u = if u < 2 then ⟨(D.length : Int) + 2, 9, []⟩ else ⟨1, 0, []⟩
  km : N.im.km = 9
  bl : N.im.bl = B
  mk0 : N.mark = 0
  wk : N.im.work = none
theorem Full.ready {D : List ByteArray} {N : NS} (h : Full D N) (hk : N.im.km = 0) : N.ready g01 = 9 := by
  refine ready_eq (can_of (fun v hv => ?_) (by rw [hk]; decide) (List.ne_nil_of_mem ((at01 9 0).2 (.inl rfl)))) (fun m' hm' => ?_)
  · have hv2 := (at01 9 v).1 hv
    rw [h.st v (by omega), if_pos (by omega)]
    exact ⟨_, upTo_full D v⟩
  · have := (can_inv hm').1 0 ((at01 m' 0).2 (.inl rfl))
    rw [h.st 0 (by omega), if_pos (by omega)] at this
    have := upTo_marks.1 (Option.isSome_iff_exists.2 this)
    dsimp only at this
    rw [marks_full] at this
    simp at this
    omega
theorem Done.ready {D B : List ByteArray} {N : NS} (h : Done D B N) : N.ready g01 = 0 := by
  unfold NS.ready NS.marks
  rw [show ((List.range 4).flatMap fun v => S.marksOf (N.st v).rs) = [] from by
    rw [List.flatMap_eq_nil_iff]; intro v hv
    rw [h.st v (by simpa using hv)]
    split <;> rfl]
  rfl
theorem Done.held {D B : List ByteArray} {N : NS} (h : Done D B N) : (N.fin g01).held = 0 := by
  unfold NS.fin
  rw [steps_idle _ _ h.wk]
  unfold NS.held
  rw [h.st 0 (by omega), h.st 1 (by omega), h.st 2 (by omega), h.st 3 (by omega)]
  rfl
theorem Done.apV {D B : List ByteArray} {N N' : NS} (h : Done D B N) (h' : Done D B N') : N.apV = N'.apV := by
  unfold NS.apV NS.apl
  rw [h.st 0 (by omega), h.st 1 (by omega), h.st 2 (by omega), h.st 3 (by omega), h'.st 0 (by omega), h'.st 1 (by omega), h'.st 2 (by omega), h'.st 3 (by omega)]
/-- What the blocks become. -/
def cBl (D : List ByteArray) : List ByteArray := NS.lay ⟨newN.im, fun u => if u < 2 then ⟨1, 0, cFull D u⟩ else ⟨1, 0, []⟩, 0⟩ g01 9
theorem Full.lay {D : List ByteArray} {N : NS} (h : Full D N) (hb : N.im.bl = noBlocks) : N.lay g01 9 = cBl D := by
  unfold cBl NS.lay
  rw [hb]
  have key : ∀ (l : List Nat) (b : List ByteArray), (∀ v ∈ l, v < 4) → l.foldl (N.layOne 9) b = l.foldl (NS.layOne ⟨newN.im, fun u => if u < 2 then ⟨1, 0, cFull D u⟩ else ⟨1, 0, []⟩, 0⟩ 9) b := by
    intro l
    induction l with
    | nil => intro b _; rfl
    | cons v l ih =>
      intro b hl
      rw [List.foldl_cons, List.foldl_cons, ih _ (fun u hu => hl u (by simp [hu]))]
      congr 1
      unfold NS.layOne
      rw [h.st v (hl v (by simp))]
  exact key _ _ (fun v hv => at_lt hv)
/-- What is done is dropped. -/
theorem drop_full {D B : List ByteArray} {N : NS} (h : Full D N) (hk : N.im.km = 9) (hb : N.im.bl = B) (hm : N.mark = 0) (hw : N.im.work = none) : Done D B (N.drop g01) := by
  refine ⟨fun u hu => ?_, hk, hb, hm, hw⟩
  unfold NS.drop NS.dropL
  dsimp only
  rw [hk]
  by_cases h2 : u < 2
  · have hin : u ∈ g01.at_ ((9 : Nat) : Int) := (at01 _ u).2 (by omega)
    rw [if_pos ⟨hin, by rw [h.st u hu, if_pos h2]; show (0 : Int) ≠ 9; decide⟩, if_pos h2, h.st u hu, if_pos h2]
    unfold SS.drop
    dsimp only
    rw [show upTo (cFull D u) ((9 : Nat) : Int) = some D.length from upTo_full D u]
    dsimp only
    have : (cFull D u).drop (D.length + 1) = [] := by
      rw [List.drop_eq_nil_iff]; unfold cFull; rw [List.length_append, cList_len]; simp
    rw [this]
    congr 1
    omega
  · have hin : u ∉ g01.at_ ((9 : Nat) : Int) := fun hx => by have := (at01 _ u).1 hx; omega
    rw [if_neg (fun hx => hin hx.1), if_neg h2, h.st u hu, if_neg h2]
theorem drop_done {D B : List ByteArray} {N : NS} (h : Done D B N) : Done D B (N.drop g01) := by
  refine ⟨fun u hu => ?_, h.km, h.bl, h.mk0, h.wk⟩
  unfold NS.drop NS.dropL
  dsimp only
  rw [h.km]
  split
  · rename_i hx
    rw [h.st u hu] at hx
    have := (at01 _ u).1 hx.1
    rw [if_pos (by omega)] at hx
    exact absurd rfl hx.2
  · exact h.st u hu
theorem drop_zero {D : List ByteArray} {N : NS} (h : Full D N) (hk : N.im.km = 0) : Full D (N.drop g01) ∧ (N.drop g01).im = N.im ∧ (N.drop g01).mark = N.mark := by
  refine ⟨⟨fun u hu => ?_⟩, rfl, rfl⟩
  unfold NS.drop NS.dropL
  dsimp only
  rw [hk]
  split
  · rename_i hx
    rw [h.st u hu] at hx
    have := (at01 _ u).1 hx.1
    rw [if_pos (by omega)] at hx
    exact absurd rfl hx.2
  · exact h.st u hu
/-- Amid the application. -/
structure Amid (D : List ByteArray) (k : Nat) (N : NS) : Prop where
  full : Full D N
  km : N.im.km = 0
  bl : N.im.bl = noBlocks
  wk : N.im.work = some (9, cBl D, k)
  mk0 : N.mark = 9
theorem begun_amid {D : List ByteArray} {N : NS} (h : Full D N) (hk : N.im.km = 0) (hb : N.im.bl = noBlocks) : Amid D 0 (N.begun g01 9) :=
  ⟨⟨h.st⟩, hk, hb, by unfold NS.begun; dsimp only; rw [h.lay hb]; rfl, rfl⟩
theorem Amid.step {D : List ByteArray} {k : Nat} {N : NS} (h : Amid D k N) (hk : k < 34) : Amid D (k + 1) (N.step g01) := by
  obtain ⟨h1, h2, h3, h4, h5, h6⟩ := step_work g01 h.wk hk
  exact ⟨⟨fun u hu => by rw [h3]; exact h.full.st u hu⟩, h5.trans h.km, h6.trans h.bl, h1, h2.trans h.mk0⟩
theorem Amid.last {D : List ByteArray} {N : NS} (h : Amid D 34 N) : Done D (cBl D) (N.step g01) := by
  rw [step_last g01 h.wk]
  exact drop_full ⟨h.full.st⟩ rfl rfl rfl rfl
theorem Amid.steps {D : List ByteArray} : ∀ (n k : Nat) {N : NS}, Amid D k N → k + n ≤ 34 → Amid D (k + n) (N.steps g01 n)
  | 0, k, N, h, _ => h
  | n + 1, k, N, h, hn => by
    have := Amid.steps n (k + 1) (h.step (by omega)) (by omega)
    rw [show k + (n + 1) = k + 1 + n by omega]
    exact this
theorem Amid.full35 {D : List ByteArray} {N : NS} (h : Amid D 0 N) : Done D (cBl D) (N.steps g01 35) := by
  rw [show (35 : Nat) = 34 + 1 from rfl, steps_add]
  have := h.steps 34 0 (by omega)
  exact this.last
/-- Behind the crash, and what may follow. -/
theorem crash_cases {DD : List ByteArray} {N : NS} {c : Nat} (hI : N.Inv c) (hc : c ≤ 899) (keep : Int) (h : (∃ k, k ≤ 34 ∧ Amid DD k N) ∨ Done DD (cBl DD) N) :
    (Full DD (N.crash keep g01) ∧ (N.crash keep g01).im.km = 0 ∧ (N.crash keep g01).im.bl = noBlocks ∧ (N.crash keep g01).mark = 0) ∨ Done DD (cBl DD) (N.crash keep g01) := by
  obtain ⟨t, km, bl, hg, _, hE, hor⟩ := crashed_is hI hc keep
  unfold NS.crash
  rw [hE]
  rcases h with ⟨k, hk, h⟩ | h
  · rcases hor with ⟨_, h2, h3⟩ | ⟨_, h2, _⟩
    · obtain ⟨d1, d2, d3⟩ := drop_zero (N := { N with im := ⟨D.lay (D.bit keep) 0 N.im.S N.im.W, [], t, km, bl, none⟩, mark := 0 }) ⟨h.full.st⟩ (h2.trans h.km)
      exact .inl ⟨d1, by rw [d2]; exact h2.trans h.km, by rw [d2]; exact h3.trans h.bl, d3⟩
    · rw [h.wk] at h2
      cases h2
      exact .inr (drop_full ⟨h.full.st⟩ rfl rfl rfl rfl)
  · rcases hor with ⟨_, h2, h3⟩ | ⟨_, h2, _⟩
    · exact .inr (drop_done ⟨h.st, h2.trans h.km, h3.trans h.bl, rfl, rfl⟩)
    · rw [h.wk] at h2; cases h2
end Go.AM.Bp

/-
  BackupCuts.
-/
namespace Go.AM.Bp
open Go.Proofs

section
variable {σ0 : St} {nd1 nd2 g : Nat}
/-- Amid the taking: at both the same. -/
structure Tk (D : List ByteArray) (v i : Nat) (N : NS) : Prop where
  st : ∀ u, u < 4 → N.st u = if u < v then ⟨1, 0, cFull D u⟩ else if u = v then ⟨1, 0, cList D v i⟩ else ⟨1, 0, []⟩
  im : N.im = newN.im
  mk0 : N.mark = 0
theorem Tk.one {D : List ByteArray} {v i : Nat} {N : NS} (h : Tk D v i N) (hv : v < 4) (hi : i < D.length) (hl : D.length ≤ 40) (hs : (D.getD i ⟨#[]⟩).size ≤ 16) : Tk D v (i + 1) (N.take v (cRec D v i)) := by
  refine ⟨fun u hu => ?_, h.im, h.mk0⟩
  unfold NS.take
  dsimp only
  by_cases e : u = v
  · subst e
    rw [upd_same, if_neg (by omega), if_pos rfl, h.st u hu, if_neg (by omega), if_pos rfl, cList_succ]
    unfold SS.take
    rw [if_pos ⟨by dsimp only; rw [cList_len]; show (i : Int) + 1 = 1 + (i : Int); omega, ⟨by show (1 : Int) ≤ (i : Int) + 1; omega, by show (i : Int) + 1 ≤ 1152921504606846975; omega⟩, .inl ⟨rfl, by show (0 : Int) ≤ (((i + u) % 8 : Nat) : Int); omega, by show (((i + u) % 8 : Nat) : Int) ≤ 7; omega, hs, rfl⟩⟩]
  · rw [upd_ne _ _ e, h.st u hu, if_neg e, if_neg e]
theorem Tk.next {D : List ByteArray} {v : Nat} {N : NS} (h : Tk D v D.length N) (hv : v < 4) (hl : D.length ≤ 40) : Tk D (v + 1) 0 (N.take v (nRec D)) := by
  refine ⟨fun u hu => ?_, h.im, h.mk0⟩
  unfold NS.take
  dsimp only
  by_cases e : u = v
  · subst e
    rw [upd_same, if_pos (by omega), h.st u hu, if_neg (by omega), if_pos rfl]
    unfold SS.take
    rw [if_pos ⟨by dsimp only; rw [cList_len]; show (D.length : Int) + 1 = 1 + (D.length : Int); omega, ⟨by show (1 : Int) ≤ (D.length : Int) + 1; omega, by show (D.length : Int) + 1 ≤ 1152921504606846975; omega⟩, .inr ⟨rfl, rfl, rfl, by show (1 : Int) ≤ 9; decide, by show (9 : Int) ≤ 1152921504606846975; decide⟩⟩]
    rfl
  · rw [upd_ne _ _ e, h.st u hu]
    by_cases h1 : u < v
    · rw [if_pos h1, if_pos (by omega)]
    · rw [if_neg h1, if_neg e, if_neg (by omega)]
      split
      · rfl
      · rfl
/-- Both take it. -/
theorem both_take (L k : Nat) {σ : St} {N : NS} {c : Nat} {T : List (List Nat)} (hT : Two σ0 σ nd1 nd2 g N N T) (hI : N.Inv c) (hc : c ≤ 890) (v : Nat) (hv : v < 4) (r : S.Rec) {p : Nat} (hp : σ.get p = some (.own (S.c5 r) 40)) (hpT : [p] ∈ T) :
    ∃ x1 σ1 x2 σ2, evCall Try.prog env L (k + 4) 10 [ptr nd1, .int .i64 v, r.agg] σ = some (.tuple #[.int .i64 x1, .nilIface], σ1) ∧ σ1.get p = some (.own (S.c5 r) 40) ∧ evCall Try.prog env L (k + 4) 10 [ptr nd2, .int .i64 v, r.agg] σ1 = some (.tuple #[.int .i64 x2, .nilIface], σ2) ∧ Two σ0 σ2 nd1 nd2 g (N.take v r) (N.take v r) T ∧ Kp σ σ2 T := by
  obtain ⟨σ1, e1, h1, k1⟩ := hT.take hI (by omega) L k v hv r
  obtain ⟨σ2, e2, h2, k2⟩ := h1.swap.take hI (by omega) L k v hv r
  exact ⟨_, σ1, _, σ2, e1, (k1 [p] hpT p (by simp)).trans hp, e2, h2.swap, k1.trans k2⟩

theorem cu_inner (L k m0 : Nat) {ad : Option Addr} {D : List ByteArray} {z : Nat} {s1 s2 : Int} (hl : D.length ≤ 40) (hH : Holds σ0 1 cS ad D) (v : Nat) (hv : v < 2) : ∀ (n i : Nat) (σ : St) (N : NS), i ≤ D.length → D.length - i < n → Two σ0 σ nd1 nd2 g N N [[g]] → N.Inv (41 * v + i) → Grp σ g [g] g01 → Tk D v i N →
    (∃ σ', lpAt Try.prog env L (k + 4) 4 [true, true, true, true, true, true, false, true, false, true, true, false, true, false, true] [m0] n [(0, .slice ad D.length z), (1, .int .u8 s1), (2, .int .u64 s2), (9, ptr nd1), (11, ptr nd2), (13, .int .i64 v), (54, .int .i64 v), (58, .int .i64 D.length), (59, .int .i64 i)] σ = some (.bool true, σ')) ∨
    (∃ σ' N', lpAt Try.prog env L (k + 4) 4 [true, true, true, true, true, true, false, true, false, true, true, false, true, false, true] [m0] n [(0, .slice ad D.length z), (1, .int .u8 s1), (2, .int .u64 s2), (9, ptr nd1), (11, ptr nd2), (13, .int .i64 v), (54, .int .i64 v), (58, .int .i64 D.length), (59, .int .i64 i)] σ =
      lpAt Try.prog env L (k + 4) 4 [true, true, true, true, true, true, false, true] [] m0 [(0, .slice ad D.length z), (1, .int .u8 s1), (2, .int .u64 s2), (9, ptr nd1), (11, ptr nd2), (54, .int .i64 ((v + 1 : Nat) : Int))] σ' ∧ Two σ0 σ' nd1 nd2 g N' N' [[g]] ∧ N'.Inv (41 * (v + 1)) ∧ Grp σ' g [g] g01 ∧ Tk D (v + 1) 0 N')
  | 0, i, σ, N, _, hn, _, _, _, _ => by omega
  | n + 1, i, σ, N, hi, hn, hT, hI, hG, hK => by
    rw [f4_l12]
    by_cases hie : i = D.length
    · subst hie
      have hw : IntKind.wrap .i64 ((v : Int) + 1) = ((v + 1 : Nat) : Int) := by rw [wrap_in _ (by omega) (by omega)]; omega
      have hwn : IntKind.wrap .i64 ((D.length : Int) + 1) = (D.length : Int) + 1 := wrap_in _ (by omega) (by omega)
      obtain ⟨σ1, hput, g1, t1, n1⟩ := tmp_put σ [.int .i64 0, .int .i64 0, .int .i64 0, .string ⟨#[]⟩, .int .i64 0] (S.c5 (nRec D)) 40 rfl rfl
      have hput' : ∀ K : St → Res, (σ.new (.own [.int .i64 0, .int .i64 0, .int .i64 0, .string ⟨#[]⟩, .int .i64 0] 40)).put σ.next 0 [.int .i64 ((D.length : Int) + 1), .int .i64 2, .int .i64 0, .string ⟨#[]⟩, .int .i64 9] K = K σ1 := hput
      have hT1 := hT.push t1 (X := [σ.next]) (by simp; omega)
      rw [decide_eq_false (by omega), br_false, need_true, need_true, need_true, hwn, hput']
      generalize σ.next = p at *
      obtain ⟨x1, σ2, x2, σ3, e2, g2, e3, hT3, k3⟩ := both_take L k hT1 hI (by omega) v (by omega) (nRec D) g1 (by simp)
      have e2' : evCall Try.prog env L (k + 4) 10 [ptr nd1, .int .i64 v, .agg #[.int .i64 ((D.length : Int) + 1), .int .i64 2, .int .i64 0, .string ⟨#[]⟩, .int .i64 9]] σ1 = _ := e2
      have e3' : evCall Try.prog env L (k + 4) 10 [ptr nd2, .int .i64 v, .agg #[.int .i64 ((D.length : Int) + 1), .int .i64 2, .int .i64 0, .string ⟨#[]⟩, .int .i64 9]] σ2 = _ := e3
      have c5n : S.c5 (nRec D) = [.int .i64 ((D.length : Int) + 1), .int .i64 2, .int .i64 0, .string ⟨#[]⟩, .int .i64 9] := rfl
      rw [c5n] at g1 g2
      refine .inr ⟨σ3, _, ?_, hT3.pop, (hI.take v _).mono (by omega), (hG.idle t1).moved (fun q hq => k3 [g] (by simp) q hq) (hT3.lt (by simp)), hK.next (by omega) hl⟩
      rw [lds_all (n := 5) g1 rfl, uncons_c, asI_i, uncons_c, asI_i, uncons_c, asI_i, uncons_c, asS_s, uncons_c, asI_i, endl_n, e2', bnd_some, asT_t, toList2, uncons_c, asI_i, uncons_c, endl_n, lds_all (n := 5) g2 rfl, uncons_c, asI_i, uncons_c, asI_i, uncons_c, asI_i, uncons_c, asS_s, uncons_c, asI_i, endl_n, e3', bnd_some, asT_t, toList2, uncons_c, asI_i, uncons_c, endl_n, hw]
    have hget : D[i]? = some D[i] := List.getElem?_eq_getElem (by omega)
    have hgd : D.getD i ⟨#[]⟩ = D[i] := by rw [List.getD_eq_getElem?_getD, hget]; rfl
    obtain ⟨q, e, hat⟩ := hH.ld hT.keptBase hget
    subst e
    have hw : IntKind.wrap .i64 ((i : Int) + 1) = ((i + 1 : Nat) : Int) := by rw [wrap_in _ (by omega) (by omega)]; omega
    have hw2 : Int.tmod (IntKind.wrap .i64 ((i : Int) + (v : Int))) 8 = (((i + v) % 8 : Nat) : Int) := by
      rw [wrap_in _ (by omega) (by omega), Int.tmod_eq_emod_of_nonneg (by omega)]; omega
    have iv : inRange (i : Int) (D.length : Int) = true := by simp [inRange]; omega
    have hrd : ∀ K : Value → Res, σ.ld q (0 + Int.toNat (i : Int) * 1) K = K (.string D[i]) := fun K => hat 0 (.string D[i]) _ (by omega) rfl (by simp) K
    rw [decide_eq_true (by omega), br_true, need_of iv, adr_some, hrd, asS_s]
    by_cases hs : ((D[i].size : Nat) : Int) > 16
    · rw [decide_eq_true hs, br_true]; exact .inl ⟨σ, rfl⟩
    have hcr : cRec D v i = ⟨((i + 1 : Nat) : Int), 1, (((i + v) % 8 : Nat) : Int), D[i], 0⟩ := by unfold cRec; rw [hgd]; rfl
    obtain ⟨σ1, hput, g1, t1, n1⟩ := tmp_put σ [.int .i64 0, .int .i64 0, .int .i64 0, .string ⟨#[]⟩, .int .i64 0] (S.c5 (cRec D v i)) 40 rfl rfl
    have c5n : S.c5 (cRec D v i) = [.int .i64 ((i + 1 : Nat) : Int), .int .i64 1, .int .i64 (((i + v) % 8 : Nat) : Int), .string D[i], .int .i64 0] := by rw [hcr]; rfl
    have hput' : ∀ K : St → Res, (σ.new (.own [.int .i64 0, .int .i64 0, .int .i64 0, .string ⟨#[]⟩, .int .i64 0] 40)).put σ.next 0 [.int .i64 ((i + 1 : Nat) : Int), .int .i64 1, .int .i64 (((i + v) % 8 : Nat) : Int), .string D[i], .int .i64 0] K = K σ1 := by rw [← c5n]; exact hput
    have hT1 := hT.push t1 (X := [σ.next]) (by simp; omega)
    rw [decide_eq_false hs, br_false, need_of iv, adr_some, hrd, asS_s, need_true, need_true, need_true, need_true, hw, hw2, hput']
    generalize σ.next = p at *
    obtain ⟨x1, σ2, x2, σ3, e2, g2, e3, hT3, k3⟩ := both_take L k hT1 hI (by omega) v (by omega) (cRec D v i) g1 (by simp)
    have hag : (cRec D v i).agg = .agg #[.int .i64 ((i + 1 : Nat) : Int), .int .i64 1, .int .i64 (((i + v) % 8 : Nat) : Int), .string D[i], .int .i64 0] := by rw [hcr]; rfl
    rw [hag] at e2 e3
    rw [c5n] at g1 g2
    rw [lds_all (n := 5) g1 rfl, uncons_c, asI_i, uncons_c, asI_i, uncons_c, asI_i, uncons_c, asS_s, uncons_c, asI_i, endl_n, e2, bnd_some, asT_t, toList2, uncons_c, asI_i, uncons_c, endl_n, lds_all (n := 5) g2 rfl, uncons_c, asI_i, uncons_c, asI_i, uncons_c, asI_i, uncons_c, asS_s, uncons_c, asI_i, endl_n, e3, bnd_some, asT_t, toList2, uncons_c, asI_i, uncons_c, endl_n]
    exact cu_inner L k m0 hl hH v hv n (i + 1) σ3 _ (by omega) (by omega) hT3.pop ((hI.take v _).mono (by omega)) ((hG.idle t1).moved (fun q hq => k3 [g] (by simp) q hq) (hT3.lt (by simp))) (hK.one (by omega) (by omega) hl (by rw [hgd]; omega))

/-! Steps. -/
theorem cu_a (L k : Nat) (hL : 100000 < L) {c : Nat} (hc : c ≤ 899) {s1 s2 : Int} : ∀ (n j : Nat) (σ : St) (Na Nb : NS), j ≤ 35 → 35 - j < n → Two σ0 σ nd1 nd2 g Na Nb [[g]] → Na.Inv c → Grp σ g [g] g01 →
    ∃ n' σ', lpAt Try.prog env L (k + 9) 4 [true, true, true, true, true, true, true, true, true, false, true] [] n [(1, .int .u8 s1), (2, .int .u64 s2), (9, ptr nd1), (11, ptr nd2), (105, .int .i64 j)] σ =
      lpAt Try.prog env L (k + 9) 4 [true, true, true, true, true, true, true, true, true, false, true] [] (n' + 1) [(1, .int .u8 s1), (2, .int .u64 s2), (9, ptr nd1), (11, ptr nd2), (105, .int .i64 ((35 : Nat) : Int))] σ' ∧ Two σ0 σ' nd1 nd2 g (Na.steps g01 (35 - j)) Nb [[g]] ∧ Grp σ' g [g] g01
  | 0, j, σ, Na, Nb, _, hn, _, _, _ => by omega
  | n + 1, j, σ, Na, Nb, hj, hn, hT, hI, hG => by
    by_cases hje : j = 35
    · subst hje; exact ⟨n, σ, rfl, hT, hG⟩
    have hw : IntKind.wrap .i64 ((j : Int) + 1) = ((j + 1 : Nat) : Int) := by rw [wrap_in _ (by omega) (by omega)]; omega
    obtain ⟨b, e, σ1, e1, hT1, k1⟩ := hT.step hI hc L k hL hG (by simp)
    obtain ⟨n', σ2, e2, h2⟩ := cu_a L k hL hc n (j + 1) σ1 _ Nb (by omega) (by omega) hT1 (hI.step hc g01) (hG.moved (fun q hq => k1 [g] (by simp) q hq) (hT1.lt (by simp)))
    refine ⟨n', σ2, ?_, ?_⟩
    · rw [f4_l27, decide_eq_true (by omega), br_true, e1, bnd_some, asT_t, toList2, uncons_c, asB_b, uncons_c, endl_n, hw, e2]
    · rw [show 35 - j = (35 - (j + 1)) + 1 by omega]; exact h2
theorem cu_b (L k : Nat) (hL : 100000 < L) {c : Nat} (hc : c ≤ 899) {s2 : Int} {M : Nat} (hM : M ≤ 35) : ∀ (n j : Nat) (σ : St) (Na Nb : NS), j ≤ M → M - j < n → Two σ0 σ nd1 nd2 g Na Nb [[g]] → Nb.Inv c → Grp σ g [g] g01 →
    ∃ n' σ', lpAt Try.prog env L (k + 9) 4 [true, true, true, true, true, true, true, true, true, true, false, true] [] n [(2, .int .u64 s2), (9, ptr nd1), (11, ptr nd2), (112, .int .i64 M), (113, .int .i64 j)] σ =
      lpAt Try.prog env L (k + 9) 4 [true, true, true, true, true, true, true, true, true, true, false, true] [] (n' + 1) [(2, .int .u64 s2), (9, ptr nd1), (11, ptr nd2), (112, .int .i64 M), (113, .int .i64 M)] σ' ∧ Two σ0 σ' nd1 nd2 g Na (Nb.steps g01 (M - j)) [[g]] ∧ Grp σ' g [g] g01
  | 0, j, σ, Na, Nb, _, hn, _, _, _ => by omega
  | n + 1, j, σ, Na, Nb, hj, hn, hT, hI, hG => by
    by_cases hje : j = M
    · subst hje; rw [Nat.sub_self]; exact ⟨n, σ, rfl, hT, hG⟩
    have hw : IntKind.wrap .i64 ((j : Int) + 1) = ((j + 1 : Nat) : Int) := by rw [wrap_in _ (by omega) (by omega)]; omega
    obtain ⟨b, e, σ1, e1, hT1, k1⟩ := hT.swap.step hI hc L k hL hG (by simp)
    obtain ⟨n', σ2, e2, h2⟩ := cu_b L k hL hc hM n (j + 1) σ1 Na _ (by omega) (by omega) hT1.swap (hI.step hc g01) (hG.moved (fun q hq => k1 [g] (by simp) q hq) (hT1.lt (by simp)))
    refine ⟨n', σ2, ?_, ?_⟩
    · rw [f4_l31, decide_eq_true (by omega), br_true, e1, bnd_some, asT_t, toList2, uncons_c, asB_b, uncons_c, endl_n, hw, e2]
    · rw [show M - j = (M - (j + 1)) + 1 by omega]; exact h2
theorem cu_last (L k : Nat) (hL : 100000 < L) {DD : List ByteArray} {c : Nat} (hc : c ≤ 899) : ∀ (n j : Nat) (σ : St) (Na Nb : NS), j ≤ 35 → 35 - j < n → Two σ0 σ nd1 nd2 g Na Nb [[g]] → Na.Inv c → Nb.Inv c → Grp σ g [g] g01 → Done DD (cBl DD) Na → Done DD (cBl DD) (Nb.steps g01 (35 - j)) →
    ∃ σ', lpAt Try.prog env L (k + 13) 4 [true, true, true, true, true, true, true, true, true, true, true, true, false, true, true, false, true] [] n [(9, ptr nd1), (11, ptr nd2), (129, .int .i64 j)] σ = some (.bool true, σ')
  | 0, j, σ, Na, Nb, _, hn, _, _, _, _, _, _ => by omega
  | n + 1, j, σ, Na, Nb, hj, hn, hT, hIa, hIb, hG, ha, hb => by
    rw [f4_l39]
    by_cases hje : j = 35
    rotate_left
    · have hw : IntKind.wrap .i64 ((j : Int) + 1) = ((j + 1 : Nat) : Int) := by rw [wrap_in _ (by omega) (by omega)]; omega
      obtain ⟨b, e, σ1, e1, hT1, k1⟩ := hT.swap.step hIb hc L (k + 4) hL hG (by simp)
      rw [decide_eq_true (by omega), br_true, e1, bnd_some, asT_t, toList2, uncons_c, asB_b, uncons_c, endl_n, hw]
      rw [show 35 - j = (35 - (j + 1)) + 1 by omega] at hb
      exact cu_last L k hL hc n (j + 1) σ1 Na _ (by omega) (by omega) hT1.swap hIa (hIb.step hc g01) (hG.moved (fun q hq => k1 [g] (by simp) q hq) (hT1.lt (by simp))) ha hb
    subst hje
    replace hb : Done DD (cBl DD) Nb := hb
    rw [decide_eq_false (by decide), br_false]
    have ht : ∀ b : List ByteArray, (strs b).toArray.toList = strs b := fun _ => rfl
    obtain ⟨τ1, e1, t1, hb1⟩ := hT.image L (k + 11)
    have hT1 := (hT.idle t1).1
    have u2 : Same τ1 (τ1.new (.own (strs Na.im.bl) 48)) [] := Same.new _ _ _
    have p2 : (τ1.new (.own (strs Na.im.bl) 48)).get τ1.next = some (.own (strs Na.im.bl) 48) := get_new_same _ _
    have n2 : (τ1.new (.own (strs Na.im.bl) 48)).next = τ1.next + 1 := rfl
    have hT2 := hT1.push u2 (X := [τ1.next]) (fun q hq => by simp at hq; omega)
    rw [e1, bnd_some, asT_t, toList2, uncons_c, asAgL_a, ht, uncons_c, asI_i, endl_n, need_of (by rw [strs_len, hb1]; rfl), tmp_put2 τ1 _ (strs Na.im.bl) 48 (by rw [strs_len, hb1]; rfl) (strs_one _)]
    generalize hτ2 : τ1.new (.own (strs Na.im.bl) 48) = τ2 at *
    obtain ⟨τ3, e3, t3, hb3⟩ := hT2.swap.image L (k + 11)
    have hT3 := (hT2.idle t3).1
    have u4 : Same τ3 (τ3.new (.own (strs Nb.im.bl) 48)) [] := Same.new _ _ _
    have p4 : (τ3.new (.own (strs Nb.im.bl) 48)).get τ3.next = some (.own (strs Nb.im.bl) 48) := get_new_same _ _
    have n4 : (τ3.new (.own (strs Nb.im.bl) 48)).next = τ3.next + 1 := rfl
    have hT4 := (hT3.idle u4).1
    rw [e3, bnd_some, asT_t, toList2, uncons_c, asAgL_a, ht, uncons_c, asI_i, endl_n, need_of (by rw [strs_len, hb3]; rfl), tmp_put2 τ3 _ (strs Nb.im.bl) 48 (by rw [strs_len, hb3]; rfl) (strs_one _)]
    have s24 := t3.trans u4
    have p24 : (τ3.new (.own (strs Nb.im.bl) 48)).get τ1.next = some (.own (strs Na.im.bl) 48) := (s24.2 τ1.next (by omega) (by simp)).trans p2
    generalize τ3.new (.own (strs Nb.im.bl) 48) = τ4 at *
    have kG : Kp σ τ4 [[g]] := fun H hH q hq => by
      have hq0 := hT.lt hH q hq
      have := t1.1
      rw [s24.2 q (by omega) (by simp), u2.2 q (by omega) (by simp), t1.2 q hq0 (by simp)]
    have hG4 : Grp τ4 g [g] g01 := hG.moved (fun q hq => kG [g] (by simp) q hq) (hT4.lt (by simp))
    rw [lds_all (n := 32) p24 (by rw [strs_len, hb1]), lds_all (n := 32) p4 (by rw [strs_len, hb3]), kds32, eqCells32 _ hb1 hb3, decide_eq_true (ha.bl.trans hb.bl.symm), br_true, show ((Na.im.km : Int) == 9) = true by rw [ha.km]; rfl, br_true, show ((Nb.im.km : Int) == 9) = true by rw [hb.km]; rfl, br_true]
    obtain ⟨τ5, e5, t5⟩ := hT4.applied hIa (by omega) L (k + 11) hL
    obtain ⟨τ6, e6, t6⟩ := (hT4.idle t5).1.swap.applied hIb (by omega) L (k + 11) hL
    have hap := ha.apV hb
    have hV : ∀ N : NS, N.apV = .agg #[.int .i64 (N.apl 0), .int .i64 (N.apl 1), .int .i64 (N.apl 2), .int .i64 (N.apl 3)] := fun _ => rfl
    rw [← hap] at e6
    rw [hV] at e5 e6
    rw [e5, bnd_some, asAgL_a]
    show ∃ σ', (uncons [Value.int .i64 (Na.apl 0), .int .i64 (Na.apl 1), .int .i64 (Na.apl 2), .int .i64 (Na.apl 3)] _) = _
    rw [uncons_c, asI_i, uncons_c, asI_i, uncons_c, asI_i, uncons_c, asI_i, endl_n, e6, bnd_some, asAgL_a]
    show ∃ σ', (uncons [Value.int .i64 (Na.apl 0), .int .i64 (Na.apl 1), .int .i64 (Na.apl 2), .int .i64 (Na.apl 3)] _) = _
    rw [uncons_c, asI_i, uncons_c, asI_i, uncons_c, asI_i, uncons_c, asI_i, endl_n, show (Na.apl 0 == Na.apl 0 && (Na.apl 1 == Na.apl 1 && (Na.apl 2 == Na.apl 2 && (Na.apl 3 == Na.apl 3 && true)))) = true by simp, br_true]
    have hT6 := ((hT4.idle t5).1.idle t6).1.pop
    have hG6 := (hG4.idle t5).idle t6
    obtain ⟨τ7, e7, hT7, k7⟩ := hT6.promote hIa (by omega) L (k + 3) hL hG6 (by simp)
    obtain ⟨τ8, e8, _, _⟩ := hT7.swap.promote hIb (by omega) L (k + 3) hL (hG6.moved (fun q hq => k7 [g] (by simp) q hq) (hT7.lt (by simp))) (by simp)
    rw [ha.held] at e7
    rw [hb.held] at e8
    rw [e7, bnd_some, asI_i, e8, bnd_some, asI_i]
    exact ⟨τ8, rfl⟩

theorem cu_end (L k n : Nat) (hL : 100000 < L) {DD : List ByteArray} {c : Nat} (hc : c ≤ 890) {s2 : Int} {M : Nat} {σ : St} {Na Nb : NS} (hT : Two σ0 σ nd1 nd2 g Na Nb [[g]]) (hIa : Na.Inv c) (hIb : Nb.Inv c) (hG : Grp σ g [g] g01) (ha : Done DD (cBl DD) Na) (hb0 : (∃ k, k ≤ 34 ∧ Amid DD k Nb) ∨ Done DD (cBl DD) Nb) :
    ∃ σ', lpAt Try.prog env L (k + 13) 4 [true, true, true, true, true, true, true, true, true, true, false, true] [] (n + 1) [(2, .int .u64 s2), (9, ptr nd1), (11, ptr nd2), (112, .int .i64 M), (113, .int .i64 M)] σ = some (.bool true, σ') := by
  rw [f4_l31, decide_eq_false (by omega), br_false]
  obtain ⟨σ1, e1, hT1, k1⟩ := hT.swap.crash hIb (by omega) L (k + 1) hL hG (by simp) s2
  have hG1 : Grp σ1 g [g] g01 := hG.moved (fun q hq => k1 [g] (by simp) q hq) (hT1.lt (by simp))
  have hI1 := hIb.crash (by omega) s2 g01
  have hcc := crash_cases hIb (by omega) s2 hb0
  rw [e1, bnd_some, eqNil_nil, not_true, br_false]
  generalize Nb.crash s2 g01 = N1 at *
  obtain ⟨v2, σ2, e2, k2, hor⟩ := hT1.begin hI1 (by omega) L (k + 7) hL hG1
  rw [e2, bnd_some]
  rcases hcc with ⟨hf, hkm, hbl, hm⟩ | hd
  · have hr := hf.ready hkm
    rcases hor with ⟨_, hx, _⟩ | ⟨h0, hr0, rfl, hT2⟩ | hx
    · rw [hr] at hx; exact absurd hx (by decide)
    · rw [hr] at hT2
      have hG2 : Grp σ2 g [g] g01 := hG1.moved (fun q hq => k2 [g] (by simp) q hq) (hT2.lt (by simp))
      have hI2 := (hI1.begun h0 hr0).1
      rw [hr] at hI2
      have hA := begun_amid hf hkm hbl
      rw [asT_t, toList2, uncons_c, asI_i, uncons_c, endl_n, eqNil_nil, br_true]
      exact cu_last L k hL (c := c + 1) (by omega) L 0 σ2 Na _ (by omega) (by omega) hT2.swap (hIa.mono (by omega)) hI2 hG2 ha hA.full35
    · exact absurd hm hx
  · have hr := hd.ready
    rcases hor with ⟨_, _, ⟨q, rfl⟩, hT2⟩ | ⟨_, hx, _⟩ | hx
    · have hG2 : Grp σ2 g [g] g01 := hG1.moved (fun q hq => k2 [g] (by simp) q hq) (hT2.lt (by simp))
      rw [asT_t, toList2, uncons_c, asI_i, uncons_c, endl_n, eqNil_iface, br_false]
      have hT := hT2.swap
      have hb := hd
      have hIb := hI1
      have hG := hG2
      clear hT2 hG2 hG1 hT1
      generalize σ2 = σ at *
      generalize N1 = Nb at *
      have ht : ∀ b : List ByteArray, (strs b).toArray.toList = strs b := fun _ => rfl
      obtain ⟨τ1, e1, t1, hb1⟩ := hT.image L (k + 11)
      have hT1 := (hT.idle t1).1
      have u2 : Same τ1 (τ1.new (.own (strs Na.im.bl) 48)) [] := Same.new _ _ _
      have p2 : (τ1.new (.own (strs Na.im.bl) 48)).get τ1.next = some (.own (strs Na.im.bl) 48) := get_new_same _ _
      have n2 : (τ1.new (.own (strs Na.im.bl) 48)).next = τ1.next + 1 := rfl
      have hT2 := hT1.push u2 (X := [τ1.next]) (fun q hq => by simp at hq; omega)
      rw [e1, bnd_some, asT_t, toList2, uncons_c, asAgL_a, ht, uncons_c, asI_i, endl_n, need_of (by rw [strs_len, hb1]; rfl), tmp_put2 τ1 _ (strs Na.im.bl) 48 (by rw [strs_len, hb1]; rfl) (strs_one _)]
      generalize hτ2 : τ1.new (.own (strs Na.im.bl) 48) = τ2 at *
      obtain ⟨τ3, e3, t3, hb3⟩ := hT2.swap.image L (k + 11)
      have hT3 := (hT2.idle t3).1
      have u4 : Same τ3 (τ3.new (.own (strs Nb.im.bl) 48)) [] := Same.new _ _ _
      have p4 : (τ3.new (.own (strs Nb.im.bl) 48)).get τ3.next = some (.own (strs Nb.im.bl) 48) := get_new_same _ _
      have n4 : (τ3.new (.own (strs Nb.im.bl) 48)).next = τ3.next + 1 := rfl
      have hT4 := (hT3.idle u4).1
      rw [e3, bnd_some, asT_t, toList2, uncons_c, asAgL_a, ht, uncons_c, asI_i, endl_n, need_of (by rw [strs_len, hb3]; rfl), tmp_put2 τ3 _ (strs Nb.im.bl) 48 (by rw [strs_len, hb3]; rfl) (strs_one _)]
      have s24 := t3.trans u4
      have p24 : (τ3.new (.own (strs Nb.im.bl) 48)).get τ1.next = some (.own (strs Na.im.bl) 48) := (s24.2 τ1.next (by omega) (by simp)).trans p2
      generalize τ3.new (.own (strs Nb.im.bl) 48) = τ4 at *
      have kG : Kp σ τ4 [[g]] := fun H hH q hq => by
        have hq0 := hT.lt hH q hq
        have := t1.1
        rw [s24.2 q (by omega) (by simp), u2.2 q (by omega) (by simp), t1.2 q hq0 (by simp)]
      have hG4 : Grp τ4 g [g] g01 := hG.moved (fun q hq => kG [g] (by simp) q hq) (hT4.lt (by simp))
      rw [lds_all (n := 32) p24 (by rw [strs_len, hb1]), lds_all (n := 32) p4 (by rw [strs_len, hb3]), kds32, eqCells32 _ hb1 hb3, decide_eq_true (ha.bl.trans hb.bl.symm), br_true, show ((Na.im.km : Int) == 9) = true by rw [ha.km]; rfl, br_true, show ((Nb.im.km : Int) == 9) = true by rw [hb.km]; rfl, br_true]
      obtain ⟨τ5, e5, t5⟩ := hT4.applied hIa (by omega) L (k + 11) hL
      obtain ⟨τ6, e6, t6⟩ := (hT4.idle t5).1.swap.applied hIb (by omega) L (k + 11) hL
      have hap := ha.apV hb
      have hV : ∀ N : NS, N.apV = .agg #[.int .i64 (N.apl 0), .int .i64 (N.apl 1), .int .i64 (N.apl 2), .int .i64 (N.apl 3)] := fun _ => rfl
      rw [← hap] at e6
      rw [hV] at e5 e6
      rw [e5, bnd_some, asAgL_a]
      show ∃ σ', (uncons [Value.int .i64 (Na.apl 0), .int .i64 (Na.apl 1), .int .i64 (Na.apl 2), .int .i64 (Na.apl 3)] _) = _
      rw [uncons_c, asI_i, uncons_c, asI_i, uncons_c, asI_i, uncons_c, asI_i, endl_n, e6, bnd_some, asAgL_a]
      show ∃ σ', (uncons [Value.int .i64 (Na.apl 0), .int .i64 (Na.apl 1), .int .i64 (Na.apl 2), .int .i64 (Na.apl 3)] _) = _
      rw [uncons_c, asI_i, uncons_c, asI_i, uncons_c, asI_i, uncons_c, asI_i, endl_n, show (Na.apl 0 == Na.apl 0 && (Na.apl 1 == Na.apl 1 && (Na.apl 2 == Na.apl 2 && (Na.apl 3 == Na.apl 3 && true)))) = true by simp, br_true]
      have hT6 := ((hT4.idle t5).1.idle t6).1.pop
      have hG6 := (hG4.idle t5).idle t6
      obtain ⟨τ7, e7, hT7, k7⟩ := hT6.promote hIa (by omega) L (k + 3) hL hG6 (by simp)
      obtain ⟨τ8, e8, _, _⟩ := hT7.swap.promote hIb (by omega) L (k + 3) hL (hG6.moved (fun q hq => k7 [g] (by simp) q hq) (hT7.lt (by simp))) (by simp)
      rw [ha.held] at e7
      rw [hb.held] at e8
      rw [e7, bnd_some, asI_i, e8, bnd_some, asI_i]
      exact ⟨τ8, rfl⟩

    · exact absurd hr hx
    · exact absurd hd.mk0 hx
theorem cu_outer (L k : Nat) (hL : 100000 < L) {ad : Option Addr} {D : List ByteArray} {z : Nat} {s1 s2 : Int} (hs1 : 0 ≤ s1 ∧ s1 ≤ 255) (hl : D.length ≤ 40) (hH : Holds σ0 1 cS ad D) : ∀ (n v : Nat) (σ : St) (N : NS), v ≤ 2 → 2 - v < n → Two σ0 σ nd1 nd2 g N N [[g]] → N.Inv (41 * v) → Grp σ g [g] g01 → Tk D v 0 N →
    ∃ σ', lpAt Try.prog env L (k + 13) 4 [true, true, true, true, true, true, false, true] [] n [(0, .slice ad D.length z), (1, .int .u8 s1), (2, .int .u64 s2), (9, ptr nd1), (11, ptr nd2), (54, .int .i64 v)] σ = some (.bool true, σ')
  | 0, v, σ, N, _, hn, _, _, _, _ => by omega
  | n + 1, v, σ, N, hv, hn, hT, hI, hG, hK => by
    rw [f4_l9]
    by_cases hv2 : v = 2
    rotate_left
    · rw [decide_eq_true (by omega), br_true]
      rcases cu_inner L (k + 9) n (z := z) (s1 := s1) (s2 := s2) hl hH v (by omega) L 0 σ N (by omega) (by omega) hT (by simpa using hI) hG hK with ⟨σ', e⟩ | ⟨σ', N', e, h1, h2, h3, h4⟩
      · exact ⟨σ', e⟩
      · obtain ⟨σ2, e2⟩ := cu_outer L k hL hs1 hl hH n (v + 1) σ' N' (by omega) (by omega) h1 h2 h3 h4
        exact ⟨σ2, e.trans e2⟩
    subst hv2
    have hF : Full D N := ⟨fun u hu => by
      rw [hK.st u hu]
      by_cases h2 : u < 2
      · rw [if_pos h2, if_pos h2]
      · rw [if_neg h2, if_neg h2]
        split
        · rfl
        · rfl⟩
    have hkm : N.im.km = 0 := by rw [hK.im]; rfl
    have hbl : N.im.bl = noBlocks := by rw [hK.im]; rfl
    have hr := hF.ready hkm
    have hA := begun_amid hF hkm hbl
    obtain ⟨v1, σ1, e1, k1, hor1⟩ := hT.begin hI (by omega) L (k + 7) hL hG
    rw [decide_eq_false (by decide), br_false, e1, bnd_some]
    rcases hor1 with ⟨_, hx, _⟩ | ⟨h0, hr0, rfl, hT1⟩ | hx
    · rw [hr] at hx; exact absurd hx (by decide)
    rotate_left
    · exact absurd hK.mk0 hx
    have hG1 : Grp σ1 g [g] g01 := hG.moved (fun q hq => k1 [g] (by simp) q hq) (hT1.lt (by simp))
    obtain ⟨v2, σ2, e2, k2, hor2⟩ := hT1.swap.begin hI (by omega) L (k + 7) hL hG1
    rw [asT_t, toList2, uncons_c, asI_i, uncons_c, endl_n, e2, bnd_some]
    rcases hor2 with ⟨_, hx, _⟩ | ⟨_, _, rfl, hT2⟩ | hx
    · rw [hr] at hx; exact absurd hx (by decide)
    rotate_left
    · exact absurd hK.mk0 hx
    have hG2 : Grp σ2 g [g] g01 := hG1.moved (fun q hq => k2 [g] (by simp) q hq) (hT2.lt (by simp))
    have hI2 := (hI.begun h0 hr0).1
    rw [hr] at hT2 hI2
    rw [asT_t, toList2, uncons_c, asI_i, uncons_c, endl_n]
    obtain ⟨n3, σ3, e3, hT3, hG3⟩ := cu_a L (k + 4) hL (c := 83) (by omega) (s1 := s1) (s2 := s2) L 0 σ2 _ _ (by omega) (by omega) hT2.swap hI2 hG2
    have e3' : lpAt Try.prog env L (k + 13) 4 [true, true, true, true, true, true, true, true, true, false, true] [] L [(1, .int .u8 s1), (2, .int .u64 s2), (9, ptr nd1), (11, ptr nd2), (105, .int .i64 0)] σ2 = _ := e3
    obtain ⟨M, hM, hM35⟩ : ∃ M : Nat, Int.tmod (IntKind.wrap .i64 s1) 36 = M ∧ M ≤ 35 := by
      rw [wrap_in _ (by omega) (by omega), Int.tmod_eq_emod_of_nonneg hs1.1]
      exact ⟨(s1 % 36).toNat, by omega, by omega⟩
    rw [f4_l27, decide_eq_false (by decide), br_false, hM] at e3'
    obtain ⟨n4, σ4, e4, hT4, hG4⟩ := cu_b L (k + 4) hL (c := 83) (by omega) (s2 := s2) (M := M) hM35 L 0 σ3 _ _ (by omega) (by omega) hT3 hI2 hG3
    have hIa : (NS.steps g01 (35 - 0) (N.begun g01 9)).Inv 83 := NS.Inv.steps (by omega) g01 _ hI2
    have hIb : (NS.steps g01 (M - 0) (N.begun g01 9)).Inv 83 := NS.Inv.steps (by omega) g01 _ hI2
    have hb : (∃ k, k ≤ 34 ∧ Amid D k (NS.steps g01 (M - 0) (N.begun g01 9))) ∨ Done D (cBl D) (NS.steps g01 (M - 0) (N.begun g01 9)) := by
      rw [Nat.sub_zero]
      by_cases h35 : M = 35
      · subst h35; exact .inr hA.full35
      · exact .inl ⟨0 + M, by omega, hA.steps M 0 (by omega)⟩
    obtain ⟨σ5, e5⟩ := cu_end L k n4 hL (c := 83) (by omega) (s2 := s2) (M := M) hT4 hIa hIb hG4 hA.full35 hb
    exact ⟨σ5, e3'.trans (e4.trans e5)⟩
end
theorem cuts_holds (L k : Nat) (hL : 100000 < L) {σ0 : St} {ad0 : Option Addr} {D : List ByteArray} (hH : Holds σ0 1 cS ad0 D) (s1 s2 : Int) (hs1 : 0 ≤ s1 ∧ s1 ≤ 255) :
    ∃ σ', evCall Try.prog env L (k + 14) 4 [.slice ad0 D.length 0, .int .u8 s1, .int .u64 s2] σ0 = some (.bool true, σ') := by
  rw [f4_eq]
  obtain ⟨σ1, g1, s1'⟩ := awake_spec L (k + 1) hL σ0
  rw [g1, bnd_some, asB_b, not_true, br_false]
  by_cases h40 : ((D.length : Nat) : Int) > 40
  · obtain ⟨σ3, g3, _⟩ := awake_spec L (k + 1) hL σ1
    rw [decide_eq_true h40, br_true, g3, bnd_some, asB_b]; exact ⟨σ3, rfl⟩
  rw [decide_eq_false h40, br_false]
  -- the group
  have s2' : Same σ1 (σ1.new (.own [.int .i64 0, .int .i64 1] 3)) [] := Same.new _ _ _
  have g2 : (σ1.new (.own [.int .i64 0, .int .i64 1] 3)).get σ1.next = some (.own [.int .i64 0, .int .i64 1] 3) := get_new_same _ _
  have n2 : (σ1.new (.own [.int .i64 0, .int .i64 1] 3)).next = σ1.next + 1 := rfl
  generalize σ1.new (.own [.int .i64 0, .int .i64 1] 3) = σ2 at s2' g2 n2
  have hH2 : Holds σ2 1 c1 (some ⟨σ1.next, 0, none⟩) [0, 1] := fun _ => ⟨σ1.next, [.int .i64 0, .int .i64 1], rfl, by simp [St.cells, g2, Blk.cells], by omega, by simp, fun i a hi j v hj hv => by
    have hj0 : j = 0 := by omega
    subst hj0
    simp [c1] at hv
    subst hv
    match i, hi with
    | 0, hi => simp at hi; subst hi; rfl
    | 1, hi => simp at hi; subst hi; rfl
    | i + 2, hi => simp at hi⟩
  rcases gnew_spec L (k + 10) hL (σ0 := σ2) ⟨Nat.le_refl _, fun _ _ => rfl⟩ 1 (by simp) hH2 with ⟨_, _, hno, _⟩ | ⟨g, σ3, _, e3, hG3, s3, hg⟩
  · exact absurd ok01 hno
  have e3' : evCall Try.prog env L (k + 13) 7 [.slice (some ⟨σ1.next, 0, none⟩) 2 1] σ2 = some (.tuple #[ptr g, .nilIface], σ3) := e3
  have s03 := (s1'.trans s2').trans s3
  have hO3 : Owns σ0 σ3 [[g]] := ((Owns.start σ0).idle (s1'.trans s2')).more s3 (fun q hq => by have := hG3.lt q hq; simp at hq; subst hq; omega)
  obtain ⟨d1, F1, σ4, e4, hD4, hO4, s4⟩ := new66 L (k + 12) hO3
  obtain ⟨nd1, m1, a1, F1', σ5, e5, hX5, k5⟩ := nnew_spec L (k + 2) hL (g := g) hD4 hO4
  have hG5 : Grp σ5 g [g] (gOf [0, 1]) := (hG3.idle s4).moved (fun q hq => k5 [g] (by simp) q hq) (hX5.lt (by simp))
  obtain ⟨FD, FI, hF5, hO5⟩ := hX5.split
  obtain ⟨d2, F2, σ6, e6, hD6, hO6, s6⟩ := new66 L (k + 12) hO5
  obtain ⟨nd2, m2, a2, F2', σ7, e7, hX7, k7⟩ := nnew_spec L (k + 2) hL (g := g) hD6 hO6
  obtain ⟨FD2, FI2, hF7, hO7⟩ := hX7.split
  have hlt5 : ∀ H ∈ nsets FD FI F1' nd1, ∀ q ∈ H, q < σ5.next := fun H hH => own_moved hO5 (by simp [hH])
  have hF57 : NdF σ7 nd1 g m1 d1 a1 F1' FD FI newN := hF5.moved (fun H hH q hq => (k7 H (by simp [hH]) q hq).trans (s6.2 q (hlt5 H hH q hq) (by simp))) (fun H hH => own_moved hO7 (by simp [hH]))
  have hT7 : Two σ0 σ7 nd1 nd2 g newN newN [[g]] := Two.swap ⟨m2, d2, a2, F2', FD2, FI2, m1, d1, a1, F1', FD, FI, hF7, hF57, hO7⟩
  have hG7 : Grp σ7 g [g] g01 := (hG5.idle s6).moved (fun q hq => k7 [g] (by simp) q hq) (hT7.lt (by simp))
  rw [e3', bnd_some, asT_t, toList2, uncons_c, asP_p, uncons_c, endl_n, e4, bnd_some, asP_p, e5, bnd_some, asT_t, toList2, uncons_c, asP_p, uncons_c, endl_n, e6, bnd_some, asP_p, e7, bnd_some, asT_t, toList2, uncons_c, asP_p, uncons_c, endl_n, eqNil_nil, not_true, br_false, eqNil_nil, not_true, br_false]
  exact cu_outer L k hL hs1 (by omega) hH L 0 σ7 newN (by omega) (by omega) hT7 newN_inv hG7 ⟨fun u _ => by
    rw [if_neg (by omega)]
    split <;> rfl, rfl, rfl⟩
end Go.AM.Bp
