/-
  Texts laid together: BpMb, BpZc, BpZd, BpZe, BpZf, BpZg, BpZh, BpZi, BpLs, BpDa, BpDb, BpDc, BpCa, BpZj.
-/
import Derived.Test.YtnihjgamfnabnaaBpRg
import Derived.Test.YtnihjgamfnabnaaAm13g
import Derived.Test.YtnihjgamfnabnaaEqBp
set_option linter.unusedVariables false
set_option linter.unusedSimpArgs false
set_option linter.unusedSectionVars false
/-
  THE BACKUP: New; what awake asks.
-/
namespace Go.AM.Bp
open Go.Proofs

/-- Of a node: its block. -/
def ndc (d m a0 a1 a2 a3 g : Nat) (mark : Int) : List Value := [ptr d, ptr m, ptr a0, ptr a1, ptr a2, ptr a3, ptr g, .int .i64 mark]

theorem bnew_img (L k : Nat) (hL : 100000 < L) {σ0 σ σ1 : St} {d g m : Nat} {s : IS} {R : List (List Nat)} (hw : s.work = none) (g1 : evCall Try.prog env L (k + 10) 26 [ptr d] σ = some (.tuple #[ptr m, .nilIface], σ1)) (hI1 : ImS σ0 σ1 m d s R) (k1 : ∀ H ∈ R, ∀ q ∈ H, σ1.get q = σ.get q) :
    ∃ nd a0 a1 a2 a3 σ', evCall Try.prog env L (k + 11) 8 [ptr d, ptr g] σ = some (.tuple #[ptr nd, .nilIface], σ') ∧ ImS σ0 σ' m d s ([a3] :: [a2] :: [a1] :: [a0] :: [nd] :: R) ∧ σ'.get nd = some (.own (ndc d m a0 a1 a2 a3 g 0) 82) ∧
      S.Stg σ' a0 [a0] 1 [] 0 0 ∧ S.Stg σ' a1 [a1] 1 [] 0 0 ∧ S.Stg σ' a2 [a2] 1 [] 0 0 ∧ S.Stg σ' a3 [a3] 1 [] 0 0 ∧ (∀ H ∈ R, ∀ q ∈ H, σ'.get q = σ.get q) := by
  obtain ⟨L', rfl⟩ : ∃ L', L = L' + 5 := ⟨L - 5, by omega⟩
  rw [f8_eq, g1, bnd_some, asT_t, toList2, uncons_c, asP_p, uncons_c, endl_n, eqNil_nil, not_true, br_false, need_true, need_true]
  have s2 : Same σ1 (σ1.new (.own [ptr d, ptr m, .pointer none, .pointer none, .pointer none, .pointer none, ptr g, .int .i64 0] 82)) [] := Same.new _ _ _
  have g2 : (σ1.new (.own [ptr d, ptr m, .pointer none, .pointer none, .pointer none, .pointer none, ptr g, .int .i64 0] 82)).get σ1.next = some (.own [ptr d, ptr m, .pointer none, .pointer none, .pointer none, .pointer none, ptr g, .int .i64 0] 82) := get_new_same _ _
  have n2 : (σ1.new (.own [ptr d, ptr m, .pointer none, .pointer none, .pointer none, .pointer none, ptr g, .int .i64 0] 82)).next = σ1.next + 1 := rfl
  have hI2 := hI1.push (X := [σ1.next]) hw s2 (by simp [n2])
  have e0 : ∀ K : Res → Res, K (lpAt Try.prog env (L' + 5) (k + 10) 8 [true, true, true, true, false, true] [] (L' + 5) [(8, .pointer (some ⟨σ1.next, 0, none⟩)), (24, .int .i64 0)] (σ1.new (.own [ptr d, ptr m, .pointer none, .pointer none, .pointer none, .pointer none, ptr g, .int .i64 0] 82))) = K (lpAt Try.prog env (L' + 5) (k + 10) 8 [true, true, true, true, false, true] [] (L' + 5) [(8, ptr σ1.next), (24, .int .i64 ((0 : Nat) : Int))] (σ1.new (.own [ptr d, ptr m, .pointer none, .pointer none, .pointer none, .pointer none, ptr g, .int .i64 0] 82))) := fun _ => rfl
  show ∃ nd a0 a1 a2 a3 σ', lpAt Try.prog env (L' + 5) (k + 10) 8 [true, true, true, true, false, true] [] (L' + 5) [(8, ptr σ1.next), (24, .int .i64 ((0 : Nat) : Int))] (σ1.new (.own [ptr d, ptr m, .pointer none, .pointer none, .pointer none, .pointer none, ptr g, .int .i64 0] 82)) = _ ∧ _
  clear e0
  generalize σ1.new (.own [ptr d, ptr m, .pointer none, .pointer none, .pointer none, .pointer none, ptr g, .int .i64 0] 82) = σ2 at s2 g2 n2 hI2
  obtain ⟨a0, σ3, e3, hI3, g3, hS0, t3, l3⟩ := stage_step (L' + 5) (k + 9) (L' + 4) (j := 0) (i := 0) hI2 hw rfl g2 rfl (by omega)
  obtain ⟨a1, σ4, e4, hI4, g4, hS1, t4, l4⟩ := stage_step (L' + 5) (k + 9) (L' + 3) (j := 1) (i := 1) hI3 hw rfl g3 rfl (by omega)
  obtain ⟨a2, σ5, e5, hI5, g5, hS2, t5, l5⟩ := stage_step (L' + 5) (k + 9) (L' + 2) (j := 2) (i := 2) hI4 hw rfl g4 rfl (by omega)
  obtain ⟨a3, σ6, e6, hI6, g6, hS3, t6, l6⟩ := stage_step (L' + 5) (k + 9) (L' + 1) (j := 3) (i := 3) hI5 hw rfl g5 rfl (by omega)
  have h3 := t3.1; have h4 := t4.1; have h5 := t5.1
  have e7 : lpAt Try.prog env (L' + 5) (k + 10) 8 [true, true, true, true, false, true] [] (L' + 1) [(8, ptr σ1.next), (24, .int .i64 ((3 + 1 : Nat) : Int))] σ6 = some (.tuple #[ptr σ1.next, .nilIface], σ6) := by
    rw [f8_l6, decide_eq_false (by decide), br_false]
  refine ⟨σ1.next, a0, a1, a2, a3, σ6, e3.trans (e4.trans (e5.trans (e6.trans e7))), hI6, g6, ((hS0.same t4 (by simp; omega)).same t5 (by simp; omega)).same t6 (by simp; omega), (hS1.same t5 (by simp; omega)).same t6 (by simp; omega), hS2.same t6 (by simp; omega), hS3, fun H hH q hq => ?_⟩
  have hq1 := hI1.lt hH q hq
  have ht : Same σ2 σ6 [σ1.next] := ((t3.trans t4).trans t5).trans t6
  rw [ht.2 q (by omega) (by simp; omega), s2.2 q hq1 (by simp)]
  exact k1 H hH q hq

theorem bnew_spec (L k : Nat) (hL : 100000 < L) {σ0 σ : St} {d g : Nat} {F : List Nat} {R : List (List Nat)} (hD : D.Disk σ d F fresh66 []) (hO : Owns σ0 σ (F :: R)) :
    ∃ nd m a0 a1 a2 a3 σ', evCall Try.prog env L (k + 11) 8 [ptr d, ptr g] σ = some (.tuple #[ptr nd, .nilIface], σ') ∧ ImS σ0 σ' m d ⟨fresh66, [], 0, 0, noBlocks, none⟩ ([a3] :: [a2] :: [a1] :: [a0] :: [nd] :: R) ∧ σ'.get nd = some (.own (ndc d m a0 a1 a2 a3 g 0) 82) ∧
      S.Stg σ' a0 [a0] 1 [] 0 0 ∧ S.Stg σ' a1 [a1] 1 [] 0 0 ∧ S.Stg σ' a2 [a2] 1 [] 0 0 ∧ S.Stg σ' a3 [a3] 1 [] 0 0 ∧ (∀ H ∈ R, ∀ q ∈ H, σ'.get q = σ.get q) := by
  obtain ⟨m, σ1, g1, hI1, k1, hinv⟩ := openGood hD hO (by unfold fresh66; simp) L k hL good66 (by omega)
  obtain ⟨nd, a0, a1, a2, a3, σ', h⟩ := bnew_img L k hL (g := g) rfl g1 hI1 k1
  exact ⟨nd, m, a0, a1, a2, a3, σ', h⟩

/-- Take: a marker, at the first stage. -/
theorem btake_spec (L k : Nat) {σ : St} {d m a0 a1 a2 a3 g nd : Nat} (hn : σ.get nd = some (.own (ndc d m a0 a1 a2 a3 g 0) 82)) (hlt : nd < σ.next) (hS : S.Stg σ a0 [a0] 1 [] 0 0) (hne : nd ≠ a0) :
    ∃ F' σ', evCall Try.prog env L (k + 4) 10 [ptr nd, .int .i64 0, .agg #[.int .i64 1, .int .i64 2, .int .i64 0, .string ⟨#[]⟩, .int .i64 4]] σ = some (.tuple #[.int .i64 1, .nilIface], σ') ∧ S.Stg σ' a0 F' 1 [⟨1, 2, 0, ⟨#[]⟩, 4⟩] 1 0 ∧ Turn σ σ' [a0] F' := by
  have e := f10_eq L (k + 3) σ nd 0 1 2 0 ⟨#[]⟩ 4
  have s1 : Same σ (σ.new (.own [.int .i64 1, .int .i64 2, .int .i64 0, .string ⟨#[]⟩, .int .i64 4] 40)) [] := Same.new _ _ _
  have g1 : (σ.new (.own [.int .i64 1, .int .i64 2, .int .i64 0, .string ⟨#[]⟩, .int .i64 4] 40)).get σ.next = some (.own [.int .i64 1, .int .i64 2, .int .i64 0, .string ⟨#[]⟩, .int .i64 4] 40) := get_new_same _ _
  generalize σ.new (.own [.int .i64 1, .int .i64 2, .int .i64 0, .string ⟨#[]⟩, .int .i64 4] 40) = σ1 at s1 g1 e
  have hn1 : σ1.get nd = _ := (s1.2 nd hlt (by simp)).trans hn
  have i0 : inRange 0 4 = true := rfl
  obtain ⟨v, σ2, g2, F', rfl, hS2, hT2⟩ := S.take_mark (hS.idle s1) L k (by omega) (by omega) (by simp) (Nat.le_refl _) 4 (by omega) (by omega)
  have g2' : evCall Try.prog env L (k + 3) 29 [.pointer (some ⟨a0, 0, none⟩), .agg #[.int .i64 1, .int .i64 2, .int .i64 0, .string ⟨#[]⟩, .int .i64 4]] σ1 = some (.int .i64 1, σ2) := g2
  have hn2 : σ2.get nd = _ := (hT2.same.2 nd (by have := s1.1; omega) (by simpa using hne)).trans hn1
  obtain ⟨σ3, g3, hS3, hT3⟩ := S.sflush_spec hS2 L (k + 2)
  rw [decide_eq_false (by decide), br_false, decide_eq_false (by decide), br_false, need_of i0, ld_at hn1 (2 + Int.toNat 0 * 1) (ptr a0) rfl, asP_p, lds_all (n := 5) g1 rfl, uncons_c, asI_i, uncons_c, asI_i, uncons_c, asI_i, uncons_c, asS_s, uncons_c, asI_i, endl_n, g2', bnd_some, asI_i, need_of i0, ld_at hn2 (2 + Int.toNat 0 * 1) (ptr a0) rfl, asP_p, g3, bnd_some, asT_t, toList0, endl_n] at e
  exact ⟨F', σ3, e, hS3, (Turn.before s1 hT2 (fun q hq => hS.lt q hq)).trans hT3⟩

/-- The marker can be applied. -/
theorem can_spec (L k : Nat) (hL : 100000 < L) {σ : St} {d m a0 a1 a2 a3 g nd : Nat} {F0 : List Nat} {t : Int} {bl : List ByteArray} {w : Option Addr} (hn : σ.get nd = some (.own (ndc d m a0 a1 a2 a3 g 0) 82)) (hlt : nd < σ.next) (hg : σ.get g = some (.own [.bool true, .bool false, .bool false, .bool false, .slice none 0 0] 71)) (hgl : g < σ.next)
    (hS : S.Stg σ a0 F0 1 [⟨1, 2, 0, ⟨#[]⟩, 4⟩] 1 0) (hI : Img σ m d t 0 bl w) : ∃ σ', evCall Try.prog env L (k + 4) 39 [ptr nd, .int .i64 4] σ = some (.bool true, σ') ∧ Same σ σ' [] := by
  obtain ⟨L', rfl⟩ : ∃ L', L = L' + 2 := ⟨L - 2, by omega⟩
  obtain ⟨ad, z, q, σ1, g1, hR, hq, s1⟩ := at_spec (L' + 2) (k + 1) (by omega) hg hgl 4
  have hn1 : σ1.get nd = _ := (s1.2 nd hlt (by simp)).trans hn
  obtain ⟨p, e, hat⟩ := hR.at (fun _ => rfl) (i := 0) (a := (0 : Int)) rfl
  subst e
  have i1 : inRange 0 ((1 : Nat) : Int) = true := rfl
  have i4 : inRange 0 4 = true := rfl
  rw [f39_eq, ld_at hn 6 (ptr g) rfl, asP_p, g1, bnd_some, asSl_s, f39_l3, decide_eq_true (by decide), br_true, need_of i1, adr_some, hat 0 (.int .i64 0) (0 + Int.toNat 0 * 1) (by omega) rfl rfl, asI_i, need_of i4, ld_at hn1 (0 + 2 + Int.toNat 0 * 1) (ptr a0) rfl, asP_p]
  rcases S.upto_spec (hS.idle s1) (L' + 2) k (by omega) (by simp) (by simp) 4 with ⟨j, r, ad2, z2, q2, σ2, g2, _, s2, _⟩ | ⟨σ2, _, _, hno⟩
  rotate_left
  · exact absurd ⟨rfl, rfl⟩ (hno ⟨1, 2, 0, ⟨#[]⟩, 4⟩ (by simp))
  have s12 := s1.trans s2
  have hn2 : σ2.get nd = _ := (s2.2 nd (by have := s1.1; omega) (by simp)).trans hn1
  have hm := mark_spec (hI.same s12 (by simp)) (L' + 2) (k + 2)
  rw [g2, bnd_some, asT_t, toList2, uncons_c, asSl_s, uncons_c, asB_b, endl_n, not_true, br_false, show IntKind.wrap .i64 ((0 : Int) + 1) = 1 from rfl, f39_l3, decide_eq_false (by decide), br_false, ld_at hn2 (0 + 1) (ptr m) rfl, asP_p, hm, bnd_some, asI_i, decide_eq_true (by decide), br_true]
  exact ⟨σ2, rfl, s12⟩

/-- A stage without markers adds nothing. -/
theorem ready_none (L k n : Nat) (hL : 10 < L) {σ : St} {nd a : Nat} {s3 : Int} {p0 p1 p2 p3 : Option Addr} {i : Int} {F : List Nat} (hi : 0 ≤ i ∧ i < 4) (hnth : ∀ K : Value → Res, nth [Value.pointer p0, Value.pointer p1, Value.pointer p2, Value.pointer p3] (Int.toNat i * 1) K = K (ptr a)) (hS : S.Stg σ a F 1 [] 0 0) :
    ∃ σ', lpAt Try.prog env L (k + 2) 16 [true, true, true, false, true] [] (n + 1) [(0, ptr nd), (3, .int .i64 s3), (13, .agg [.pointer p0, .pointer p1, .pointer p2, .pointer p3].toArray), (14, .int .i64 i)] σ =
      lpAt Try.prog env L (k + 2) 16 [true, true, true, false, true] [] n [(0, ptr nd), (3, .int .i64 s3), (13, .agg [.pointer p0, .pointer p1, .pointer p2, .pointer p3].toArray), (14, .int .i64 (i + 1))] σ' ∧ Same σ σ' [] := by
  obtain ⟨L', rfl⟩ : ∃ L', L = L' + 1 := ⟨L - 1, by omega⟩
  obtain ⟨v, σ1, g1, ad, z, q, rfl, hR, s1, _⟩ := S.marks_spec hS (L' + 1) k (by simp) (by simp) (Nat.le_refl _)
  have hw : IntKind.wrap .i64 (i + 1) = i + 1 := wrap_in _ (by omega) (by omega)
  rw [f16_l5, decide_eq_true hi.2, br_true, need_of (by simp [inRange]; omega), hnth, asP_p, g1, bnd_some, asSl_s, f16_l8, decide_eq_false (by decide), br_false, hw]
  exact ⟨σ1, rfl, s1⟩

theorem awake_spec (L k : Nat) (hL : 100000 < L) (σ : St) : ∃ σ', evCall Try.prog env L (k + 12) 6 [] σ = some (.bool true, σ') ∧ Same σ σ' [] := by
  obtain ⟨L', rfl⟩ : ∃ L', L = L' + 6 := ⟨L - 6, by omega⟩
  have s1 : Same σ (σ.new (.own [.int .i64 0] 3)) [] := Same.new _ _ _
  have g1 : (σ.new (.own [.int .i64 0] 3)).get σ.next = some (.own [.int .i64 0] 3) := get_new_same _ _
  have n1 : (σ.new (.own [.int .i64 0] 3)).next = σ.next + 1 := rfl
  rw [f6_eq]
  generalize σ.new (.own [.int .i64 0] 3) = σ1 at s1 g1 n1
  obtain ⟨g, σ2, e2, hg2, s2, hgl, hgl2⟩ := zero_spec (L' + 6) (k + 9) (by omega) g1 (by omega)
  have hO2 : Owns σ σ2 [[g]] := ((Owns.start σ).idle s1).more s2 (by simp; omega)
  obtain ⟨d, F, σ3, e3, hD3, hO3, s3⟩ := new66 (L' + 6) (k + 10) hO2
  obtain ⟨nd, m, a0, a1, a2, a3, σ4, e4, hI4, hn4, hS0, hS1, hS2, hS3, k4⟩ := bnew_spec (L' + 6) k hL (g := g) hD3 hO3
  have hg4 : σ4.get g = _ := (k4 [g] (by simp) g (by simp)).trans ((s3.2 g hgl2 (by simp)).trans hg2)
  obtain ⟨FF, GG, ww, _, hImg, hO4, _, _⟩ := hI4.ex
  have hdis : ∀ i j : Nat, ∀ x y : Nat, i ≠ j → ([[a3], [a2], [a1], [a0], [nd], [g]] : List (List Nat))[i]? = some [x] → ([[a3], [a2], [a1], [a0], [nd], [g]] : List (List Nat))[j]? = some [y] → x ≠ y := fun i j x y hij hi hj h => by
    have := hO4.off (i + 2) (j + 2) (by omega) (by simpa using hi) (by simpa using hj) x (by simp)
    simp at this
    exact this h
  obtain ⟨F5, σ5, e5, hS5, hT5⟩ := btake_spec (L' + 6) (k + 7) hn4 (hI4.lt (H := [nd]) (by simp) nd (by simp)) hS0 (hdis 4 3 nd a0 (by omega) rfl rfl)
  have hI5 := hI4.turned 3 rfl hT5
  have hx5 : ∀ x, x < σ4.next → x ≠ a0 → σ5.get x = σ4.get x := fun x hx hne => hT5.same.2 x hx (by simpa using hne)
  have hndl := hI4.lt (H := [nd]) (by simp) nd (by simp)
  have hgl4 := hI4.lt (H := [g]) (by simp) g (by simp)
  have hn5 : σ5.get nd = _ := (hx5 nd hndl (hdis 4 3 nd a0 (by omega) rfl rfl)).trans hn4
  have hg5 : σ5.get g = _ := (hx5 g hgl4 (hdis 5 3 g a0 (by omega) rfl rfl)).trans hg4
  have n5 := hT5.same.1
  have hS15 := hS1.same hT5.same (by simp; exact hdis 2 3 a1 a0 (by omega) rfl rfl)
  have hS25 := hS2.same hT5.same (by simp; exact hdis 1 3 a2 a0 (by omega) rfl rfl)
  have hS35 := hS3.same hT5.same (by simp; exact hdis 0 3 a3 a0 (by omega) rfl rfl)
  obtain ⟨FF5, GG5, ww5, _, hImg5, _⟩ := hI5.ex
  -- Ready
  obtain ⟨v6, σ6, e6, ad6, z6, q6, rfl, hR6, s6, _⟩ := S.marks_spec hS5 (L' + 6) (k + 8) (by simp) (by simp) (Nat.le_refl _)
  obtain ⟨σ7, e7, s7⟩ := can_spec (L' + 6) (k + 6) hL ((s6.2 nd (by omega) (by simp)).trans hn5) (by have := s6.1; omega) ((s6.2 g (by omega) (by simp)).trans hg5) (by have := s6.1; omega) (hS5.idle s6) (hImg5.same s6 (by simp))
  have s57 := s6.trans s7
  obtain ⟨σ8, e8, s8⟩ := ready_none (L' + 6) (k + 8) (L' + 4) (by omega) (nd := nd) (s3 := 4) (p0 := some ⟨a0, 0, none⟩) (p1 := some ⟨a1, 0, none⟩) (p2 := some ⟨a2, 0, none⟩) (p3 := some ⟨a3, 0, none⟩) (i := 1) (by omega) (fun _ => rfl) (hS15.idle s57)
  obtain ⟨σ9, e9, s9⟩ := ready_none (L' + 6) (k + 8) (L' + 3) (by omega) (nd := nd) (s3 := 4) (p0 := some ⟨a0, 0, none⟩) (p1 := some ⟨a1, 0, none⟩) (p2 := some ⟨a2, 0, none⟩) (p3 := some ⟨a3, 0, none⟩) (i := 1 + 1) (by omega) (fun _ => rfl) ((hS25.idle s57).idle s8)
  obtain ⟨σ10, e10, s10⟩ := ready_none (L' + 6) (k + 8) (L' + 2) (by omega) (nd := nd) (s3 := 4) (p0 := some ⟨a0, 0, none⟩) (p1 := some ⟨a1, 0, none⟩) (p2 := some ⟨a2, 0, none⟩) (p3 := some ⟨a3, 0, none⟩) (i := 1 + 1 + 1) (by omega) (fun _ => rfl) (((hS35.idle s57).idle s8).idle s9)
  obtain ⟨p, ep, hat⟩ := hR6.at (fun _ => rfl) (i := 0) (a := (4 : Int)) rfl
  have hRdy : evCall Try.prog env (L' + 6) (k + 11) 16 [ptr nd] σ5 = some (.int .i64 4, σ10) := by
    have i1 : inRange 0 ((1 : Nat) : Int) = true := rfl
    have i4 : inRange 0 4 = true := rfl
    have hat7 : ∀ K : Value → Res, σ6.ld p (0 + Int.toNat 0 * 1) K = K (.int .i64 4) := fun K => hat 0 (.int .i64 4) _ (by omega) rfl rfl K
    have e6' : evCall Try.prog env (L' + 6) (k + 10) 38 [.pointer (some ⟨a0, 0, none⟩)] σ5 = some (.slice (some ⟨p, 0, none⟩) 1 z6, σ6) := by rw [← ep]; exact e6
    rw [f16_eq, lds_own (n := 4) _ hn5 (by simp [ndc])]
    show (uncons [ptr a0, ptr a1, ptr a2, ptr a3] _) = _
    rw [uncons_c, asP_p, uncons_c, asP_p, uncons_c, asP_p, uncons_c, asP_p, endl_n]
    have l0 := f16_l5 (L' + 6) (k + 10) (L' + 5) σ5 nd 0 0 (some ⟨a0, 0, none⟩) (some ⟨a1, 0, none⟩) (some ⟨a2, 0, none⟩) (some ⟨a3, 0, none⟩) 0
    rw [decide_eq_true (by decide), br_true, need_of i4, show ∀ K : Value → Res, nth [Value.pointer (some ⟨a0, 0, none⟩), Value.pointer (some ⟨a1, 0, none⟩), Value.pointer (some ⟨a2, 0, none⟩), Value.pointer (some ⟨a3, 0, none⟩)] (Int.toNat 0 * 1) K = K (ptr a0) from fun _ => rfl, asP_p, e6', bnd_some, asSl_s] at l0
    have l1 := f16_l8 (L' + 6) (k + 10) (L' + 5) (L' + 5) σ6 nd 0 0 (some ⟨a0, 0, none⟩) (some ⟨a1, 0, none⟩) (some ⟨a2, 0, none⟩) (some ⟨a3, 0, none⟩) 0 (some ⟨p, 0, none⟩) 1 z6 1 0
    rw [decide_eq_true (by decide), br_true, need_of i1, adr_some, hat7, asI_i, decide_eq_true (by decide), br_true, e7, bnd_some, asB_b, br_true, show IntKind.wrap .i64 ((0 : Int) + 1) = 1 from rfl] at l1
    have l2 := f16_l8 (L' + 6) (k + 10) (L' + 5) (L' + 4) σ7 nd 0 4 (some ⟨a0, 0, none⟩) (some ⟨a1, 0, none⟩) (some ⟨a2, 0, none⟩) (some ⟨a3, 0, none⟩) 0 (some ⟨p, 0, none⟩) 1 z6 1 1
    rw [decide_eq_false (by decide), br_false, show IntKind.wrap .i64 ((0 : Int) + 1) = 1 from rfl] at l2
    have l3 := f16_l5 (L' + 6) (k + 10) (L' + 1) σ10 nd 0 4 (some ⟨a0, 0, none⟩) (some ⟨a1, 0, none⟩) (some ⟨a2, 0, none⟩) (some ⟨a3, 0, none⟩) (1 + 1 + 1 + 1)
    rw [decide_eq_false (by decide), br_false] at l3
    exact l0.trans (l1.trans (l2.trans (e8.trans (e9.trans (e10.trans l3)))))
  have e5' : evCall Try.prog env (L' + 6) (k + 11) 10 [ptr nd, .int .i64 0, .agg #[.int .i64 1, .int .i64 2, .int .i64 0, .string ⟨#[]⟩, .int .i64 4]] σ4 = _ := e5
  rw [e2, bnd_some, asT_t, toList2, uncons_c, asP_p, uncons_c, endl_n, e3, bnd_some, asP_p, e4, bnd_some, asT_t, toList2, uncons_c, asP_p, uncons_c, endl_n, eqNil_nil, not_true, br_false, show Option.isNone (some (⟨nd, 0, none⟩ : Addr)) = false from rfl, br_false, e5', bnd_some, asT_t, toList2, uncons_c, asI_i, uncons_c, endl_n, show ((1 : Int) == 1) = true from rfl, br_true, eqNil_nil, br_true, hRdy, bnd_some, asI_i, show ((4 : Int) == 4) = true from rfl]
  refine ⟨σ10, rfl, ?_⟩
  obtain ⟨_, _, _, _, _, hO5, _⟩ := hI5.ex
  have hk5 := hO5.kept
  have s510 := ((s57.trans s8).trans s9).trans s10
  have n510 := s510.1
  exact ⟨by have := hk5.1; omega, fun x hx _ => by rw [s510.2 x (by have := hk5.1; omega) (by simp)]; exact hk5.2 x hx⟩
end Go.AM.Bp

/-
  THE NODE, in the store; Take, can, Ready, Applied, Image.
-/
namespace Go.AM.Bp
open Go.Proofs

/-- The blocks of some things are as they were. -/
def Kp (σ σ' : St) (R : List (List Nat)) : Prop := ∀ H ∈ R, ∀ q ∈ H, σ'.get q = σ.get q
theorem Kp.refl (σ : St) (R : List (List Nat)) : Kp σ σ R := fun _ _ _ _ => rfl
theorem Kp.trans {a b c : St} {R : List (List Nat)} (h : Kp a b R) (k : Kp b c R) : Kp a c R := fun H hH q hq => (k H hH q hq).trans (h H hH q hq)

theorem ImS.owns {σ0 σ : St} {m d : Nat} {s : IS} {R : List (List Nat)} (h : ImS σ0 σ m d s R) : ∃ F G, Owns σ0 σ (F :: G :: R) := by
  obtain ⟨F, G, w, _, _, h3, _⟩ := h.ex
  exact ⟨F, G, h3⟩
theorem ImS.dis {σ0 σ : St} {m d : Nat} {s : IS} {R : List (List Nat)} (h : ImS σ0 σ m d s R) (i j : Nat) {A B : List Nat} (hij : i ≠ j) (hi : R[i]? = some A) (hj : R[j]? = some B) : ∀ q ∈ A, q ∉ B := by
  obtain ⟨F, G, hO⟩ := h.owns
  exact hO.off (i + 2) (j + 2) (by omega) (by simpa using hi) (by simpa using hj)
/-- One more thing, whatever is being laid. -/
theorem ImS.push2 {σ0 σ σ' : St} {m d : Nat} {s : IS} {R : List (List Nat)} {X : List Nat} (h : ImS σ0 σ m d s R) (hs : Same σ σ' []) (hX : ∀ q ∈ X, σ.next ≤ q ∧ q < σ'.next) : ImS σ0 σ' m d s (X :: R) := by
  have hi := h.idle hs
  obtain ⟨F, G, w, a1, a2, a3, a4, a5⟩ := h.ex
  refine ⟨F, G, w, a1.idle hs, a2.same hs (by simp), Owns.third (a3.more hs hX), a4, ?_⟩
  rcases a5 with a5 | ⟨b, mk', bl', done, e1, e2, e3, e4, e5⟩
  · exact .inl a5
  · exact .inr ⟨b, mk', bl', done, e1, e2, e3, e4, by rw [hs.2 b (a3.lt 1 rfl b e3) (by simp)]; exact e5.ex, e5.len⟩
theorem S.Stg.moved {σ σ' : St} {a : Nat} {F : List Nat} {first mark : Int} {rs : List S.Rec} {fast : Nat} (h : S.Stg σ a F first rs fast mark) (hs : ∀ q ∈ F, σ'.get q = σ.get q) (hl : ∀ q ∈ F, q < σ'.next) : S.Stg σ' a F first rs fast mark := by
  obtain ⟨qs, ad, z, rfl, h1, h2, h3⟩ := h.ex
  exact ⟨⟨qs, ad, z, rfl, h1, by rw [hs a (by simp)]; exact h2, h3.moved (fun x hx => hs x (by simp [hx])) (fun x hx => hl x (by simp [hx]))⟩, hl⟩

structure NdX (σ0 σ : St) (nd g m d : Nat) (a : Nat → Nat) (F : Nat → List Nat) (N : NS) (R : List (List Nat)) : Prop where
  im : ImS σ0 σ m d N.im (F 0 :: F 1 :: F 2 :: F 3 :: [nd] :: R)
  nd : σ.get nd = some (.own (ndc d m (a 0) (a 1) (a 2) (a 3) g N.mark) 82)
  st : ∀ v, v < 4 → S.Stg σ (a v) (F v) (N.st v).first (N.st v).rs (N.st v).rs.length (N.st v).mark
/-- A backup in the store, beside other things. -/
def Nd (σ0 σ : St) (nd g : Nat) (N : NS) (R : List (List Nat)) : Prop := ∃ m d a F, NdX σ0 σ nd g m d a F N R

theorem fl_get {α : Type} (F : Nat → α) (T : List α) (v : Nat) (h : v < 4) : (F 0 :: F 1 :: F 2 :: F 3 :: T)[v]? = some (F v) := by
  rcases (by omega : v = 0 ∨ v = 1 ∨ v = 2 ∨ v = 3) with rfl | rfl | rfl | rfl <;> rfl
theorem fl_set {α : Type} (F : Nat → α) (T : List α) (v : Nat) (h : v < 4) (X : α) : (F 0 :: F 1 :: F 2 :: F 3 :: T).set v X = upd F v X 0 :: upd F v X 1 :: upd F v X 2 :: upd F v X 3 :: T := by
  rcases (by omega : v = 0 ∨ v = 1 ∨ v = 2 ∨ v = 3) with rfl | rfl | rfl | rfl <;> rfl
theorem ndc_get (d m g : Nat) (a : Nat → Nat) (mark : Int) (v : Nat) (h : v < 4) : (ndc d m (a 0) (a 1) (a 2) (a 3) g mark)[2 + v]? = some (ptr (a v)) := by
  rcases (by omega : v = 0 ∨ v = 1 ∨ v = 2 ∨ v = 3) with rfl | rfl | rfl | rfl <;> rfl

section
variable {σ0 σ : St} {nd g m d : Nat} {a : Nat → Nat} {F : Nat → List Nat} {N : NS} {R : List (List Nat)}
theorem NdX.lt (h : NdX σ0 σ nd g m d a F N R) {H : List Nat} (hH : H ∈ R) : ∀ q ∈ H, q < σ.next := h.im.lt (by simp [hH])
theorem NdX.ndlt (h : NdX σ0 σ nd g m d a F N R) : nd < σ.next := h.im.lt (H := [nd]) (by simp) nd (by simp)
theorem NdX.idle (h : NdX σ0 σ nd g m d a F N R) {σ' : St} (hs : Same σ σ' []) : NdX σ0 σ' nd g m d a F N R :=
  ⟨h.im.idle hs, (hs.2 nd h.ndlt (by simp)).trans h.nd, fun v hv => (h.st v hv).idle hs⟩
theorem NdX.kept (h : NdX σ0 σ nd g m d a F N R) {σ' : St} (hs : Same σ σ' []) : Kp σ σ' R := fun H hH q hq => hs.2 q (h.lt hH q hq) (by simp)
theorem NdX.stg (h : NdX σ0 σ nd g m d a F N R) (v : Nat) (hv : v < 4) : ∀ K : Value → Res, σ.ld nd (2 + v) K = K (ptr (a v)) := fun K => ld_at h.nd (2 + v) _ (ndc_get d m g a N.mark v hv) K
/-- A stage turns. -/
theorem NdX.turn (h : NdX σ0 σ nd g m d a F N R) (v : Nat) (hv : v < 4) {σ' : St} {F' : List Nat} (hT : Turn σ σ' (F v) F') {s : SS} (hS : S.Stg σ' (a v) F' s.first s.rs s.rs.length s.mark) :
    NdX σ0 σ' nd g m d a (upd F v F') { N with st := upd N.st v s } R ∧ Kp σ σ' R := by
  have h1 := h.im.turned v (fl_get F ([nd] :: R) v hv) hT
  rw [fl_set F _ v hv] at h1
  have hne : nd ∉ F v := h.im.dis 4 v (by omega) rfl (fl_get F _ v hv) nd (by simp)
  refine ⟨⟨h1, (hT.same.2 nd h.ndlt hne).trans h.nd, fun u hu => ?_⟩, fun H hH q hq => ?_⟩
  · by_cases e : u = v
    · subst e; dsimp only; rw [upd_same, upd_same]; exact hS
    · dsimp only; rw [upd_ne _ _ e, upd_ne _ _ e]
      exact (h.st u hu).same hT.same (h.im.dis u v e (fl_get F _ u hu) (fl_get F _ v hv))
  · obtain ⟨i, hi⟩ := List.mem_iff_getElem?.1 hH
    exact hT.same.2 q (h.lt hH q hq) (h.im.dis (i + 5) v (by omega) (by simpa using hi) (fl_get F _ v hv) q hq)
/-- Another thing turns. -/
theorem NdX.turned (h : NdX σ0 σ nd g m d a F N R) (j : Nat) {A B : List Nat} (hj : R[j]? = some A) {σ' : St} (hT : Turn σ σ' A B) : NdX σ0 σ' nd g m d a F N (R.set j B) := by
  have hj5 : (F 0 :: F 1 :: F 2 :: F 3 :: [nd] :: R)[j + 5]? = some A := hj
  refine ⟨h.im.turned (j + 5) hj5 hT, (hT.same.2 nd h.ndlt (h.im.dis 4 (j + 5) (by omega) rfl hj5 nd (by simp))).trans h.nd, fun v hv => (h.st v hv).same hT.same (h.im.dis v (j + 5) (by omega) (fl_get F _ v hv) hj5)⟩
/-- The image turns, and nothing else. -/
theorem NdX.image (h : NdX σ0 σ nd g m d a F N R) {σ' : St} {s : IS} (hI : ImS σ0 σ' m d s (F 0 :: F 1 :: F 2 :: F 3 :: [nd] :: R)) (hk : Kp σ σ' (F 0 :: F 1 :: F 2 :: F 3 :: [nd] :: R)) :
    NdX σ0 σ' nd g m d a F { N with im := s } R ∧ Kp σ σ' R := by
  have hm : ∀ v, v < 4 → F v ∈ F 0 :: F 1 :: F 2 :: F 3 :: [nd] :: R := fun v hv => List.mem_of_getElem? (fl_get F _ v hv)
  refine ⟨⟨hI, (hk [nd] (by simp) nd (by simp)).trans h.nd, fun v hv => (h.st v hv).moved (hk _ (hm v hv)) (hI.lt (hm v hv))⟩, fun H hH => hk H (by simp [hH])⟩
theorem four_one (T : List (List Nat)) (nd : Nat) : ∀ (A B C D : List Nat), (A :: B :: C :: D :: [nd] :: T).set 4 [nd] = A :: B :: C :: D :: [nd] :: T := fun _ _ _ _ => rfl
/-- The node's own cells are written. -/
theorem NdX.own (h : NdX σ0 σ nd g m d a F N R) (mark : Int) :
    ∃ σ', (∀ K : St → Res, σ.put nd 7 [.int .i64 mark] K = K σ') ∧ NdX σ0 σ' nd g m d a F { N with mark := mark } R ∧ Kp σ σ' R := by
  refine ⟨_, fun K => put_int h.nd 7 .i64 mark (by simp [ndc]) K, ?_⟩
  have s1 := Same.set σ nd (.own (List.set (ndc d m (a 0) (a 1) (a 2) (a 3) g N.mark) 7 (.int .i64 mark)) 82)
  have g1 : (σ.set nd (.own (List.set (ndc d m (a 0) (a 1) (a 2) (a 3) g N.mark) 7 (.int .i64 mark)) 82)).get nd = some (.own (ndc d m (a 0) (a 1) (a 2) (a 3) g mark) 82) := get_set_same _ _ _
  have n1 : (σ.set nd (.own (List.set (ndc d m (a 0) (a 1) (a 2) (a 3) g N.mark) 7 (.int .i64 mark)) 82)).next = σ.next := rfl
  generalize σ.set nd (.own (List.set (ndc d m (a 0) (a 1) (a 2) (a 3) g N.mark) 7 (.int .i64 mark)) 82) = σ1 at s1 g1 n1
  have hlt := h.ndlt
  have hT : Turn σ σ1 [nd] [nd] := ⟨s1, fun q hq => ⟨.inl hq, by simp at hq; omega⟩⟩
  have h1 := h.im.turned 4 rfl hT
  rw [four_one] at h1
  refine ⟨⟨h1, g1, fun v hv => (h.st v hv).same s1 (fun q hq => h.im.dis v 4 (by omega) (fl_get F _ v hv) rfl q hq)⟩, fun H hH q hq => ?_⟩
  obtain ⟨i, hi⟩ := List.mem_iff_getElem?.1 hH
  exact s1.2 q (h.lt hH q hq) (h.im.dis (i + 5) 4 (by omega) (by simpa using hi) rfl q hq)
theorem NdX.grp (h : NdX σ0 σ nd g m d a F N R) {G : List Nat} {gs : GS} (hG : Grp σ g G gs) (hGR : G ∈ R) {σ' : St} (hk : Kp σ σ' R) (h' : ∃ m' a' F' N', NdX σ0 σ' nd g m' d a' F' N' R) : Grp σ' g G gs := by
  obtain ⟨_, _, _, _, h'⟩ := h'
  exact hG.moved (hk G hGR) (h'.lt hGR)
end

/-! Errors. -/
/-- A new error, that nothing else knows. -/
def Fr (σ σ' : St) (v : Value) (e at_ : Int) : Prop := ∃ q, v = .iface 126 (ptr q) ∧ E.Err σ' v e at_ ∧ σ.next ≤ q ∧ q < σ'.next
theorem Fr.err {σ σ' : St} {v : Value} {e a : Int} (h : Fr σ σ' v e a) : E.Err σ' v e a := h.choose_spec.2.1
theorem Fr.before {σ σ1 σ' : St} {v : Value} {e a : Int} (h : Fr σ1 σ' v e a) (hs : σ.next ≤ σ1.next) : Fr σ σ' v e a := by
  obtain ⟨q, h1, h2, h3, h4⟩ := h
  exact ⟨q, h1, h2, by omega, h4⟩
theorem E.Err.moved {σ σ' : St} {q : Nat} {e a : Int} (h : E.Err σ (.iface 126 (ptr q)) e a) (hs : σ'.get q = σ.get q) (hl : q < σ'.next) : E.Err σ' (.iface 126 (ptr q)) e a := by
  obtain ⟨q', e1, g, _⟩ := h
  cases e1
  exact ⟨q, rfl, hs.trans g, hl⟩
theorem wrong46 (L k : Nat) (σ : St) (at_ e : Int) (he : e ≠ 0) : ∃ v σ', evCall Try.prog env L (k + 2) 27 [.int .i64 at_, .iface 74 (.int .i64 e)] σ = some (v, σ') ∧ Fr σ σ' v e at_ ∧ Same σ σ' [] := by
  rw [f27_eq, f45_eq, eqNil_iface, br_false]
  have hb : ∀ K : Res, eqErr (.iface 74 (.int .i64 e)) 74 .i64 0 (fun v2 => br v2 (some (Value.nilIface, σ)) K) = K := by
    intro K
    have : eqErr (.iface 74 (.int .i64 e)) 74 .i64 0 (fun v2 => br v2 (some (Value.nilIface, σ)) K) = br (e == 0) (some (Value.nilIface, σ)) K := by simp [eqErr]
    rw [this, show (e == 0) = false by simpa using he, br_false]
  rw [hb, need_true, need_of (show oneCell (Value.iface 74 (Value.int .i64 e)) = true from rfl), need_true, bnd_some]
  exact ⟨_, _, rfl, ⟨σ.next, rfl, ⟨σ.next, rfl, get_new_same _ _, by simp⟩, Nat.le_refl _, by simp⟩, Same.new _ _ _⟩
theorem wrong46_nil (L k : Nat) (σ : St) (at_ : Int) : evCall Try.prog env L (k + 2) 27 [.int .i64 at_, .nilIface] σ = some (.nilIface, σ) := by
  rw [f27_eq, f45_eq, eqNil_nil, br_true, bnd_some]
  rfl

section
variable {σ0 σ : St} {nd g m d : Nat} {a : Nat → Nat} {F : Nat → List Nat} {N : NS} {R : List (List Nat)} {c : Nat}

/-! Take. -/
theorem ntake_spec (L k : Nat) (h : NdX σ0 σ nd g m d a F N R) (hI : N.Inv c) (hc : c ≤ 899) (v : Nat) (hv : v < 4) (r : S.Rec) :
    ∃ F' σ', evCall Try.prog env L (k + 4) 10 [ptr nd, .int .i64 v, r.agg] σ = some (.tuple #[.int .i64 ((N.take v r).st v).last, .nilIface], σ') ∧ NdX σ0 σ' nd g m d a F' (N.take v r) R ∧ Kp σ σ' R := by
  have hv4 := (hI.st v hv)
  have hlen := hv4.len
  have hf1 := hv4.f1
  have e := f10_eq L (k + 3) σ nd (v : Int) r.seq r.kind r.block r.data r.number
  have s1 : Same σ (σ.new (.own [.int .i64 r.seq, .int .i64 r.kind, .int .i64 r.block, .string r.data, .int .i64 r.number] 40)) [] := Same.new _ _ _
  have g1 : (σ.new (.own [.int .i64 r.seq, .int .i64 r.kind, .int .i64 r.block, .string r.data, .int .i64 r.number] 40)).get σ.next = some (.own [.int .i64 r.seq, .int .i64 r.kind, .int .i64 r.block, .string r.data, .int .i64 r.number] 40) := get_new_same _ _
  generalize σ.new (.own [.int .i64 r.seq, .int .i64 r.kind, .int .i64 r.block, .string r.data, .int .i64 r.number] 40) = σ1 at s1 g1 e
  have h1 := h.idle s1
  have iv : inRange (v : Int) 4 = true := by simp [inRange]; omega
  obtain ⟨v2, σ2, g2, rs', F', rfl, hS2, hT2, hor⟩ := S.take_gen (h1.st v hv) L k hf1 (by omega) (by omega) (Nat.le_refl _) r (fun b => b = decide (S.Can r)) (fun σ => by
    obtain ⟨v, σ', g1, e, e2⟩ := S.right_is L k σ r
    exact ⟨v, σ', g1, ⟨_, e, rfl⟩, e2⟩)
  have htk : ((N.take v r).st v).rs = rs' ∧ ((N.take v r).st v).first = (N.st v).first ∧ ((N.take v r).st v).mark = (N.st v).mark := by
    unfold NS.take
    dsimp only
    rw [upd_same]
    unfold SS.take
    rcases hor with ⟨rfl, h1 | h1⟩ | ⟨h1, h2, rfl⟩
    · rw [if_neg (fun h => h1 h.1)]; exact ⟨rfl, rfl, rfl⟩
    · rw [if_neg (fun h => by rw [decide_eq_true h.2] at h1; cases h1)]; exact ⟨rfl, rfl, rfl⟩
    · rw [if_pos ⟨h1, by simpa using h2.symm⟩]; exact ⟨rfl, rfl, rfl⟩
  have hnd2 : nd ∉ F v := h1.im.dis 4 v (by omega) rfl (fl_get F _ v hv) nd (by simp)
  have hn2 : σ2.get nd = _ := (hT2.same.2 nd h1.ndlt hnd2).trans h1.nd
  obtain ⟨σ3, g3, hS3, hT3⟩ := S.sflush_spec hS2 L (k + 2)
  have ho : 2 + Int.toNat (v : Int) * 1 = 2 + v := by simp
  rw [decide_eq_false (by omega), br_false, decide_eq_false (by omega), br_false, need_of iv, ho, h1.stg v hv, asP_p, lds_all (n := 5) g1 rfl, uncons_c, asI_i, uncons_c, asI_i, uncons_c, asI_i, uncons_c, asS_s, uncons_c, asI_i, endl_n] at e
  have g2' : evCall Try.prog env L (k + 3) 29 [.pointer (some ⟨a v, 0, none⟩), .agg #[.int .i64 r.seq, .int .i64 r.kind, .int .i64 r.block, .string r.data, .int .i64 r.number]] σ1 = _ := g2
  rw [g2', bnd_some, asI_i, need_of iv, ld_at hn2 (2 + v) _ (ndc_get d m g a N.mark v hv), asP_p, g3, bnd_some, asT_t, toList0, endl_n] at e
  obtain ⟨h3, k3⟩ := h1.turn v hv (hT2.trans hT3) (s := (N.take v r).st v) (by rw [htk.1, htk.2.1, htk.2.2]; exact hS3)
  refine ⟨upd F v F', σ3, ?_, ?_, (h.kept s1).trans k3⟩
  · unfold SS.last
    rw [htk.1, htk.2.1]
    exact e
  · have : ({ N with st := upd N.st v ((N.take v r).st v) } : NS) = N.take v r := by
      unfold NS.take; dsimp only; rw [upd_same]
    rw [this] at h3
    exact h3
theorem ntake_out (L k : Nat) (σ : St) (nd : Nat) (v : Int) (hv : v < 0 ∨ 4 ≤ v) (r : S.Rec) : ∃ e σ', evCall Try.prog env L (k + 3) 10 [ptr nd, .int .i64 v, r.agg] σ = some (.tuple #[.int .i64 0, e], σ') ∧ E.Err σ' e 5 v ∧ Same σ σ' [] := by
  have e := f10_eq L (k + 2) σ nd v r.seq r.kind r.block r.data r.number
  have s1 : Same σ (σ.new (.own [.int .i64 r.seq, .int .i64 r.kind, .int .i64 r.block, .string r.data, .int .i64 r.number] 40)) [] := Same.new _ _ _
  generalize σ.new (.own [.int .i64 r.seq, .int .i64 r.kind, .int .i64 r.block, .string r.data, .int .i64 r.number] 40) = σ1 at s1 e
  obtain ⟨w, σ2, g2, hE, s2⟩ := wrong46 L k σ1 v 5 (by decide)
  refine ⟨w, σ2, ?_, hE.err, s1.trans s2⟩
  rcases hv with hv | hv
  · rw [decide_eq_true hv, br_true, g2, bnd_some] at e
    exact e
  · rw [decide_eq_false (by omega), br_false, decide_eq_true hv, br_true, g2, bnd_some] at e
    exact e

/-! What can be applied. -/
theorem ncan_loop (L k : Nat) (hL : 100000 < L) (h : NdX σ0 σ nd g m d a F N R) (hI : N.Inv c) (hc : c ≤ 899) (mk : Int) {l : List Nat} (hl : ∀ v ∈ l, v < 4) (hl4 : l.length ≤ 4) {ad : Option Addr} {z : Nat} {q : List Nat} {σb : St} (hR : Row c1 1 3 σb ad z q (ints l)) : ∀ (n i : Nat) (σ' : St), i ≤ l.length → l.length - i < n → Same σ σ' [] → Same σb σ' [] →
    ∃ σ2, lpAt Try.prog env L (k + 3) 39 [true, true, false, true] [] n [(0, ptr nd), (1, .int .i64 mk), (5, .slice ad l.length z), (16, .slice ad l.length z), (17, .int .i64 l.length), (18, .int .i64 i)] σ' = some (.bool ((l.drop i).all (fun v => (upTo (N.st v).rs mk).isSome) && (decide ((N.im.km : Int) < mk) && !l.isEmpty)), σ2) ∧ Same σ' σ2 []
  | 0, i, σ', _, hn, _, _ => by omega
  | n + 1, i, σ', hi, hn, hs, hb => by
    rw [f39_l3]
    have h' := h.idle hs
    by_cases hie : i = l.length
    · subst hie
      rw [decide_eq_false (by omega), br_false, ld_at h'.nd (0 + 1) (ptr m) rfl, asP_p, markS h'.im L (k + 2), bnd_some, asI_i, List.drop_length]
      refine ⟨σ', ?_, Same.refl _ _⟩
      by_cases hm : mk > (N.im.km : Int)
      · rw [decide_eq_true hm, br_true]
        have : decide (((l.length : Nat) : Int) > 0) = !l.isEmpty := by cases l <;> simp <;> omega
        rw [this]; simp
      · rw [decide_eq_false hm, br_false]; simp
    have hget : l[i]? = some l[i] := List.getElem?_eq_getElem (by omega)
    have hlv := hl l[i] (List.getElem_mem _)
    have hdr : l.drop i = l[i] :: l.drop (i + 1) := List.drop_eq_getElem_cons (by omega)
    generalize l[i] = v at *
    obtain ⟨p, e, hat⟩ := (hR.same hb (by simp)).at (fun _ => rfl) (i := i) (a := (v : Int)) (by unfold ints; rw [List.getElem?_map, hget]; rfl)
    subst e
    have hw : IntKind.wrap .i64 ((i : Int) + 1) = ((i + 1 : Nat) : Int) := by rw [wrap_in _ (by omega) (by omega)]; omega
    have hv4 := hI.st v hlv
    have hlen := hv4.len
    have hf1 := hv4.f1
    rw [decide_eq_true (by omega), br_true, need_of (by simp [inRange]; omega), adr_some, hat 0 (.int .i64 v) _ (by omega) rfl (by simp), asI_i, need_of (by simp [inRange]; omega), show 0 + 2 + Int.toNat (v : Int) * 1 = 2 + v by simp, h'.stg v hlv, asP_p]
    rcases S.upto_spec (h'.st v hlv) L k (by omega) (by omega) (Nat.le_refl _) mk with ⟨j, r, ad', z', q', σ2, g2, _, s2, _, _, hj, hh, hno⟩ | ⟨σ2, g2, s2, hno⟩
    · rw [g2, bnd_some, asT_t, toList2, uncons_c, asSl_s, uncons_c, asB_b, endl_n, not_true, br_false, hw]
      obtain ⟨σ3, e3, s3⟩ := ncan_loop L k hL h hI hc mk hl hl4 hR n (i + 1) σ2 (by omega) (by omega) (hs.trans s2) (hb.trans s2)
      refine ⟨σ3, ?_, s2.trans s3⟩
      rw [e3, hdr, List.all_cons, upTo_some hj hh hno]
      rfl
    · rw [g2, bnd_some, asT_t, toList2, uncons_c, asSl_s, uncons_c, asB_b, endl_n, not_false, br_true]
      refine ⟨σ2, ?_, s2⟩
      rw [hdr, List.all_cons, upTo_none (rs := (N.st v).rs) (m := mk) (fun r hr => hno r (by rw [List.take_length]; exact hr))]
      rfl
theorem ncan_spec (L k : Nat) (hL : 100000 < L) (h : NdX σ0 σ nd g m d a F N R) (hI : N.Inv c) (hc : c ≤ 899) {G : List Nat} {gs : GS} (hG : Grp σ g G gs) (mk : Int) :
    ∃ σ', evCall Try.prog env L (k + 4) 39 [ptr nd, .int .i64 mk] σ = some (.bool (N.can gs mk), σ') ∧ Same σ σ' [] := by
  obtain ⟨ad, z, q, σ1, g1, hR, s1, _⟩ := atg_spec L (k + 1) (by omega) hG mk
  rw [f39_eq, ld_at h.nd 6 (ptr g) rfl, asP_p, g1, bnd_some, asSl_s]
  have h4 := at_len gs mk
  obtain ⟨σ2, e2, s2⟩ := ncan_loop L k hL h hI hc mk (l := gs.at_ mk) (fun v hv => at_lt hv) h4 hR L 0 σ1 (by omega) (by omega) s1 (Same.refl _ _)
  refine ⟨σ2, ?_, s1.trans s2⟩
  rw [List.drop_zero] at e2
  exact e2

/-! Ready. -/
theorem nready_inner (L k m0 : Nat) (hL : 100000 < L) (h : NdX σ0 σ nd g m d a F N R) (hI : N.Inv c) (hc : c ≤ 899) {G : List Nat} {gs : GS} (hG : Grp σ g G gs) (hG2 : ∀ q ∈ G, q < σ.next) {v : Nat} (hv : v < 4) {l : List Int} (hl : l.length ≤ 1000) {ad : Option Addr} {z : Nat} {q : List Nat} {σb : St} (hR : Row c1 1 3 σb ad z q l) : ∀ (n i : Nat) (out : Int) (σ' : St), i ≤ l.length → l.length - i < n → Same σ σ' [] → Same σb σ' [] →
    ∃ σ2, lpAt Try.prog env L (k + 4) 16 [true, true, true, false, true, false, true, true, false, true, true] [m0] n [(0, ptr nd), (3, .int .i64 out), (13, .agg [ptr (a 0), ptr (a 1), ptr (a 2), ptr (a 3)].toArray), (14, .int .i64 v), (18, .slice ad l.length z), (19, .int .i64 l.length), (20, .int .i64 i)] σ' =
      lpAt Try.prog env L (k + 4) 16 [true, true, true, false, true] [] m0 [(0, ptr nd), (3, .int .i64 (rdyL (N.can gs) out (l.drop i))), (13, .agg [ptr (a 0), ptr (a 1), ptr (a 2), ptr (a 3)].toArray), (14, .int .i64 ((v + 1 : Nat) : Int))] σ2 ∧ Same σ' σ2 []
  | 0, i, out, σ', _, hn, _, _ => by omega
  | n + 1, i, out, σ', hi, hn, hs, hb => by
    rw [f16_l8]
    by_cases hie : i = l.length
    · subst hie
      have hw : IntKind.wrap .i64 ((v : Int) + 1) = ((v + 1 : Nat) : Int) := by rw [wrap_in _ (by omega) (by omega)]; omega
      rw [decide_eq_false (by omega), br_false, List.drop_length, hw]
      exact ⟨σ', rfl, Same.refl _ _⟩
    have hget : l[i]? = some l[i] := List.getElem?_eq_getElem (by omega)
    have hdr : l.drop i = l[i] :: l.drop (i + 1) := List.drop_eq_getElem_cons (by omega)
    generalize l[i] = mk at *
    obtain ⟨p, e, hat⟩ := (hR.same hb (by simp)).at (fun _ => rfl) hget
    subst e
    have hw : IntKind.wrap .i64 ((i : Int) + 1) = ((i + 1 : Nat) : Int) := by rw [wrap_in _ (by omega) (by omega)]; omega
    rw [decide_eq_true (by omega), br_true, need_of (by simp [inRange]; omega), adr_some, hat 0 (.int .i64 mk) _ (by omega) rfl (by simp), asI_i, hdr, hw]
    unfold rdyL
    by_cases ho : mk > out
    · obtain ⟨σ2, g2, s2⟩ := ncan_spec L k hL (h.idle hs) hI hc (hG.idle hs) mk
      rw [decide_eq_true ho, br_true, g2, bnd_some, asB_b]
      cases hcn : N.can gs mk with
      | true =>
        rw [br_true, if_pos ⟨by omega, rfl⟩]
        obtain ⟨σ3, e3, s3⟩ := nready_inner L k m0 hL h hI hc hG hG2 hv hl hR n (i + 1) mk σ2 (by omega) (by omega) (hs.trans s2) (hb.trans s2)
        exact ⟨σ3, e3, s2.trans s3⟩
      | false =>
        rw [br_false, if_neg (by simp)]
        obtain ⟨σ3, e3, s3⟩ := nready_inner L k m0 hL h hI hc hG hG2 hv hl hR n (i + 1) out σ2 (by omega) (by omega) (hs.trans s2) (hb.trans s2)
        exact ⟨σ3, e3, s2.trans s3⟩
    · rw [decide_eq_false ho, br_false, if_neg (fun hx => ho hx.1)]
      exact nready_inner L k m0 hL h hI hc hG hG2 hv hl hR n (i + 1) out σ' (by omega) (by omega) hs hb
def NS.marksFrom (N : NS) (v : Nat) : List Int := ((List.range 4).drop v).flatMap fun v => S.marksOf (N.st v).rs
theorem range_drop (v : Nat) (hv : v < 4) : (List.range 4).drop v = v :: (List.range 4).drop (v + 1) := by
  rcases (by omega : v = 0 ∨ v = 1 ∨ v = 2 ∨ v = 3) with rfl | rfl | rfl | rfl <;> rfl
theorem ptr_nth (a : Nat → Nat) (v : Nat) (h : v < 4) (K : Value → Res) : nth [ptr (a 0), ptr (a 1), ptr (a 2), ptr (a 3)] (Int.toNat (v : Int) * 1) K = K (ptr (a v)) := by
  rcases (by omega : v = 0 ∨ v = 1 ∨ v = 2 ∨ v = 3) with rfl | rfl | rfl | rfl <;> rfl
theorem nready_outer (L k : Nat) (hL : 100000 < L) (h : NdX σ0 σ nd g m d a F N R) (hI : N.Inv c) (hc : c ≤ 899) {G : List Nat} {gs : GS} (hG : Grp σ g G gs) : ∀ (n v : Nat) (out : Int) (σ' : St), v ≤ 4 → 4 - v < n → Same σ σ' [] →
    ∃ σ2, lpAt Try.prog env L (k + 4) 16 [true, true, true, false, true] [] n [(0, ptr nd), (3, .int .i64 out), (13, .agg [ptr (a 0), ptr (a 1), ptr (a 2), ptr (a 3)].toArray), (14, .int .i64 v)] σ' = some (.int .i64 (rdyL (N.can gs) out (N.marksFrom v)), σ2) ∧ Same σ' σ2 []
  | 0, v, out, σ', _, hn, _ => by omega
  | n + 1, v, out, σ', hv, hn, hs => by
    have el := f16_l5 L (k + 4) n σ' nd 0 out (some ⟨a 0, 0, none⟩) (some ⟨a 1, 0, none⟩) (some ⟨a 2, 0, none⟩) (some ⟨a 3, 0, none⟩) (v : Int)
    by_cases hv4 : v = 4
    · subst hv4
      rw [decide_eq_false (by decide), br_false] at el
      exact ⟨σ', el, Same.refl _ _⟩
    have hi := hI.st v (by omega)
    have hlen := hi.len
    have hf1 := hi.f1
    obtain ⟨v2, σ2, g2, ad, z, q, rfl, hR, s2, _⟩ := S.marks_spec ((h.idle hs).st v (by omega)) L (k + 2) (by omega) (by omega) (Nat.le_refl _)
    rw [List.take_length] at hR g2
    have hml := S.marksOf_len (N.st v).rs
    rw [decide_eq_true (by omega), br_true, need_of (by simp [inRange]; omega), show ∀ K : Value → Res, nth [Value.pointer (some ⟨a 0, 0, none⟩), Value.pointer (some ⟨a 1, 0, none⟩), Value.pointer (some ⟨a 2, 0, none⟩), Value.pointer (some ⟨a 3, 0, none⟩)] (Int.toNat (v : Int) * 1) K = K (ptr (a v)) from fun K => ptr_nth a v (by omega) K, asP_p, g2, bnd_some, asSl_s] at el
    obtain ⟨σ3, e3, s3⟩ := nready_inner L k n hL h hI hc hG hG.lt (v := v) (by omega) (l := S.marksOf (N.st v).rs) (by omega) hR L 0 out σ2 (by omega) (by omega) (hs.trans s2) (Same.refl _ _)
    rw [List.drop_zero] at e3
    obtain ⟨σ4, e4, s4⟩ := nready_outer L k hL h hI hc hG n (v + 1) (rdyL (N.can gs) out (S.marksOf (N.st v).rs)) σ3 (by omega) (by omega) ((hs.trans s2).trans s3)
    refine ⟨σ4, el.trans (e3.trans (e4.trans ?_)), (s2.trans s3).trans s4⟩
    have : N.marksFrom v = S.marksOf (N.st v).rs ++ N.marksFrom (v + 1) := by unfold NS.marksFrom; rw [range_drop v (by omega), List.flatMap_cons]
    rw [this, rdyL_app]
theorem nready_spec (L k : Nat) (hL : 100000 < L) (h : NdX σ0 σ nd g m d a F N R) (hI : N.Inv c) (hc : c ≤ 899) {G : List Nat} {gs : GS} (hG : Grp σ g G gs) :
    ∃ σ', evCall Try.prog env L (k + 5) 16 [ptr nd] σ = some (.int .i64 (N.ready gs), σ') ∧ Same σ σ' [] := by
  rw [f16_eq, lds_own (n := 4) _ h.nd (by simp [ndc])]
  show ∃ σ', (uncons [ptr (a 0), ptr (a 1), ptr (a 2), ptr (a 3)] _) = _ ∧ _
  rw [uncons_c, asP_p, uncons_c, asP_p, uncons_c, asP_p, uncons_c, asP_p, endl_n]
  obtain ⟨σ2, e2, s2⟩ := nready_outer L k hL h hI hc hG L 0 0 σ (by omega) (by omega) (Same.refl _ _)
  exact ⟨σ2, e2, s2⟩
end
end Go.AM.Bp

/-
  THE NODE: Begin, Step, Crash, Promote, Image, Applied.
-/
namespace Go.AM.Bp
open Go.Proofs

theorem strs_set32 (b : List ByteArray) (v : Nat) (x : Int) (hx : 0 ≤ x) (s : ByteArray) : (strs b).set (0 + Int.toNat (v : Int) * 8 + Int.toNat x * 1) (.string s) = strs (b.set (8 * v + x.toNat) s) := by
  rw [strs_set]; congr 2; simp; omega
theorem replay_snoc (b : List ByteArray) (v : Nat) (l : List S.Rec) (r : S.Rec) : replay b v (l ++ [r]) = if r.kind = 1 then (replay b v l).set (8 * v + r.block.toNat) r.data else replay b v l := by
  unfold replay; rw [List.foldl_append]; rfl

section
variable {σ0 σ : St} {nd g m d : Nat} {a : Nat → Nat} {F : Nat → List Nat} {N : NS} {R : List (List Nat)} {c : Nat}

/-! Begin. -/
theorem nbegin_inner (L k m0 : Nat) {p : Nat} {mk : Int} {ad1 : Option Addr} {n1 z1 : Nat} {s43 : Int} {i1 : Nat} (hi1 : i1 ≤ 10) {v : Nat} (hv : v < 4) {b : List ByteArray} (hb : b.length = 32) {l : List S.Rec} (hl : l.length ≤ 1000) (hcan : ∀ r ∈ l, S.Can r) {ad : Option Addr} {z : Nat} {q : List Nat} (hp : p ∉ q) : ∀ (n i : Nat) (σ : St), i ≤ l.length → l.length - i < n → Row S.c5 5 40 σ ad z q l → σ.get p = some (.own (strs (replay b v (l.take i))) 48) → p < σ.next →
    ∃ σ2, lpAt Try.prog env L k 11 [true, true, true, true, true, false, true, false, true, true, false, true, true, true] [m0] n [(0, ptr nd), (4, .int .i64 mk), (5, ptr p), (7, .int .i64 v), (42, .slice ad1 n1 z1), (43, .int .i64 s43), (44, .int .i64 i1), (59, .slice ad l.length z), (60, .int .i64 l.length), (61, .int .i64 i)] σ =
      lpAt Try.prog env L k 11 [true, true, true, true, true, false, true] [] m0 [(0, ptr nd), (4, .int .i64 mk), (5, ptr p), (42, .slice ad1 n1 z1), (43, .int .i64 s43), (44, .int .i64 ((i1 + 1 : Nat) : Int))] σ2 ∧ σ2.get p = some (.own (strs (replay b v l)) 48) ∧ Same σ σ2 [p]
  | 0, i, σ, _, hn, _, _, _ => by omega
  | n + 1, i, σ, hi, hn, hR, hg, hpl => by
    rw [f11_l14]
    by_cases hie : i = l.length
    · subst hie
      have hw : IntKind.wrap .i64 ((i1 : Int) + 1) = ((i1 + 1 : Nat) : Int) := by rw [wrap_in _ (by omega) (by omega)]; omega
      rw [decide_eq_false (by omega), br_false, hw]
      rw [List.take_length] at hg
      exact ⟨σ, rfl, hg, Same.refl _ _⟩
    have hget : l[i]? = some l[i] := List.getElem?_eq_getElem (by omega)
    have hri := hcan l[i] (List.getElem_mem _)
    have htk : l.take (i + 1) = l.take i ++ [l[i]] := by rw [List.take_add_one, hget]; rfl
    obtain ⟨w, e, hld⟩ := hR.lds (fun _ => rfl) hget
    generalize l[i] = r at *
    subst e
    have hw : IntKind.wrap .i64 ((i : Int) + 1) = ((i + 1 : Nat) : Int) := by rw [wrap_in _ (by omega) (by omega)]; omega
    rw [decide_eq_true (by omega), br_true, need_of (by simp [inRange]; omega), adr_some, hld _ (by simp)]
    unfold S.c5
    rw [uncons_c, asI_i, uncons_c, asI_i, uncons_c, asI_i, uncons_c, asS_s, uncons_c, asI_i, endl_n]
    obtain ⟨σ1, hput, g1, s1, n1'⟩ := tmp_put σ [.int .i64 0, .int .i64 0, .int .i64 0, .string ⟨#[]⟩, .int .i64 0] [.int .i64 r.seq, .int .i64 r.kind, .int .i64 r.block, .string r.data, .int .i64 r.number] 40 rfl rfl
    have hg1 : σ1.get p = _ := (s1.2 p hpl (by simp)).trans hg
    rw [hput, ld_at g1 1 _ rfl, asI_i, hw]
    have hrl := replay_len v (l.take i) b
    by_cases hk : r.kind = 1
    · obtain ⟨_, hc1 | hc1⟩ := hri
      rotate_left
      · omega
      obtain ⟨_, hb0, hb7, _⟩ := hc1
      rw [show (r.kind == 1) = true by simpa using hk, br_true, ld_at g1 2 _ rfl, asI_i, ld_at g1 3 _ rfl, asS_s, need_of (by simp [inRange]; omega), need_of (by simp [inRange]; omega), put_at hg1 _ (.string r.data) (by rw [strs_len, hrl, hb]; simp; omega) rfl, strs_set32 _ _ _ hb0]
      have s2 := Same.set σ1 p (.own (strs ((replay b v (l.take i)).set (8 * v + r.block.toNat) r.data)) 48)
      have hrs := replay_snoc b v (l.take i) r
      rw [if_pos hk, ← htk] at hrs
      rw [← hrs] at s2 ⊢
      have s02 : Same σ _ [p] := (s1.mono (by simp)).trans s2
      obtain ⟨σ3, e3, g3, s3⟩ := nbegin_inner L k m0 hi1 hv hb hl hcan hp n (i + 1) _ (by omega) (by omega) (hR.same s02 (fun x hx => by simp; rintro rfl; exact hp hx)) (get_set_same _ _ _) (by simp; omega)
      exact ⟨σ3, e3, g3, s02.trans s3⟩
    · rw [show (r.kind == 1) = false by simpa using hk, br_false]
      have hrs := replay_snoc b v (l.take i) r
      rw [if_neg hk, ← htk] at hrs
      rw [← hrs] at hg1
      obtain ⟨σ3, e3, g3, s3⟩ := nbegin_inner L k m0 hi1 hv hb hl hcan hp n (i + 1) σ1 (by omega) (by omega) (hR.same s1 (by simp)) hg1 (by omega)
      exact ⟨σ3, e3, g3, (s1.mono (by simp)).trans s3⟩
theorem foldl_drop {α β : Type} (f : β → α → β) (x : β) (l : List α) (i : Nat) (y : α) (h : l[i]? = some y) : (l.take (i + 1)).foldl f x = f ((l.take i).foldl f x) y := by
  rw [List.take_add_one, h, List.foldl_append]; rfl
theorem nbegin_outer (L k : Nat) (hL : 100000 < L) (h : NdX σ0 σ nd g m d a F N R) (hI : N.Inv c) (hc : c ≤ 899) {mk : Int} {p : Nat} (hpn : σ.next ≤ p) {l : List Nat} (hl : ∀ v ∈ l, v < 4) (hl4 : l.length ≤ 4) {ad : Option Addr} {z : Nat} {q : List Nat} (hpq : p ∉ q) {b : List ByteArray} (hb : b.length = 32) : ∀ (n i : Nat) (σ' : St), i ≤ l.length → l.length - i < n → Same σ σ' [] → Row c1 1 3 σ' ad z q (ints l) → σ'.get p = some (.own (strs ((l.take i).foldl (N.layOne mk) b)) 48) → p < σ'.next →
    ∃ n' σ2, lpAt Try.prog env L (k + 3) 11 [true, true, true, true, true, false, true] [] n [(0, ptr nd), (4, .int .i64 mk), (5, ptr p), (42, .slice ad l.length z), (43, .int .i64 l.length), (44, .int .i64 i)] σ' =
      lpAt Try.prog env L (k + 3) 11 [true, true, true, true, true, false, true] [] (n' + 1) [(0, ptr nd), (4, .int .i64 mk), (5, ptr p), (42, .slice ad l.length z), (43, .int .i64 l.length), (44, .int .i64 l.length)] σ2 ∧ Same σ σ2 [] ∧ σ2.get p = some (.own (strs (l.foldl (N.layOne mk) b)) 48) ∧ p < σ2.next
  | 0, i, σ', _, hn, _, _, _, _ => by omega
  | n + 1, i, σ', hi, hn, hs, hR, hg, hpl => by
    by_cases hie : i = l.length
    · subst hie
      rw [List.take_length] at hg
      exact ⟨n, σ', rfl, hs, hg, hpl⟩
    rw [f11_l10]
    have h' := h.idle hs
    have hget : l[i]? = some l[i] := List.getElem?_eq_getElem (by omega)
    have hlv := hl l[i] (List.getElem_mem _)
    have hfd := foldl_drop (N.layOne mk) b l i _ hget
    have hbl := lay_len N mk (l.take i) b
    generalize l[i] = v at *
    obtain ⟨w, e, hat⟩ := hR.at (fun _ => rfl) (i := i) (a := (v : Int)) (by unfold ints; rw [List.getElem?_map, hget]; rfl)
    subst e
    have hv4 := hI.st v hlv
    have hlen := hv4.len
    have hf1 := hv4.f1
    rw [decide_eq_true (by omega), br_true, need_of (by simp [inRange]; omega), adr_some, hat 0 (.int .i64 v) _ (by omega) rfl (by simp), asI_i, need_of (by simp [inRange]; omega), show 0 + 2 + Int.toNat (v : Int) * 1 = 2 + v by simp, h'.stg v hlv, asP_p]
    have step : ∀ {σ2 : St} {ad' : Option Addr} {z' : Nat} {q' : List Nat} {l' : List S.Rec}, Same σ' σ2 [] → Row S.c5 5 40 σ2 ad' z' q' l' → p ∉ q' → l'.length ≤ 1000 → (∀ r ∈ l', S.Can r) → replay ((l.take i).foldl (N.layOne mk) b) v l' = N.layOne mk ((l.take i).foldl (N.layOne mk) b) v →
        ∃ n' σ3, lpAt Try.prog env L (k + 3) 11 [true, true, true, true, true, false, true, false, true, true, false, true, true, true] [n] L [(0, ptr nd), (4, .int .i64 mk), (5, ptr p), (7, .int .i64 v), (42, .slice (some ⟨w, 0, none⟩) l.length z), (43, .int .i64 l.length), (44, .int .i64 i), (59, .slice ad' l'.length z'), (60, .int .i64 l'.length), (61, .int .i64 0)] σ2 =
          lpAt Try.prog env L (k + 3) 11 [true, true, true, true, true, false, true] [] (n' + 1) [(0, ptr nd), (4, .int .i64 mk), (5, ptr p), (42, .slice (some ⟨w, 0, none⟩) l.length z), (43, .int .i64 l.length), (44, .int .i64 l.length)] σ3 ∧ Same σ σ3 [] ∧ σ3.get p = some (.own (strs (l.foldl (N.layOne mk) b)) 48) ∧ p < σ3.next := by
      intro σ2 ad' z' q' l' s2 hR2 hpq' hl' hcan hrep
      have n2 := s2.1
      obtain ⟨σ3, e3, g3, s3⟩ := nbegin_inner (nd := nd) L (k + 3) n (mk := mk) (ad1 := some ⟨w, 0, none⟩) (n1 := l.length) (z1 := z) (s43 := l.length) (i1 := i) (by omega) hlv (hbl.trans hb) hl' hcan hpq' L 0 σ2 (by omega) (by omega) hR2 (by rw [List.take_zero]; exact (s2.2 p hpl (by simp)).trans hg) (by omega)
      rw [hrep, ← hfd] at g3
      have n3 := s3.1
      have s03 : Same σ σ3 [] := (hs.trans s2).fresh s3 (fun x hx => .inr (by simp at hx; omega))
      obtain ⟨n', σ4, e4, h4⟩ := nbegin_outer L k hL h hI hc hpn hl hl4 hpq hb n (i + 1) σ3 (by omega) (by omega) s03 ((hR.same s2 (by simp)).same s3 (fun x hx => by simp; rintro rfl; exact hpq hx)) g3 (by omega)
      exact ⟨n', σ4, e3.trans e4, h4⟩
    rcases S.upto_spec (h'.st v hlv) L k (by omega) (by omega) (Nat.le_refl _) mk with ⟨j, r, ad', z', q', σ2, g2, hR2, s2, hq2, hjl, hj, hh, hno⟩ | ⟨σ2, g2, s2, hno⟩
    · have htl : ((N.st v).rs.take (j + 1)).length = j + 1 := by rw [List.length_take]; omega
      obtain ⟨n', σ3, e3, h3⟩ := step s2 hR2 (fun hx => by have := hq2 p hx; omega) (by omega) (fun r hr => by
        obtain ⟨i, hi⟩ := List.mem_iff_getElem?.1 (List.mem_of_mem_take hr)
        exact (hv4.seq i r hi).1) (by unfold NS.layOne; rw [upTo_some hj hh hno])
      rw [htl] at e3
      rw [g2, bnd_some, asT_t, toList2, uncons_c, asSl_s, uncons_c, asB_b, endl_n]
      exact ⟨n', σ3, e3, h3⟩
    · obtain ⟨n', σ3, e3, h3⟩ := step (l' := []) s2 (Row.nil _ _ _ _) (by simp) (by simp) (by simp) (by unfold NS.layOne; rw [upTo_none (rs := (N.st v).rs) (m := mk) (fun r hr => hno r (by rw [List.take_length]; exact hr))]; rfl)
      rw [g2, bnd_some, asT_t, toList2, uncons_c, asSl_s, uncons_c, asB_b, endl_n]
      exact ⟨n', σ3, e3, h3⟩

theorem NS.Inv.begun (hI : N.Inv c) (h0 : N.mark = 0) {gs : GS} (hr : N.ready gs ≠ 0) : (N.begun gs (N.ready gs)).Inv (c + 1) ∧ long (N.lay gs (N.ready gs)) = false ∧ N.ready gs ≤ top ∧ (N.im.km : Int) < N.ready gs ∧ 0 < N.ready gs := by
  obtain ⟨hcan, hpos⟩ := ready_can hr
  obtain ⟨_, htop⟩ := can_top hI hcan
  obtain ⟨_, hkm, _⟩ := can_inv hcan
  have hw : N.im.work = none := by
    rcases hI.wk with ⟨_, h⟩ | ⟨h, _⟩
    · exact h
    · omega
  have hbl : long N.im.bl = false := by
    by_cases h0 : N.im.t = 0
    · rw [(hI.im.good.zero h0).2.2.2]; exact long_none
    · rw [long_false]
      intro s hs
      obtain ⟨i, hi⟩ := List.mem_iff_getElem?.1 hs
      exact (hI.im.good.blocks (by omega) i s hi).2
  have hlg := lay_long hI (N.ready gs) (gs.at_ (N.ready gs)) N.im.bl (fun v hv => at_lt hv) hbl
  have hll : (N.lay gs (N.ready gs)).length = 32 := (lay_len N _ _ _).trans hI.im.good.len
  refine ⟨⟨hI.im.begin hw hll hlg htop hkm, ?_, fun v hv => (hI.st v hv).mono (by omega), .inr ⟨hpos, _, 0, rfl⟩⟩, hlg, htop, hkm, hpos⟩
  have := hI.tc
  unfold NS.begun
  dsimp only
  simp
  split at this <;> omega
theorem nbegin_spec (L k : Nat) (hL : 100000 < L) (h : NdX σ0 σ nd g m d a F N R) (hI : N.Inv c) (hc : c ≤ 899) {G : List Nat} {gs : GS} (hG : Grp σ g G gs) :
    ∃ v σ', evCall Try.prog env L (k + 6) 11 [ptr nd] σ = some (v, σ') ∧ Kp σ σ' R ∧
      ((N.mark ≠ 0 ∧ (∃ e, v = .tuple #[.int .i64 0, e] ∧ Fr σ σ' e 9 0) ∧ Same σ σ' []) ∨ (N.mark = 0 ∧ N.ready gs = 0 ∧ (∃ e, v = .tuple #[.int .i64 0, e] ∧ Fr σ σ' e 8 0) ∧ Same σ σ' []) ∨
       (N.mark = 0 ∧ N.ready gs ≠ 0 ∧ v = .tuple #[.int .i64 (N.ready gs), .nilIface] ∧ NdX σ0 σ' nd g m d a F (N.begun gs (N.ready gs)) R)) := by
  rw [f11_eq, ld_at h.nd 7 (.int .i64 N.mark) rfl, asI_i]
  by_cases h0 : N.mark = 0
  rotate_left
  · obtain ⟨e, σ1, g1, hE, s1⟩ := wrong46 L (k + 3) σ 0 9 (by decide)
    rw [show (N.mark != 0) = true by simpa using h0, br_true, g1, bnd_some]
    exact ⟨_, σ1, rfl, h.kept s1, .inl ⟨h0, ⟨e, rfl, hE⟩, s1⟩⟩
  obtain ⟨σ1, g1, s1⟩ := nready_spec L k hL h hI hc hG
  rw [show (N.mark != 0) = false by simpa using h0, br_false, g1, bnd_some, asI_i]
  by_cases hr : N.ready gs = 0
  · obtain ⟨e, σ2, g2, hE, s2⟩ := wrong46 L (k + 3) σ1 0 8 (by decide)
    have s02 := s1.trans s2
    rw [show (N.ready gs == 0) = true by simpa using hr, br_true, g2, bnd_some]
    exact ⟨_, σ2, rfl, h.kept s02, .inr (.inl ⟨h0, hr, ⟨e, rfl, hE.before s1.1⟩, s02⟩)⟩
  have h1 := h.idle s1
  obtain ⟨σ2, g2, s2⟩ := blocksS h1.im L (k + 4)
  have hbl := h1.im.blen
  have e1 : (strs N.im.bl).toArray.toList = strs N.im.bl := rfl
  rw [show (N.ready gs == 0) = false by simpa using hr, br_false, ld_at h1.nd 1 (ptr m) rfl, asP_p, g2, bnd_some, asAgL_a, e1, need_of (by rw [strs_len, hbl]; rfl), tmp_put2 σ2 _ (strs N.im.bl) 48 (by rw [strs_len, hbl]; rfl) (strs_one _)]
  have s3 : Same σ2 (σ2.new (.own (strs N.im.bl) 48)) [] := Same.new _ _ _
  have g3 : (σ2.new (.own (strs N.im.bl) 48)).get σ2.next = some (.own (strs N.im.bl) 48) := get_new_same _ _
  have n3 : (σ2.new (.own (strs N.im.bl) 48)).next = σ2.next + 1 := rfl
  generalize σ2.new (.own (strs N.im.bl) 48) = σ3 at s3 g3 n3
  have s03 := (s1.trans s2).trans s3
  have h3 := h.idle s03
  obtain ⟨ad, z, q, σ4, g4, hR4, s4, hq4⟩ := atg_spec L (k + 3) (by omega) (hG.idle s03) (N.ready gs)
  rw [ld_at h3.nd 6 (ptr g) rfl, asP_p, g4, bnd_some, asSl_s]
  have s04 := s03.trans s4
  have n02 := (s1.trans s2).1
  have n4 := s4.1
  have hal := at_len gs (N.ready gs)
  obtain ⟨n', σ5, e5, s05, g5, l5⟩ := nbegin_outer L (k + 2) hL h hI hc (mk := N.ready gs) (p := σ2.next) (by omega) (l := gs.at_ (N.ready gs)) (fun v hv => at_lt hv) hal (fun hx => by have := hq4 _ hx; omega) hbl L 0 σ4 (by omega) (by omega) s04 hR4 (by rw [List.take_zero]; exact (s4.2 _ (by omega) (by simp)).trans g3) (by omega)
  have e5' := e5
  rw [f11_l10, decide_eq_false (by omega), br_false] at e5
  have h5 := h.idle s05
  obtain ⟨hI', hlg, htop, hkm, hpos⟩ := hI.begun h0 hr
  have hll : (N.lay gs (N.ready gs)).length = 32 := (lay_len N _ _ _).trans hbl
  have hw : N.im.work = none := by
    rcases hI.wk with ⟨_, h⟩ | ⟨h, _⟩
    · exact h
    · omega
  obtain ⟨v, σ6, g6, k6, hor⟩ := begin_spec h5.im L (k + 1) hL hI.im.ok hll (N.ready gs)
  rw [ld_at h5.nd (0 + 1) (ptr m) rfl, asP_p, lds_all (n := 32) g5 (by rw [strs_len]; exact hll.symm)] at e5
  have g6' : evCall Try.prog env L (k + 5) 34 [ptr m, .agg (strs ((gs.at_ (N.ready gs)).foldl (N.layOne (N.ready gs)) N.im.bl)).toArray, .int .i64 (N.ready gs)] σ5 = some (v, σ6) := g6
  rw [g6', bnd_some] at e5
  rcases hor with ⟨hx, _⟩ | ⟨_, hx | hx, _⟩ | ⟨_, _, _, hx, _⟩ | ⟨_, _, _, _, rfl, hI6⟩
  · exact absurd hw hx
  · rw [hlg] at hx; cases hx
  · omega
  · omega
  obtain ⟨h6, kp6⟩ := h5.image hI6 k6
  obtain ⟨σ7, g7, h7, kp7⟩ := h6.own (N.ready gs)
  rw [eqNil_nil, not_true, br_false, g7] at e5
  refine ⟨_, σ7, e5, ((h.kept s05).trans kp6).trans kp7, .inr (.inr ⟨h0, hr, rfl, h7⟩)⟩
end
end Go.AM.Bp

/-
  THE NODE: drop, Step, Crash.
-/
namespace Go.AM.Bp
open Go.Proofs

theorem ImS.perm {σ0 σ : St} {m d : Nat} {s : IS} {Rs Gs : List (List Nat)} (h : ImS σ0 σ m d s Rs) (f : Nat → Nat) (hf : ∀ i j, f i = f j → i = j) (hg : ∀ i G, Gs[i]? = some G → Rs[f i]? = some G) : ImS σ0 σ m d s Gs := by
  obtain ⟨F, G, w, a1, a2, a3, a4, a5⟩ := h.ex
  refine ⟨F, G, w, a1, a2, a3.map (fun i => if i < 2 then i else f (i - 2) + 2) (fun i j e => ?_) (fun i H hH => ?_), a4, a5⟩
  · by_cases hi : i < 2 <;> by_cases hj : j < 2 <;> simp [hi, hj] at e <;> first | omega | (have := hf _ _ e; omega)
  · match i, hH with
    | 0, hH => exact hH
    | 1, hH => exact hH
    | i + 2, hH => exact hg i H hH
section
variable {σ0 σ : St} {nd g m d : Nat} {a : Nat → Nat} {F : Nat → List Nat} {N : NS} {R : List (List Nat)} {c : Nat}
/-- One more thing beside the node. -/
theorem NdX.push (h : NdX σ0 σ nd g m d a F N R) {σ' : St} (hs : Same σ σ' []) {X : List Nat} (hX : ∀ q ∈ X, σ.next ≤ q ∧ q < σ'.next) : NdX σ0 σ' nd g m d a F N (X :: R) := by
  have hi := h.idle hs
  refine ⟨(h.im.push2 hs hX).perm (fun i => if i < 5 then i + 1 else if i = 5 then 0 else i) (fun i j e => ?_) (fun i H hH => ?_), hi.nd, hi.st⟩
  · by_cases h1 : i < 5 <;> by_cases h2 : j < 5 <;> by_cases h3 : i = 5 <;> by_cases h4 : j = 5 <;> simp [h1, h2, h3, h4] at e <;> omega
  · match i, hH with
    | 0, hH => exact hH
    | 1, hH => exact hH
    | 2, hH => exact hH
    | 3, hH => exact hH
    | 4, hH => exact hH
    | 5, hH => exact hH
    | i + 6, hH => exact hH
theorem NdX.pop {X : List Nat} (h : NdX σ0 σ nd g m d a F N (X :: R)) : NdX σ0 σ nd g m d a F N R := by
  refine ⟨h.im.perm (fun i => if i < 5 then i else i + 1) (fun i j e => ?_) (fun i H hH => ?_), h.nd, h.st⟩
  · by_cases h1 : i < 5 <;> by_cases h2 : j < 5 <;> simp [h1, h2] at e <;> omega
  · match i, hH with
    | 0, hH => exact hH
    | 1, hH => exact hH
    | 2, hH => exact hH
    | 3, hH => exact hH
    | 4, hH => exact hH
    | i + 5, hH => exact hH

/-! drop. -/
theorem dropL_snoc (N : NS) (mk : Int) (l : List Nat) (v : Nat) (hv : v ∉ l) : N.dropL mk (l ++ [v]) = { N.dropL mk l with st := upd (N.dropL mk l).st v (if (N.st v).mark ≠ mk then (N.st v).drop mk else N.st v) } := by
  unfold NS.dropL
  simp only [NS.mk.injEq, true_and, and_true]
  funext u
  unfold upd
  by_cases hu : u = v
  · subst hu; simp
  · simp [hu]
theorem ndrop_loop (L k : Nat) (hL : 100000 < L) (hc : c ≤ 899) (mk : Int) {l : List Nat} (hl : ∀ v ∈ l, v < 4) (hl4 : l.length ≤ 4) (hnd : l.Nodup) {ad : Option Addr} {z : Nat} {q : List Nat} (hI : N.Inv c) : ∀ (n i : Nat) (σ : St) (F : Nat → List Nat), i ≤ l.length → l.length - i < n → Row c1 1 3 σ ad z q (ints l) → NdX σ0 σ nd g m d a F (N.dropL mk (l.take i)) (q :: R) →
    ∃ F' σ2, lpAt Try.prog env L (k + 4) 36 [true, true] [] n [(0, ptr nd), (2, .int .i64 mk), (17, .slice ad l.length z), (18, .int .i64 l.length), (19, .int .i64 i)] σ = some (.tuple #[], σ2) ∧ NdX σ0 σ2 nd g m d a F' (N.dropL mk l) (q :: R) ∧ Kp σ σ2 (q :: R)
  | 0, i, σ, F, _, hn, _, _ => by omega
  | n + 1, i, σ, F, hi, hn, hR, h => by
    rw [f36_l2]
    by_cases hie : i = l.length
    · subst hie
      rw [List.take_length] at h
      rw [decide_eq_false (by omega), br_false]
      exact ⟨F, σ, rfl, h, Kp.refl _ _⟩
    have hget : l[i]? = some l[i] := List.getElem?_eq_getElem (by omega)
    have hlv := hl l[i] (List.getElem_mem _)
    have htk : l.take (i + 1) = l.take i ++ [l[i]] := by rw [List.take_add_one, hget]; rfl
    have hno : l[i] ∉ l.take i := by
      intro hx
      have h2 := hnd
      rw [← List.take_append_drop i l, List.nodup_append] at h2
      have hdr : l.drop i = l[i] :: l.drop (i + 1) := List.drop_eq_getElem_cons (by omega)
      exact h2.2.2 _ hx _ (by rw [hdr]; exact List.mem_cons_self) rfl
    generalize l[i] = v at *
    have hds := dropL_snoc N mk (l.take i) v hno
    rw [← htk] at hds
    have hsv : (N.dropL mk (l.take i)).st v = N.st v := by unfold NS.dropL; simp [hno]
    obtain ⟨w, e, hat⟩ := hR.at (fun _ => rfl) (i := i) (a := (v : Int)) (by unfold ints; rw [List.getElem?_map, hget]; rfl)
    subst e
    have hw : IntKind.wrap .i64 ((i : Int) + 1) = ((i + 1 : Nat) : Int) := by rw [wrap_in _ (by omega) (by omega)]; omega
    have hv4 := hI.st v hlv
    have hlen := hv4.len
    have hf1 := hv4.f1
    have hS := h.st v hlv
    rw [hsv] at hS
    have iv : inRange (v : Int) 4 = true := by simp [inRange]; omega
    have ho : 0 + 2 + Int.toNat (v : Int) * 1 = 2 + v := by simp
    rw [decide_eq_true (by omega), br_true, need_of (by simp [inRange]; omega), adr_some, hat 0 (.int .i64 v) _ (by omega) rfl (by simp), asI_i, need_of iv, ho, h.stg v hlv, asP_p, S.dropped_spec hS L (k + 3) hf1 (by omega), bnd_some, asT_t, toList2, uncons_c, asI_i, uncons_c, asI_i, endl_n, hw]
    by_cases hm : (N.st v).mark = mk
    · rw [show ((N.st v).mark != mk) = false by simpa using hm, br_false]
      rw [if_neg (by simpa using hm)] at hds
      have hE : N.dropL mk (l.take (i + 1)) = N.dropL mk (l.take i) := by
        rw [hds]
        have : upd (N.dropL mk (l.take i)).st v (N.st v) = (N.dropL mk (l.take i)).st := by
          funext u; unfold upd; by_cases hu : u = v
          · subst hu; simp [hsv]
          · simp [hu]
        rw [this]
      exact ndrop_loop L k hL hc mk hl hl4 hnd hI n (i + 1) σ F (by omega) (by omega) hR (by rw [hE]; exact h)
    · rw [if_pos hm] at hds
      rw [show ((N.st v).mark != mk) = true by simpa using hm, br_true, need_of iv, h.stg v hlv, asP_p]
      have next : ∀ {σ2 : St} {F' : List Nat} {v2 : Value}, Turn σ σ2 (F v) F' → S.Stg σ2 (a v) F' ((N.st v).drop mk).first ((N.st v).drop mk).rs ((N.st v).drop mk).rs.length ((N.st v).drop mk).mark →
          ∃ F'' σ3, lpAt Try.prog env L (k + 4) 36 [true, true] [] n [(0, ptr nd), (2, .int .i64 mk), (17, .slice (some ⟨w, 0, none⟩) l.length z), (18, .int .i64 l.length), (19, .int .i64 ((i + 1 : Nat) : Int))] σ2 = some (.tuple #[], σ3) ∧ NdX σ0 σ3 nd g m d a F'' (N.dropL mk l) (q :: R) ∧ Kp σ σ3 (q :: R) := by
        intro σ2 F' v2 hT hS2
        obtain ⟨h2, k2⟩ := h.turn v hlv hT hS2
        rw [← hds] at h2
        have hR2 := hR.moved (fun x hx => k2 q (by simp) x hx) (h2.lt (H := q) (by simp))
        obtain ⟨F'', σ3, e3, h3, k3⟩ := ndrop_loop L k hL hc mk hl hl4 hnd hI n (i + 1) σ2 _ (by omega) (by omega) hR2 h2
        exact ⟨F'', σ3, e3, h3, k2.trans k3⟩
      rcases S.drop_spec hS L k (by omega) (by omega) (Nat.le_refl _) hf1 (by omega) mk with ⟨j, r, F', σ2, g2, hS2, hT2, hjl, hj, hh, hno2⟩ | ⟨w2, σ2, g2, _, s2, hno2⟩
      · have hup := upTo_some hj hh hno2
        rw [g2, bnd_some]
        refine next (v2 := .nilIface) hT2 ?_
        unfold SS.drop
        rw [hup]
        dsimp only
        rw [List.length_drop]
        exact hS2
      · have hup := upTo_none (rs := (N.st v).rs) (m := mk) (fun r hr => hno2 r (by rw [List.take_length]; exact hr))
        rw [g2, bnd_some]
        refine next (v2 := w2) (.idle s2 hS.lt) ?_
        unfold SS.drop
        rw [hup]
        exact hS.idle s2
theorem ndrop_spec (L k : Nat) (hL : 100000 < L) (hc : c ≤ 899) (h : NdX σ0 σ nd g m d a F N R) (hI : N.Inv c) {G : List Nat} {gs : GS} (hG : Grp σ g G gs) :
    ∃ F' σ', evCall Try.prog env L (k + 5) 36 [ptr nd] σ = some (.tuple #[], σ') ∧ NdX σ0 σ' nd g m d a F' (N.drop gs) R ∧ Kp σ σ' R := by
  obtain ⟨ad, z, q, σ1, g1, hR, s1, hq⟩ := atg_spec L (k + 2) (by omega) hG (N.im.km : Int)
  have h1 := h.push s1 (X := q) (fun x hx => ⟨hq x hx, hR.lt x hx⟩)
  have hal := at_len gs (N.im.km : Int)
  rw [f36_eq, ld_at h.nd 1 (ptr m) rfl, asP_p, markS h.im L (k + 3), bnd_some, asI_i, ld_at h.nd 6 (ptr g) rfl, asP_p, g1, bnd_some, asSl_s]
  obtain ⟨F', σ2, e2, h2, k2⟩ := ndrop_loop L k hL hc (N.im.km : Int) (l := gs.at_ (N.im.km : Int)) (fun v hv => at_lt hv) hal (at_nodup _ _) hI L 0 σ1 F (by omega) (by omega) hR (by
    have : N.dropL (N.im.km : Int) ((gs.at_ (N.im.km : Int)).take 0) = N := by unfold NS.dropL; simp
    rw [this]; exact h1)
  exact ⟨F', σ2, e2, h2.pop, (h.kept s1).trans (fun H hH => k2 H (List.mem_cons_of_mem _ hH))⟩

/-! Step. -/
theorem NS.Inv.step (hI : N.Inv c) (hc : c ≤ 899) (gs : GS) : (N.step gs).Inv c := by
  unfold NS.step
  cases hw : N.im.work with
  | none => exact hI
  | some p =>
    obtain ⟨mk', bl', k⟩ := p
    have htc := hI.tc
    rw [hw] at htc
    simp at htc
    have hinv := hI.im.step (by omega) hw
    obtain ⟨hm0, bl, k', hwk⟩ : 0 < N.mark ∧ ∃ bl k, N.im.work = some (N.mark.toNat, bl, k) := by
      rcases hI.wk with ⟨_, h⟩ | h
      · rw [hw] at h; cases h
      · exact h
    rw [hw] at hwk
    cases hwk
    have hok := (hI.im.ok.bw _ _ _ hw).1
    dsimp only
    by_cases hk : k = 34
    · rw [if_pos hk]
      subst hk
      refine NS.Inv.dropL (N := { N with im := stepS N.im N.mark.toNat bl' 34, mark := 0 }) ⟨hinv, ?_, hI.st, .inl ⟨rfl, rfl⟩⟩ _ _
      show N.im.t + 1 + 0 ≤ c
      omega
    · rw [if_neg hk]
      refine ⟨hinv, ?_, hI.st, .inr ⟨hm0, ?_⟩⟩
      · unfold stepS
        dsimp only
        split
        · dsimp only; simp; omega
        · split
          · dsimp only; simp; omega
          · split
            · dsimp only; simp; omega
            · omega
      · unfold stepS
        dsimp only
        split
        · exact ⟨_, _, rfl⟩
        · split
          · exact ⟨_, _, rfl⟩
          · split
            · exact ⟨_, _, rfl⟩
            · omega
theorem nstep_spec (L k : Nat) (hL : 100000 < L) (hc : c ≤ 899) (h : NdX σ0 σ nd g m d a F N R) (hI : N.Inv c) {G : List Nat} {gs : GS} (hG : Grp σ g G gs) (hGR : G ∈ R) :
    ∃ v F' σ', evCall Try.prog env L (k + 9) 12 [ptr nd] σ = some (v, σ') ∧ Kp σ σ' R ∧
      ((N.mark = 0 ∧ (∃ e, v = .tuple #[.bool false, e] ∧ Fr σ σ' e 9 0) ∧ Same σ σ' []) ∨
       (∃ bl' k, N.mark ≠ 0 ∧ N.im.work = some (N.mark.toNat, bl', k) ∧ v = .tuple #[.bool (decide (k = 34)), .nilIface] ∧ NdX σ0 σ' nd g m d a F' (N.step gs) R)) := by
  rw [f12_eq, ld_at h.nd 7 (.int .i64 N.mark) rfl, asI_i]
  by_cases h0 : N.mark = 0
  · obtain ⟨e, σ1, g1, hE, s1⟩ := wrong46 L (k + 6) σ 0 9 (by decide)
    rw [show (N.mark == 0) = true by simpa using h0, br_true, g1, bnd_some]
    exact ⟨_, F, σ1, rfl, h.kept s1, .inl ⟨h0, ⟨e, rfl, hE⟩, s1⟩⟩
  obtain ⟨hm0, bl, j, hwk⟩ : 0 < N.mark ∧ ∃ bl k, N.im.work = some (N.mark.toNat, bl, k) := by
    rcases hI.wk with ⟨h, _⟩ | h
    · exact absurd h h0
    · exact h
  rw [show (N.mark == 0) = false by simpa using h0, br_false, ld_at h.nd 1 (ptr m) rfl, asP_p]
  obtain ⟨v, σ1, g1, k1, hor⟩ := step_spec h.im L k hL hI.im.ok
  rw [g1, bnd_some]
  rcases hor with ⟨hw, _⟩ | ⟨mk', bl', j', hw, rfl, hI1⟩
  · rw [hwk] at hw; cases hw
  rw [hwk] at hw
  cases hw
  obtain ⟨h1, kp1⟩ := h.image hI1 k1
  rw [asT_t, toList2, uncons_c, asB_b, uncons_c, endl_n]
  by_cases hk : j = 34
  · obtain ⟨σ2, g2, h2, kp2⟩ := h1.own 0
    have hE : N.step gs = NS.drop { N with im := stepS N.im N.mark.toNat bl j, mark := 0 } gs := by unfold NS.step; rw [hwk]; dsimp only; rw [if_pos hk]
    have hG2 : Grp σ2 g G gs := hG.moved (fun q hq => (kp1.trans kp2) G hGR q hq) (h2.lt hGR)
    have hI2 : NS.Inv { N with im := stepS N.im N.mark.toNat bl j, mark := 0 } c := by
      have htc := hI.tc
      rw [hwk] at htc
      simp at htc
      refine ⟨hI.im.step (by omega) hwk, ?_, hI.st, .inl ⟨rfl, by unfold stepS; rw [if_neg (by omega), if_neg (by omega), if_neg (by omega)]⟩⟩
      unfold stepS; rw [if_neg (by omega), if_neg (by omega), if_neg (by omega)]
      show N.im.t + 1 + 0 ≤ c
      omega
    obtain ⟨F', σ3, g3, h3, kp3⟩ := ndrop_spec L (k + 3) hL hc h2 hI2 hG2
    rw [decide_eq_true hk, br_true, g2, g3, bnd_some, asT_t, toList0, endl_n, wrong46_nil L (k + 6), bnd_some]
    exact ⟨_, F', σ3, rfl, (kp1.trans kp2).trans kp3, .inr ⟨bl, j, h0, hwk, by rw [decide_eq_true hk], by rw [hE]; exact h3⟩⟩
  · have hE : N.step gs = { N with im := stepS N.im N.mark.toNat bl j } := by unfold NS.step; rw [hwk]; dsimp only; rw [if_neg hk]
    rw [decide_eq_false hk, br_false, wrong46_nil L (k + 6), bnd_some]
    exact ⟨_, F, σ1, rfl, kp1, .inr ⟨bl, j, h0, hwk, by rw [decide_eq_false hk], by rw [hE]; exact h1⟩⟩

/-! Crash. -/
def NS.crashed (N : NS) (keep : Int) : NS :=
  match opn (rd (D.lay (D.bit keep) 0 N.im.S N.im.W)) with
  | some (t, km, bl) => { N with im := ⟨D.lay (D.bit keep) 0 N.im.S N.im.W, [], t, km, bl, none⟩, mark := 0 }
  | none => N
def NS.crash (N : NS) (keep : Int) (gs : GS) : NS := (N.crashed keep).drop gs
theorem crashed_is (hI : N.Inv c) (hc : c ≤ 899) (keep : Int) : ∃ t km bl, Good (rd (D.lay (D.bit keep) 0 N.im.S N.im.W)) t km bl ∧ t ≤ c ∧ N.crashed keep = { N with im := ⟨D.lay (D.bit keep) 0 N.im.S N.im.W, [], t, km, bl, none⟩, mark := 0 } ∧
    ((t = N.im.t ∧ km = N.im.km ∧ bl = N.im.bl) ∨ (t = N.im.t + 1 ∧ N.im.work = some (km, bl, 34) ∧ D.bit keep 0 = true)) := by
  have htc := hI.tc
  rcases hI.im.crash (D.bit keep) with hg | ⟨mk', bl', hw, hb, hg⟩
  · exact ⟨_, _, _, hg, by split at htc <;> omega, by unfold NS.crashed; rw [hg.opn], .inl ⟨rfl, rfl, rfl⟩⟩
  · rw [hw] at htc; simp at htc
    exact ⟨_, _, _, hg, htc, by unfold NS.crashed; rw [hg.opn], .inr ⟨rfl, hw, hb⟩⟩
theorem NS.Inv.crashed (hI : N.Inv c) (hc : c ≤ 899) (keep : Int) : (N.crashed keep).Inv c := by
  obtain ⟨t, km, bl, hg, ht, e, _⟩ := crashed_is hI hc keep
  rw [e]
  exact ⟨⟨(D.lay_len _ _ _ _).trans hI.im.sl, by show t ≤ 900; omega, hg, rfl⟩, ht, hI.st, .inl ⟨rfl, rfl⟩⟩
theorem NS.Inv.crash (hI : N.Inv c) (hc : c ≤ 899) (keep : Int) (gs : GS) : (N.crash keep gs).Inv c := (hI.crashed hc keep).dropL _ _
theorem ncrash_spec (L k : Nat) (hL : 100000 < L) (hc : c ≤ 899) (h : NdX σ0 σ nd g m d a F N R) (hI : N.Inv c) {G : List Nat} {gs : GS} (hG : Grp σ g G gs) (hGR : G ∈ R) (keep : Int) :
    ∃ m' F' σ', evCall Try.prog env L (k + 12) 18 [ptr nd, .int .u64 keep] σ = some (.nilIface, σ') ∧ NdX σ0 σ' nd g m' d a F' (N.crash keep gs) R ∧ Kp σ σ' R := by
  obtain ⟨t, km, bl, hg, ht, hE, _⟩ := crashed_is hI hc keep
  obtain ⟨FD, σ1, g1, hD1, hO1, k1⟩ := crashS h.im hI.im.ok L (k + 8) hL keep
  have hsl : (D.lay (D.bit keep) 0 N.im.S N.im.W).length = 66 := (D.lay_len _ _ _ _).trans hI.im.sl
  have hn1 : σ1.get nd = _ := (k1 [nd] (by simp) nd (by simp)).trans h.nd
  obtain ⟨m2, σ2, g2, hI2, k2, _⟩ := openGood hD1 hO1 hsl L k hL hg (by omega)
  have hk12 : Kp σ σ2 (F 0 :: F 1 :: F 2 :: F 3 :: [nd] :: R) := Kp.trans k1 k2
  have hn2 : σ2.get nd = some (.own (ndc d m (a 0) (a 1) (a 2) (a 3) g N.mark) 82) := (hk12 [nd] (by simp) nd (by simp)).trans h.nd
  -- the node's image, and marker
  have g3 := fun (K : St → Res) => put_at hn2 1 (.pointer (some ⟨m2, 0, none⟩)) (by simp [ndc]) rfl K
  have s3 := Same.set σ2 nd (.own (List.set (ndc d m (a 0) (a 1) (a 2) (a 3) g N.mark) 1 (.pointer (some ⟨m2, 0, none⟩))) 82)
  have n3 : (σ2.set nd (.own (List.set (ndc d m (a 0) (a 1) (a 2) (a 3) g N.mark) 1 (.pointer (some ⟨m2, 0, none⟩))) 82)).get nd = some (.own (ndc d m2 (a 0) (a 1) (a 2) (a 3) g N.mark) 82) := get_set_same _ _ _
  generalize σ2.set nd (.own (List.set (ndc d m (a 0) (a 1) (a 2) (a 3) g N.mark) 1 (.pointer (some ⟨m2, 0, none⟩))) 82) = σ3 at g3 s3 n3
  have hndl := hI2.lt (H := [nd]) (by simp) nd (by simp)
  have hm : ∀ v, v < 4 → F v ∈ F 0 :: F 1 :: F 2 :: F 3 :: [nd] :: R := fun v hv => List.mem_of_getElem? (fl_get F _ v hv)
  have hT : Turn σ2 σ3 [nd] [nd] := ⟨s3, fun q hq => ⟨.inl hq, by have := s3.1; simp at hq; omega⟩⟩
  have hI3 := hI2.turned 4 rfl hT
  rw [four_one] at hI3
  have h3 : NdX σ0 σ3 nd g m2 d a F { N with im := ⟨D.lay (D.bit keep) 0 N.im.S N.im.W, [], t, km, bl, none⟩ } R :=
    ⟨hI3, n3, fun v hv => ((h.st v hv).moved (hk12 _ (hm v hv)) (hI2.lt (hm v hv))).same s3 (fun q hq => hI2.dis v 4 (by omega) (fl_get F _ v hv) rfl q hq)⟩
  have kp3 : Kp σ2 σ3 R := fun H hH q hq => by
    obtain ⟨i, hi⟩ := List.mem_iff_getElem?.1 hH
    exact s3.2 q (hI2.lt (by simp [hH]) q hq) (hI2.dis (i + 5) 4 (by omega) (by simpa using hi) rfl q hq)
  obtain ⟨σ4, g4, h4, kp4⟩ := h3.own 0
  have kp02 : Kp σ σ2 R := fun H hH => hk12 H (by simp [hH])
  have kp04 : Kp σ σ4 R := (kp02.trans kp3).trans kp4
  have hG4 : Grp σ4 g G gs := hG.moved (fun q hq => kp04 G hGR q hq) (h4.lt hGR)
  have hI4 := hI.crashed hc keep
  rw [hE] at hI4
  obtain ⟨F', σ5, g5, h5, kp5⟩ := ndrop_spec L (k + 6) hL hc h4 hI4 hG4
  refine ⟨m2, F', σ5, ?_, by unfold NS.crash; rw [hE]; exact h5, kp04.trans kp5⟩
  rw [f18_eq, ld_at h.nd 0 (ptr d) rfl, asP_p, g1, bnd_some, asT_t, toList0, endl_n, f42_eq, ld_at hn1 0 (ptr d) rfl, asP_p, g2, bnd_some, asT_t, toList2, uncons_c, asP_p, uncons_c, endl_n, eqNil_nil, not_true, br_false, g3, g4, bnd_some, eqNil_nil, not_true, br_false, g5, bnd_some, asT_t, toList0, endl_n]
end
end Go.AM.Bp

/-
  THE NODE: Promote, Image, Applied; steps in a row.
-/
namespace Go.AM.Bp
open Go.Proofs

def NS.steps (g : GS) : Nat → NS → NS
  | 0, N => N
  | n + 1, N => NS.steps g n (N.step g)
theorem step_idle {N : NS} (g : GS) (h : N.im.work = none) : N.step g = N := by unfold NS.step; rw [h]
theorem steps_idle (g : GS) : ∀ (n : Nat) {N : NS}, N.im.work = none → N.steps g n = N
  | 0, N, h => rfl
  | n + 1, N, h => by unfold NS.steps; rw [step_idle g h]; exact steps_idle g n h
theorem NS.Inv.steps {c : Nat} (hc : c ≤ 899) (g : GS) : ∀ (n : Nat) {N : NS}, N.Inv c → (N.steps g n).Inv c
  | 0, N, h => h
  | n + 1, N, h => NS.Inv.steps hc g n (h.step hc g)
theorem step_work {N : NS} (g : GS) {mk' k : Nat} {bl' : List ByteArray} (h : N.im.work = some (mk', bl', k)) (hk : k < 34) : (N.step g).im.work = some (mk', bl', k + 1) ∧ (N.step g).mark = N.mark ∧ (N.step g).st = N.st ∧ (N.step g).im.t = N.im.t ∧ (N.step g).im.km = N.im.km ∧ (N.step g).im.bl = N.im.bl := by
  unfold NS.step
  rw [h]
  dsimp only
  rw [if_neg (by omega)]
  unfold stepS
  dsimp only
  split
  · exact ⟨rfl, rfl, rfl, rfl, rfl, rfl⟩
  · split
    · rename_i h32; subst h32; exact ⟨rfl, rfl, rfl, rfl, rfl, rfl⟩
    · split
      · rename_i h33; subst h33; exact ⟨rfl, rfl, rfl, rfl, rfl, rfl⟩
      · omega
theorem step_last {N : NS} (g : GS) {mk' : Nat} {bl' : List ByteArray} (h : N.im.work = some (mk', bl', 34)) : N.step g = NS.drop { N with im := ⟨D.lay (fun _ => true) 0 N.im.S N.im.W, [], N.im.t + 1, mk', bl', none⟩, mark := 0 } g := by
  unfold NS.step
  rw [h]
  dsimp only
  rw [if_pos rfl]
  unfold stepS
  rw [if_neg (by omega), if_neg (by omega), if_neg (by omega)]
theorem drop_im (N : NS) (g : GS) : (N.drop g).im = N.im := rfl
theorem drop_mark (N : NS) (g : GS) : (N.drop g).mark = N.mark := rfl
/-- All that is left. -/
theorem steps_done (g : GS) {mk' : Nat} {bl' : List ByteArray} : ∀ (n k : Nat) {N : NS}, N.im.work = some (mk', bl', k) → k + n = 34 →
    ∃ S', N.steps g (n + 1) = NS.drop { N with im := ⟨S', [], N.im.t + 1, mk', bl', none⟩, mark := 0 } g
  | 0, k, N, h, hk => by
    have : k = 34 := by omega
    subst this
    exact ⟨_, step_last g h⟩
  | n + 1, k, N, h, hk => by
    obtain ⟨h1, h2, h3, h4, h5, h6⟩ := step_work g h (by omega)
    obtain ⟨S', e⟩ := steps_done g n (k + 1) h1 (by omega)
    refine ⟨S', ?_⟩
    show NS.steps g (n + 1) (N.step g) = _
    rw [e, h4]
    unfold NS.drop NS.dropL
    simp only [h3]
theorem steps_add (g : GS) : ∀ (m n : Nat) (N : NS), N.steps g (m + n) = (N.steps g m).steps g n
  | 0, n, N => by rw [Nat.zero_add]; rfl
  | m + 1, n, N => by
    rw [show m + 1 + n = (m + n) + 1 by omega]
    show NS.steps g (m + n) (N.step g) = _
    rw [steps_add g m n]
    rfl
theorem steps_full (g : GS) {mk' k : Nat} {bl' : List ByteArray} {N : NS} (h : N.im.work = some (mk', bl', k)) (hk : k ≤ 34) (n : Nat) (hn : 35 - k ≤ n) : ∃ S', N.steps g n = NS.drop { N with im := ⟨S', [], N.im.t + 1, mk', bl', none⟩, mark := 0 } g := by
  obtain ⟨S', e⟩ := steps_done g (34 - k) k h (by omega)
  refine ⟨S', ?_⟩
  rw [show n = (34 - k + 1) + (n - (35 - k)) by omega, steps_add, e, steps_idle _ _ (by rw [drop_im])]

section
variable {σ0 σ : St} {nd g m d : Nat} {a : Nat → Nat} {F : Nat → List Nat} {N : NS} {R : List (List Nat)} {c : Nat}

/-! Promote. -/
theorem cut_loop (L k : Nat) (hc : c ≤ 899) : ∀ (n v : Nat) (s : Int) (σ : St) (F : Nat → List Nat) (N : NS), v ≤ 4 → 4 - v < n → N.Inv c → 0 ≤ s → s ≤ 1000 * v → NdX σ0 σ nd g m d a F N R →
    ∃ F' σ', lpAt Try.prog env L (k + 1) 17 [true, true, true, true, false, true] [] n [(3, .int .i64 s), (18, .agg [ptr (a 0), ptr (a 1), ptr (a 2), ptr (a 3)].toArray), (19, .int .i64 v)] σ = some (.int .i64 (s + (((List.range 4).drop v).map fun v => ((N.st v).rs.length : Int)).sum), σ') ∧
      NdX σ0 σ' nd g m d a F' { N with st := fun u => if v ≤ u ∧ u < 4 then (N.st u).cut else N.st u } R ∧ Kp σ σ' R
  | 0, v, s, σ, F, N, _, hn, _, _, _, _ => by omega
  | n + 1, v, s, σ, F, N, hv, hn, hI, hs0, hs1, h => by
    have el := f17_l7 L (k + 1) n σ s (some ⟨a 0, 0, none⟩) (some ⟨a 1, 0, none⟩) (some ⟨a 2, 0, none⟩) (some ⟨a 3, 0, none⟩) (v : Int)
    by_cases hv4 : v = 4
    · subst hv4
      rw [decide_eq_false (by decide), br_false] at el
      have e0 : (List.range 4).drop 4 = [] := rfl
      refine ⟨F, σ, el.trans (by rw [e0]; simp), ?_, Kp.refl _ _⟩
      have : (fun u => if 4 ≤ u ∧ u < 4 then (N.st u).cut else N.st u) = N.st := by funext u; rw [if_neg (by omega)]
      rw [this]; exact h
    have hi := hI.st v (by omega)
    have hlen := hi.len
    have hf1 := hi.f1
    obtain ⟨σ1, g1, hS1, hT1⟩ := S.cut_spec (h.st v (by omega)) L k
    have hw : IntKind.wrap .i64 ((v : Int) + 1) = ((v + 1 : Nat) : Int) := by rw [wrap_in _ (by omega) (by omega)]; omega
    have hw2 : IntKind.wrap .i64 (s + ((N.st v).rs.length : Int)) = s + ((N.st v).rs.length : Int) := wrap_in _ (by omega) (by omega)
    rw [decide_eq_true (by omega), br_true, need_of (by simp [inRange]; omega), show ∀ K : Value → Res, nth [Value.pointer (some ⟨a 0, 0, none⟩), Value.pointer (some ⟨a 1, 0, none⟩), Value.pointer (some ⟨a 2, 0, none⟩), Value.pointer (some ⟨a 3, 0, none⟩)] (Int.toNat (v : Int) * 1) K = K (ptr (a v)) from fun K => ptr_nth a v (by omega) K, asP_p, g1, bnd_some, asI_i, hw, hw2] at el
    obtain ⟨h1, k1⟩ := h.turn v (by omega) hT1 (s := (N.st v).cut) hS1
    have hI1 : NS.Inv { N with st := upd N.st v (N.st v).cut } c := ⟨hI.im, hI.tc, fun u hu => by
      dsimp only
      by_cases e : u = v
      · subst e; rw [upd_same]; exact (hI.st u hu).cut
      · rw [upd_ne _ _ e]; exact hI.st u hu, hI.wk⟩
    obtain ⟨F', σ2, e2, h2, k2⟩ := cut_loop L k hc n (v + 1) (s + ((N.st v).rs.length : Int)) σ1 _ _ (by omega) (by omega) hI1 (by omega) (by omega) h1
    refine ⟨F', σ2, el.trans (e2.trans ?_), ?_, k1.trans k2⟩
    · rw [range_drop v (by omega), List.map_cons, List.sum_cons]
      have : (((List.range 4).drop (v + 1)).map fun u => ((upd N.st v (N.st v).cut u).rs.length : Int)) = (((List.range 4).drop (v + 1)).map fun u => ((N.st u).rs.length : Int)) := by
        apply List.map_congr_left
        intro u hu
        rw [upd_ne]
        intro e
        subst e
        have := List.mem_drop_iff_getElem.1 hu
        obtain ⟨i, hi, e⟩ := this
        simp at e
        omega
      dsimp only
      rw [this, Int.add_assoc]
    · have : (fun u => if v ≤ u ∧ u < 4 then (N.st u).cut else N.st u) = fun u => if v + 1 ≤ u ∧ u < 4 then (upd N.st v (N.st v).cut u).cut else upd N.st v (N.st v).cut u := by
        funext u
        by_cases e : u = v
        · subst e; rw [upd_same, if_pos (by omega), if_neg (by omega)]
        · rw [upd_ne _ _ e]
          by_cases h1 : v ≤ u ∧ u < 4
          · rw [if_pos h1, if_pos (by omega)]
          · rw [if_neg h1, if_neg (by omega)]
      rw [this]
      exact h2
/-- Behind a promotion: what was being applied is, the rest falls. -/
def NS.fin (N : NS) (g : GS) : NS := N.steps g 35
def NS.cut4 (N : NS) : NS := { N with st := fun u => if u < 4 then (N.st u).cut else N.st u }
def NS.promote (N : NS) (g : GS) : NS := (N.fin g).cut4
theorem NS.Inv.cut4 (hI : N.Inv c) : N.cut4.Inv c := ⟨hI.im, hI.tc, fun v hv => by
  unfold NS.cut4; dsimp only; rw [if_pos hv]; exact (hI.st v hv).cut, hI.wk⟩
theorem NS.Inv.promote (hI : N.Inv c) (hc : c ≤ 899) (gs : GS) : (N.promote gs).Inv c := (NS.Inv.steps hc gs 35 hI).cut4
theorem fin_mark (hI : N.Inv c) (gs : GS) : (N.fin gs).mark = 0 ∧ (N.fin gs).im.work = none := by
  rcases hI.wk with ⟨h1, h2⟩ | ⟨_, bl, k, h⟩
  · unfold NS.fin; rw [steps_idle gs 35 h2]; exact ⟨h1, h2⟩
  · obtain ⟨S', e⟩ := steps_full gs h (hI.im.ok.bw _ _ _ h).1 35 (by omega)
    unfold NS.fin
    rw [e]
    exact ⟨rfl, rfl⟩
theorem steps_loop (L k : Nat) (hL : 100000 < L) (hc : c ≤ 899) {G : List Nat} {gs : GS} (hGR : G ∈ R) : ∀ (r n : Nat) (σ : St) (F : Nat → List Nat) (N : NS), r < n → N.Inv c → (∀ mk' bl' j, N.im.work = some (mk', bl', j) → 35 - j ≤ r) → NdX σ0 σ nd g m d a F N R → Grp σ g G gs →
    ∃ F' n' σ', lpAt Try.prog env L (k + 9) 17 [true, true, false] [] n [(0, ptr nd)] σ = lpAt Try.prog env L (k + 9) 17 [true, true, false] [] (n' + 1) [(0, ptr nd)] σ' ∧ NdX σ0 σ' nd g m d a F' (N.steps gs r) R ∧ Kp σ σ' R ∧ (N.steps gs r).mark = 0
  | r, 0, σ, F, N, hn, _, _, _, _ => by omega
  | 0, n + 1, σ, F, N, hn, hI, hr, h, hG => by
    rcases hI.wk with ⟨h1, h2⟩ | ⟨_, bl, k, hw⟩
    · exact ⟨F, n, σ, rfl, h, Kp.refl _ _, h1⟩
    · have := hr _ _ _ hw
      have := (hI.im.ok.bw _ _ _ hw).1
      omega
  | r + 1, n + 1, σ, F, N, hn, hI, hr, h, hG => by
    by_cases h0 : N.mark = 0
    · have hw : N.im.work = none := by
        rcases hI.wk with ⟨_, h2⟩ | ⟨h1, _⟩
        · exact h2
        · omega
      refine ⟨F, n, σ, rfl, ?_, Kp.refl _ _, ?_⟩
      · rw [steps_idle gs _ hw]; exact h
      · rw [steps_idle gs _ hw]; exact h0
    · obtain ⟨v, F1, σ1, g1, k1, hor⟩ := nstep_spec L k hL hc h hI hG hGR
      rcases hor with ⟨hx, _⟩ | ⟨bl', j, _, hw, rfl, h1⟩
      · exact absurd hx h0
      have hj := (hI.im.ok.bw _ _ _ hw).1
      have hrj := hr _ _ _ hw
      obtain ⟨F2, n2, σ2, e2, h2, k2, hm2⟩ := steps_loop L k hL hc hGR r n σ1 F1 (N.step gs) (by omega) (hI.step hc gs) (fun mk' bl'' j' hw' => by
        by_cases hj34 : j = 34
        · subst hj34
          rw [step_last gs hw] at hw'
          cases hw'
        · have := (step_work gs hw (by omega)).1
          rw [this] at hw'
          cases hw'
          omega) h1 (hG.moved (fun q hq => k1 G hGR q hq) (h1.lt hGR))
      refine ⟨F2, n2, σ2, ?_, h2, k1.trans k2, hm2⟩
      rw [f17_l3, ld_at h.nd (0 + 7) (.int .i64 N.mark) rfl, asI_i, show (N.mark != 0) = true by simpa using h0, br_true, g1, bnd_some, asT_t, toList2, uncons_c, asB_b, uncons_c, endl_n]
      exact e2
theorem npromote_spec (L k : Nat) (hL : 100000 < L) (hc : c ≤ 899) (h : NdX σ0 σ nd g m d a F N R) (hI : N.Inv c) {G : List Nat} {gs : GS} (hG : Grp σ g G gs) (hGR : G ∈ R) :
    ∃ F' σ', evCall Try.prog env L (k + 10) 17 [ptr nd] σ = some (.int .i64 ((N.fin gs).held : Nat), σ') ∧ NdX σ0 σ' nd g m d a F' (N.promote gs) R ∧ Kp σ σ' R := by
  obtain ⟨F1, n1, σ1, e1, h1, k1, hm⟩ := steps_loop L k hL hc hGR 35 L σ F N (by omega) hI (fun _ _ _ _ => by omega) h hG
  have hI1 : (N.steps gs 35).Inv c := NS.Inv.steps hc gs 35 hI
  obtain ⟨F2, σ2, e2, h2, k2⟩ := cut_loop (a := a) L (k + 8) hc L 0 0 σ1 F1 (N.steps gs 35) (by omega) (by omega) hI1 (by omega) (by omega) h1
  refine ⟨F2, σ2, ?_, ?_, k1.trans k2⟩
  · rw [f17_eq, e1, f17_l3, ld_at h1.nd (0 + 7) (.int .i64 (N.steps gs 35).mark) rfl, asI_i, show ((N.steps gs 35).mark != 0) = false by rw [hm]; rfl, br_false, lds_own (n := 4) _ h1.nd (by simp [ndc])]
    show (uncons [ptr (a 0), ptr (a 1), ptr (a 2), ptr (a 3)] _) = _
    rw [uncons_c, asP_p, uncons_c, asP_p, uncons_c, asP_p, uncons_c, asP_p, endl_n]
    refine e2.trans ?_
    unfold NS.fin NS.held
    simp [List.range, List.range.loop]
    omega
  · have : (fun u => if 0 ≤ u ∧ u < 4 then ((N.steps gs 35).st u).cut else (N.steps gs 35).st u) = fun u => if u < 4 then ((N.steps gs 35).st u).cut else (N.steps gs 35).st u := by funext u; simp
    rw [this] at h2
    exact h2

/-! Image. -/
theorem nimage_spec (L k : Nat) (h : NdX σ0 σ nd g m d a F N R) : ∃ σ', evCall Try.prog env L (k + 2) 13 [ptr nd] σ = some (.tuple #[.agg (strs N.im.bl).toArray, .int .i64 (N.im.km : Nat)], σ') ∧ Same σ σ' [] := by
  rw [f13_eq]
  have s1 : Same σ (σ.new (.own (strs noBlocks) 48)) [] := Same.new _ _ _
  have g1 : (σ.new (.own (strs noBlocks) 48)).get σ.next = some (.own (strs noBlocks) 48) := get_new_same _ _
  have n1 : (σ.new (.own (strs noBlocks) 48)).next = σ.next + 1 := rfl
  have hlit : strs noBlocks = [Value.string ⟨#[]⟩, Value.string ⟨#[]⟩, Value.string ⟨#[]⟩, Value.string ⟨#[]⟩, Value.string ⟨#[]⟩, Value.string ⟨#[]⟩, Value.string ⟨#[]⟩, Value.string ⟨#[]⟩, Value.string ⟨#[]⟩, Value.string ⟨#[]⟩, Value.string ⟨#[]⟩, Value.string ⟨#[]⟩, Value.string ⟨#[]⟩, Value.string ⟨#[]⟩, Value.string ⟨#[]⟩, Value.string ⟨#[]⟩, Value.string ⟨#[]⟩, Value.string ⟨#[]⟩, Value.string ⟨#[]⟩, Value.string ⟨#[]⟩, Value.string ⟨#[]⟩, Value.string ⟨#[]⟩, Value.string ⟨#[]⟩, Value.string ⟨#[]⟩, Value.string ⟨#[]⟩, Value.string ⟨#[]⟩, Value.string ⟨#[]⟩, Value.string ⟨#[]⟩, Value.string ⟨#[]⟩, Value.string ⟨#[]⟩, Value.string ⟨#[]⟩, Value.string ⟨#[]⟩] := rfl
  rw [← hlit]
  generalize σ.new (.own (strs noBlocks) 48) = σ1 at s1 g1 n1
  have h1 := h.idle s1
  obtain ⟨σ2, g2, s2⟩ := blocksS h1.im L k
  have h2 := h1.idle s2
  have g12 : σ2.get σ.next = _ := (s2.2 σ.next (by omega) (by simp)).trans g1
  have hbl := h1.im.blen
  have e1 : (strs N.im.bl).toArray.toList = strs N.im.bl := rfl
  have hput := fun (K : St → Res) => put_all (ws := strs N.im.bl) g12 (by rw [strs_len, hbl]; rfl) (strs_one _) K
  have s3 := Same.set σ2 σ.next (.own (strs N.im.bl) 48)
  have g3 : (σ2.set σ.next (.own (strs N.im.bl) 48)).get σ.next = some (.own (strs N.im.bl) 48) := get_set_same _ _ _
  generalize σ2.set σ.next (.own (strs N.im.bl) 48) = σ3 at hput s3 g3
  rw [ld_at h1.nd 1 (ptr m) rfl, asP_p, g2, bnd_some, asAgL_a, e1, ld_at h2.nd 1 (ptr m) rfl, asP_p, ld_at h1.nd 1 (ptr m) rfl, asP_p, chk_same, markS h2.im L k, bnd_some, asI_i, need_of (by rw [strs_len, hbl]; rfl), hput, lds_all (n := 32) g3 (by rw [strs_len, hbl])]
  exact ⟨σ3, rfl, (s1.trans s2).fresh s3 (fun x hx => .inr (by simp at hx; omega))⟩

/-! Applied. -/
def NS.apl (N : NS) (v : Nat) : Int := (N.st v).first - 1
def apC (N : NS) (v : Nat) : List Value := [.int .i64 (if 0 < v then N.apl 0 else 0), .int .i64 (if 1 < v then N.apl 1 else 0), .int .i64 (if 2 < v then N.apl 2 else 0), .int .i64 (if 3 < v then N.apl 3 else 0)]
theorem apC_set (N : NS) (v : Nat) (hv : v < 4) : (apC N v).set (0 + Int.toNat (v : Int) * 1) (.int .i64 (N.apl v)) = apC N (v + 1) := by
  rcases (by omega : v = 0 ∨ v = 1 ∨ v = 2 ∨ v = 3) with rfl | rfl | rfl | rfl <;> rfl
def NS.apV (N : NS) : Value := .agg #[.int .i64 (N.apl 0), .int .i64 (N.apl 1), .int .i64 (N.apl 2), .int .i64 (N.apl 3)]
theorem napplied_loop (L k : Nat) (h : NdX σ0 σ nd g m d a F N R) (hI : N.Inv c) (hc : c ≤ 899) {t0 t1 : Nat} (ht0 : σ.next ≤ t0) (ht1 : σ.next ≤ t1) (h01 : t0 ≠ t1) : ∀ (n v : Nat) (σ' : St), v ≤ 4 → 4 - v < n → Same σ σ' [] → σ'.get t1 = some (.own (apC N v) 57) → (∃ x, σ'.get t0 = some (.own x 57) ∧ x.length = 4) → t0 < σ'.next → t1 < σ'.next →
    ∃ σ2, lpAt Try.prog env L (k + 1) 19 [true, true, true, false, true] [] n [(2, ptr t0), (3, ptr t1), (12, .agg [ptr (a 0), ptr (a 1), ptr (a 2), ptr (a 3)].toArray), (13, .int .i64 v)] σ' = some (N.apV, σ2) ∧ Same σ σ2 []
  | 0, v, σ', _, hn, _, _, _, _, _ => by omega
  | n + 1, v, σ', hv, hn, hs, g1, ⟨x, g0, hx⟩, l0, l1 => by
    have el := f19_l5 L (k + 1) n σ' t0 0 t1 0 (some ⟨a 0, 0, none⟩) (some ⟨a 1, 0, none⟩) (some ⟨a 2, 0, none⟩) (some ⟨a 3, 0, none⟩) (v : Int)
    by_cases hv4 : v = 4
    · subst hv4
      have hput := fun (K : St → Res) => put_all (ws := apC N 4) g0 (by rw [hx]; rfl) rfl K
      have s3 := Same.set σ' t0 (.own (apC N 4) 57)
      have g3 : (σ'.set t0 (.own (apC N 4) 57)).get t0 = some (.own (apC N 4) 57) := get_set_same _ _ _
      generalize σ'.set t0 (.own (apC N 4) 57) = σ3 at hput s3 g3
      have hA : apC N 4 = [Value.int .i64 (N.apl 0), .int .i64 (N.apl 1), .int .i64 (N.apl 2), .int .i64 (N.apl 3)] := rfl
      rw [hA] at g1 hput g3
      rw [decide_eq_false (by decide), br_false, lds_all (n := 4) g1 rfl, uncons_c, asI_i, uncons_c, asI_i, uncons_c, asI_i, uncons_c, asI_i, endl_n, hput, lds_all (n := 4) g3 rfl, uncons_c, asI_i, uncons_c, asI_i, uncons_c, asI_i, uncons_c, asI_i, endl_n] at el
      exact ⟨σ3, el, hs.fresh s3 (fun x hx => .inr (by simp at hx; omega))⟩
    have hi := hI.st v (by omega)
    have hlen := hi.len
    have hf1 := hi.f1
    have hw : IntKind.wrap .i64 ((v : Int) + 1) = ((v + 1 : Nat) : Int) := by rw [wrap_in _ (by omega) (by omega)]; omega
    have iv : inRange (v : Int) 4 = true := by simp [inRange]; omega
    rw [decide_eq_true (by omega), br_true, need_of iv, show ∀ K : Value → Res, nth [Value.pointer (some ⟨a 0, 0, none⟩), Value.pointer (some ⟨a 1, 0, none⟩), Value.pointer (some ⟨a 2, 0, none⟩), Value.pointer (some ⟨a 3, 0, none⟩)] (Int.toNat (v : Int) * 1) K = K (ptr (a v)) from fun K => ptr_nth a v (by omega) K, asP_p, S.dropped_spec ((h.idle hs).st v (by omega)) L k hf1 (by omega), bnd_some, asT_t, toList2, uncons_c, asI_i, uncons_c, asI_i, endl_n, need_of iv, put_int g1 _ _ _ (by simp [apC]; omega), hw, show (N.st v).first - 1 = N.apl v from rfl, apC_set N v (by omega)] at el
    have s2 := Same.set σ' t1 (.own (apC N (v + 1)) 57)
    obtain ⟨σ3, e3, s3⟩ := napplied_loop L k h hI hc ht0 ht1 h01 n (v + 1) _ (by omega) (by omega) (hs.fresh s2 (fun x hx => .inr (by simp at hx; omega))) (get_set_same _ _ _) ⟨x, (s2.2 t0 l0 (by simpa using h01)).trans g0, hx⟩ (by simpa using l0) (by simpa using l1)
    exact ⟨σ3, el.trans e3, s3⟩
theorem napplied_spec (L k : Nat) (hL : 100000 < L) (h : NdX σ0 σ nd g m d a F N R) (hI : N.Inv c) (hc : c ≤ 899) : ∃ σ', evCall Try.prog env L (k + 2) 19 [ptr nd] σ = some (N.apV, σ') ∧ Same σ σ' [] := by
  rw [f19_eq]
  have s1 : Same σ (σ.new (.own [.int .i64 0, .int .i64 0, .int .i64 0, .int .i64 0] 57)) [] := Same.new _ _ _
  have g1 : (σ.new (.own [.int .i64 0, .int .i64 0, .int .i64 0, .int .i64 0] 57)).get σ.next = some (.own [.int .i64 0, .int .i64 0, .int .i64 0, .int .i64 0] 57) := get_new_same _ _
  have n1 : (σ.new (.own [.int .i64 0, .int .i64 0, .int .i64 0, .int .i64 0] 57)).next = σ.next + 1 := rfl
  generalize σ.new (.own [.int .i64 0, .int .i64 0, .int .i64 0, .int .i64 0] 57) = σ1 at s1 g1 n1
  have s2 : Same σ1 (σ1.new (.own [.int .i64 0, .int .i64 0, .int .i64 0, .int .i64 0] 57)) [] := Same.new _ _ _
  have g2 : (σ1.new (.own [.int .i64 0, .int .i64 0, .int .i64 0, .int .i64 0] 57)).get σ1.next = some (.own [.int .i64 0, .int .i64 0, .int .i64 0, .int .i64 0] 57) := get_new_same _ _
  have n2 : (σ1.new (.own [.int .i64 0, .int .i64 0, .int .i64 0, .int .i64 0] 57)).next = σ1.next + 1 := rfl
  generalize σ1.new (.own [.int .i64 0, .int .i64 0, .int .i64 0, .int .i64 0] 57) = σ2 at s2 g2 n2
  have s02 := s1.trans s2
  rw [lds_own (n := 4) _ (h.idle s02).nd (by simp [ndc])]
  show ∃ σ', (uncons [ptr (a 0), ptr (a 1), ptr (a 2), ptr (a 3)] _) = _ ∧ _
  rw [uncons_c, asP_p, uncons_c, asP_p, uncons_c, asP_p, uncons_c, asP_p, endl_n]
  obtain ⟨σ3, e3, s3⟩ := napplied_loop L k h hI hc (t0 := σ.next) (t1 := σ1.next) (by omega) (by omega) (by omega) L 0 σ2 (by omega) (by omega) s02 g2 ⟨_, (s2.2 σ.next (by omega) (by simp)).trans g1, rfl⟩ (by omega) (by omega)
  exact ⟨σ3, e3, s3⟩
end
end Go.AM.Bp

/-
  THE GROUP, made of a list; the backup, made on a fresh disk.
-/
namespace Go.AM.Bp
open Go.Proofs

/-! A group of a list. -/
def OkG (l : List Int) : Prop := (∀ v ∈ l, 0 ≤ v ∧ v < 4) ∧ l.Nodup
def gOf (l : List Int) : GS := ⟨fun v => decide ((v : Int) ∈ l), []⟩
theorem wrong44 (L k : Nat) (σ : St) (at_ e : Int) (he : e ≠ 0) : ∃ v σ', evCall Try.prog env L (k + 2) 25 [.int .i64 at_, .int .i64 e] σ = some (v, σ') ∧ Same σ σ' [] := by
  rw [f25_eq, f45_eq, eqNil_iface, br_false]
  have hb : ∀ K : Res, eqErr (.iface 74 (.int .i64 e)) 74 .i64 0 (fun v2 => br v2 (some (Value.nilIface, σ)) K) = K := by
    intro K
    have : eqErr (.iface 74 (.int .i64 e)) 74 .i64 0 (fun v2 => br v2 (some (Value.nilIface, σ)) K) = br (e == 0) (some (Value.nilIface, σ)) K := by simp [eqErr]
    rw [this, show (e == 0) = false by simpa using he, br_false]
  rw [hb, need_true, need_of (show oneCell (Value.iface 74 (Value.int .i64 e)) = true from rfl), need_true, bnd_some]
  exact ⟨_, _, rfl, Same.new _ _ _⟩
theorem there43 (L k : Nat) (σ : St) (v : Int) : evCall Try.prog env L (k + 1) 24 [.int .i64 v] σ = some (.bool (decide (0 ≤ v ∧ v < 4)), σ) := by
  rw [f24_eq]
  by_cases h : v ≥ 0
  · rw [decide_eq_true h, br_true]
    by_cases h4 : v < 4
    · rw [decide_eq_true h4, decide_eq_true ⟨h, h4⟩]
    · rw [decide_eq_false h4, decide_eq_false (fun hx => h4 hx.2)]
  · rw [decide_eq_false h, br_false, decide_eq_false (fun hx => h hx.1)]
theorem gnew_loop (L k : Nat) {σ0 σ1 : St} {ad : Option Addr} {l : List Int} {z : Nat} (hl : l.length ≤ 1000) (hH : Holds σ0 1 c1 ad l) (h01 : σ0.next ≤ σ1.next) {g : Nat} (hg0 : σ1.next ≤ g) : ∀ (n i : Nat) (σ : St), i ≤ l.length → l.length - i < n → Same σ1 σ [] → Kept' σ0.next σ0 σ → σ.get g = some (.own (bv (gOf (l.take i)).f ++ [.slice none 0 0]) 71) → g < σ.next → OkG (l.take i) →
    (∃ e σ', ¬ OkG l ∧ lpAt Try.prog env L (k + 2) 7 [true, true, false, true] [] n [(4, ptr g), (9, .slice ad l.length z), (10, .int .i64 l.length), (11, .int .i64 i)] σ = some (.tuple #[.pointer none, e], σ') ∧ Same σ1 σ' []) ∨
    (∃ σ', OkG l ∧ lpAt Try.prog env L (k + 2) 7 [true, true, false, true] [] n [(4, ptr g), (9, .slice ad l.length z), (10, .int .i64 l.length), (11, .int .i64 i)] σ = some (.tuple #[ptr g, .nilIface], σ') ∧ σ'.get g = some (.own (bv (gOf l).f ++ [.slice none 0 0]) 71) ∧ Same σ1 σ' [] ∧ g < σ'.next)
  | 0, i, σ, _, hn, _, _, _, _, _ => by omega
  | n + 1, i, σ, hi, hn, hs, hk, hg, hgl, hok => by
    rw [f7_l3]
    by_cases hie : i = l.length
    · subst hie
      rw [List.take_length] at hg hok
      rw [decide_eq_false (by omega), br_false]
      exact .inr ⟨σ, hok, rfl, hg, hs, hgl⟩
    have hget : l[i]? = some l[i] := List.getElem?_eq_getElem (by omega)
    have htk : l.take (i + 1) = l.take i ++ [l[i]] := by rw [List.take_add_one, hget]; rfl
    have hdr : l = l.take i ++ l[i] :: l.drop (i + 1) := by rw [← List.drop_eq_getElem_cons (by omega), List.take_append_drop]
    obtain ⟨q, e, hat⟩ := hH.ld hk hget
    generalize l[i] = v at *
    have hw : IntKind.wrap .i64 ((i : Int) + 1) = ((i + 1 : Nat) : Int) := by rw [wrap_in _ (by omega) (by omega)]; omega
    subst e
    rw [decide_eq_true (by omega), br_true, need_of (by simp [inRange]; omega), adr_some, hat 0 (.int .i64 v) _ (by omega) rfl (by simp), asI_i, there43 L (k + 1), bnd_some, asB_b]
    by_cases hv : 0 ≤ v ∧ v < 4
    rotate_left
    · obtain ⟨e, σ2, g2, s2⟩ := wrong44 L k σ v 5 (by decide)
      rw [decide_eq_false hv, not_false, br_true, g2, bnd_some]
      refine .inl ⟨e, σ2, fun h => hv (h.1 v (by rw [hdr]; simp)), rfl, hs.trans s2⟩
    obtain ⟨u, hu⟩ : ∃ u : Nat, v = u := ⟨v.toNat, by omega⟩
    subst hu
    have hu4 : u < 4 := by omega
    rw [decide_eq_true hv, not_true, br_false, need_of (by simp [inRange]; omega), ld_at hg (0 + 0 + Int.toNat (u : Int) * 1) (.bool (decide ((u : Int) ∈ l.take i))) (by
      rcases (by omega : u = 0 ∨ u = 1 ∨ u = 2 ∨ u = 3) with rfl | rfl | rfl | rfl <;> rfl), asB_b]
    by_cases hm : (u : Int) ∈ l.take i
    · obtain ⟨e, σ2, g2, s2⟩ := wrong44 L k σ u 1 (by decide)
      rw [decide_eq_true hm, br_true, g2, bnd_some]
      refine .inl ⟨e, σ2, fun h => ?_, rfl, hs.trans s2⟩
      have hn := h.2
      rw [hdr, List.nodup_append] at hn
      exact hn.2.2 _ hm _ (by simp) rfl
    · rw [decide_eq_false hm, br_false, need_of (by simp [inRange]; omega), put_bool hg _ _ (by simp [bv]; omega), hw]
      have hset : (bv (gOf (l.take i)).f ++ [Value.slice none 0 0]).set (0 + 0 + Int.toNat (u : Int) * 1) (.bool true) = bv (gOf (l.take (i + 1))).f ++ [.slice none 0 0] := by
        rw [htk]
        unfold gOf bv
        dsimp only
        have hd : ∀ x : Nat, decide ((x : Int) ∈ l.take i ++ [(u : Int)]) = if x = u then true else decide ((x : Int) ∈ l.take i) := fun x => by
          by_cases hx : x = u
          · subst hx; simp
          · have : ¬ (x : Int) = (u : Int) := by omega
            simp [hx, this]
        rw [hd, hd, hd, hd]
        rcases (by omega : u = 0 ∨ u = 1 ∨ u = 2 ∨ u = 3) with rfl | rfl | rfl | rfl <;> rfl
      rw [hset]
      have s2 := Same.set σ g (.own (bv (gOf (l.take (i + 1))).f ++ [.slice none 0 0]) 71)
      have s12 : Same σ1 _ [] := hs.fresh s2 (fun x hx => .inr (by simp at hx; omega))
      refine gnew_loop L k hl hH h01 hg0 n (i + 1) _ (by omega) (by omega) s12 ?_ (get_set_same _ _ _) (by simpa using hgl) ?_
      · refine hk.step s2 (fun x hx => ?_)
        simp at hx
        subst hx
        have := hk.1
        have h1 := hs.1
        exact Nat.le_trans h01 hg0
      · rw [htk]
        refine ⟨fun x hx => ?_, ?_⟩
        · rcases List.mem_append.1 hx with hx | hx
          · exact hok.1 x hx
          · simp at hx; subst hx; exact hv
        · rw [List.nodup_append]
          exact ⟨hok.2, by simp, fun x hx y hy => by simp at hy; subst hy; rintro rfl; exact hm hx⟩
theorem gnew_spec (L k : Nat) (hL : 100000 < L) {σ0 σ : St} (hk : Kept' σ0.next σ0 σ) {ad : Option Addr} {l : List Int} (z : Nat) (hl : l.length ≤ 1000) (hH : Holds σ0 1 c1 ad l) :
    (∃ e σ', ¬ OkG l ∧ evCall Try.prog env L (k + 3) 7 [.slice ad l.length z] σ = some (.tuple #[.pointer none, e], σ') ∧ Same σ σ' []) ∨
    (∃ g σ', OkG l ∧ evCall Try.prog env L (k + 3) 7 [.slice ad l.length z] σ = some (.tuple #[ptr g, .nilIface], σ') ∧ Grp σ' g [g] (gOf l) ∧ Same σ σ' [] ∧ σ.next ≤ g) := by
  rw [f7_eq]
  have s1 : Same σ (σ.new (.own [.bool false, .bool false, .bool false, .bool false, .slice none 0 0] 71)) [] := Same.new _ _ _
  have g1 : (σ.new (.own [.bool false, .bool false, .bool false, .bool false, .slice none 0 0] 71)).get σ.next = some (.own [.bool false, .bool false, .bool false, .bool false, .slice none 0 0] 71) := get_new_same _ _
  have n1 : (σ.new (.own [.bool false, .bool false, .bool false, .bool false, .slice none 0 0] 71)).next = σ.next + 1 := rfl
  generalize σ.new (.own [.bool false, .bool false, .bool false, .bool false, .slice none 0 0] 71) = σ1 at s1 g1 n1
  rcases gnew_loop (z := z) L k hl hH hk.1 (g := σ.next) (Nat.le_refl _) L 0 σ1 (by omega) (by omega) s1 (hk.step s1 (by simp)) (by rw [List.take_zero]; exact g1) (by omega) ⟨by simp, by simp⟩ with ⟨e, σ2, hno, e2, s2⟩ | ⟨σ2, hok, e2, g2, s2, l2⟩
  · exact .inl ⟨e, σ2, hno, e2, s2⟩
  · exact .inr ⟨σ.next, σ2, hok, e2, ⟨⟨none, 0, [], rfl, by simp, g2, Row.nil _ _ _ _⟩, by simpa using l2, by simp [gOf], by simp [gOf]⟩, s2, Nat.le_refl _⟩
theorem gOf_at {l : List Int} (h : OkG l) (m : Int) (v : Nat) : v ∈ (gOf l).at_ m ↔ (v : Int) ∈ l := by
  unfold GS.at_ GS.has gOf beh
  simp only [List.take_nil, List.foldl_nil, List.mem_filter, List.mem_range, decide_eq_true_eq]
  exact ⟨fun h => h.2, fun hx => ⟨by have := h.1 _ hx; omega, hx⟩⟩

/-! A backup on a fresh disk. -/
theorem nnew_spec (L k : Nat) (hL : 100000 < L) {σ0 σ : St} {d g : Nat} {F : List Nat} {R : List (List Nat)} (hD : D.Disk σ d F fresh66 []) (hO : Owns σ0 σ (F :: R)) :
    ∃ nd m a F' σ', evCall Try.prog env L (k + 11) 8 [ptr d, ptr g] σ = some (.tuple #[ptr nd, .nilIface], σ') ∧ NdX σ0 σ' nd g m d a F' newN R ∧ Kp σ σ' R := by
  obtain ⟨nd, m, a0, a1, a2, a3, σ', e, hI, hn, h0, h1, h2, h3, hk⟩ := bnew_spec L k hL (g := g) hD hO
  refine ⟨nd, m, fun v => if v = 0 then a0 else if v = 1 then a1 else if v = 2 then a2 else a3, fun v => [if v = 0 then a0 else if v = 1 then a1 else if v = 2 then a2 else a3], σ', e, ⟨?_, hn, ?_⟩, hk⟩
  · refine hI.perm (fun i => if i < 4 then 3 - i else i) (fun i j e => ?_) (fun i H hH => ?_)
    · by_cases h1 : i < 4 <;> by_cases h2 : j < 4 <;> simp [h1, h2] at e <;> omega
    · match i, hH with
      | 0, hH => exact hH
      | 1, hH => exact hH
      | 2, hH => exact hH
      | 3, hH => exact hH
      | i + 4, hH => exact hH
  · exact four h0 h1 h2 h3
end Go.AM.Bp

/-
  A GROUP of a list, and its backup on a fresh disk: how the laws begin.
-/
namespace Go.AM.Bp
open Go.Proofs

theorem begun (L k : Nat) (hL : 100000 < L) {σ0 σ : St} (hs : Same σ0 σ []) {ad : Option Addr} {l : List Int} (z : Nat) (hl : l.length ≤ 1000) (hH : Holds σ0 1 c1 ad l) :
    (∃ e σ', ¬ OkG l ∧ evCall Try.prog env L (k + 12) 7 [.slice ad l.length z] σ = some (.tuple #[.pointer none, e], σ') ∧ Same σ σ' []) ∨
    (∃ g σ1 d σ2 nd m a F σ3, OkG l ∧ evCall Try.prog env L (k + 12) 7 [.slice ad l.length z] σ = some (.tuple #[ptr g, .nilIface], σ1) ∧ evCall Try.prog env L (k + 12) 9 [.int .i64 66] σ1 = some (ptr d, σ2) ∧
      evCall Try.prog env L (k + 12) 8 [ptr d, ptr g] σ2 = some (.tuple #[ptr nd, .nilIface], σ3) ∧ NdX σ0 σ3 nd g m d a F newN [[g]] ∧ Grp σ3 g [g] (gOf l)) := by
  have hk : Kept' σ0.next σ0 σ := ⟨hs.1, fun k hk => hs.2 k hk (by simp)⟩
  rcases gnew_spec L (k + 9) hL hk z hl hH with ⟨e, σ1, hno, e1, s1⟩ | ⟨g, σ1, hok, e1, hG, s1, hg⟩
  · exact .inl ⟨e, σ1, hno, e1, s1⟩
  have hO1 : Owns σ0 σ1 [[g]] := ((Owns.start σ0).idle hs).more s1 (fun q hq => by have := hG.lt q hq; simp at hq; subst hq; omega)
  obtain ⟨d, F, σ2, e2, hD2, hO2, s2⟩ := new66 L (k + 11) hO1
  obtain ⟨nd, m, a, F', σ3, e3, h3, k3⟩ := nnew_spec L (k + 1) hL (g := g) hD2 hO2
  exact .inr ⟨g, σ1, d, σ2, nd, m, a, F', σ3, hok, e1, e2, e3, h3, (hG.idle s2).moved (fun q hq => k3 [g] (by simp) q hq) (h3.lt (by simp))⟩
end Go.AM.Bp

/-
  THE LAWS' CALLS, as they come; few.
-/
namespace Go.AM.Bp
open Go.Proofs

/-- A call. -/
structure OpB where
  kind : Int
  v : Int
  n : Int
  r : S.Rec
  keep : Int
  next : Bool
def c10 (o : OpB) : List Value := [.int .i64 o.kind, .int .i64 o.v, .int .i64 o.n, .int .i64 o.r.seq, .int .i64 o.r.kind, .int .i64 o.r.block, .string o.r.data, .int .i64 o.r.number, .int .u64 o.keep, .bool o.next]
theorem c10_len (o : OpB) : (c10 o).length = 10 := rfl
theorem few_loop (L k : Nat) {σ0 σ : St} (hk : Kept' σ0.next σ0 σ) {ad : Option Addr} {l : List OpB} (z : Nat) (hl : l.length ≤ 1000) (hH : Holds σ0 10 c10 ad l) : ∀ (n i : Nat), i ≤ l.length → l.length - i < n →
    ∃ b, lpAt Try.prog env L k 20 [true, true, false, true] [] n [(0, .slice ad l.length z), (8, .int .i64 l.length), (9, .int .i64 i)] σ = some (.bool b, σ)
  | 0, i, _, hn => by omega
  | n + 1, i, hi, hn => by
    rw [f20_l4]
    by_cases hie : i = l.length
    · rw [decide_eq_false (by omega), br_false]; exact ⟨true, rfl⟩
    have hget : l[i]? = some l[i] := List.getElem?_eq_getElem (by omega)
    obtain ⟨q, e, hat⟩ := hH.ld hk hget
    subst e
    have hw : IntKind.wrap .i64 ((i : Int) + 1) = ((i + 1 : Nat) : Int) := by rw [wrap_in _ (by omega) (by omega)]; omega
    rw [decide_eq_true (by omega), br_true, need_of (by simp [inRange]; omega), adr_some, hat 6 (.string l[i].r.data) _ (by omega) rfl (by simp), asS_s, hw]
    by_cases h : ((l[i].r.data.size : Nat) : Int) > 100
    · rw [decide_eq_true h, br_true]; exact ⟨false, rfl⟩
    · rw [decide_eq_false h, br_false]; exact few_loop L k hk z hl hH n (i + 1) (by omega) (by omega)
theorem few_spec80 (L k : Nat) (hL : 100000 < L) {σ0 σ : St} (hk : Kept' σ0.next σ0 σ) {ad : Option Addr} {l : List OpB} (z : Nat) (hH : Holds σ0 10 c10 ad l) :
    ∃ b, evCall Try.prog env L (k + 1) 20 [.slice ad l.length z] σ = some (.bool b, σ) ∧ (b = true → l.length ≤ 80) := by
  rw [f20_eq]
  by_cases h : ((l.length : Nat) : Int) > 80
  · rw [decide_eq_true h, br_true]; exact ⟨false, rfl, fun h => by cases h⟩
  · rw [decide_eq_false h, br_false]
    obtain ⟨b, e⟩ := few_loop L k hk z (by omega) hH L 0 (by omega) (by omega)
    exact ⟨b, e, fun _ => by omega⟩
end Go.AM.Bp

/-
  FOUR LISTS of records, in one slice.
-/
namespace Go.AM.Bp
open Go.Proofs

def lsB (p : Nat) (q : Nat → List Nat) : List Nat := p :: (q 0 ++ q 1 ++ q 2 ++ q 3)
theorem mem_lsB {p x : Nat} {q : Nat → List Nat} : x ∈ lsB p q ↔ x = p ∨ ∃ v, v < 4 ∧ x ∈ q v := by
  unfold lsB
  simp only [List.mem_cons, List.mem_append]
  constructor
  · rintro (h | ((h | h) | h) | h)
    · exact .inl h
    · exact .inr ⟨0, by omega, h⟩
    · exact .inr ⟨1, by omega, h⟩
    · exact .inr ⟨2, by omega, h⟩
    · exact .inr ⟨3, by omega, h⟩
  · rintro (h | ⟨v, hv, h⟩)
    · exact .inl h
    · rcases (by omega : v = 0 ∨ v = 1 ∨ v = 2 ∨ v = 3) with rfl | rfl | rfl | rfl
      · exact .inr (.inl (.inl (.inl h)))
      · exact .inr (.inl (.inl (.inr h)))
      · exact .inr (.inl (.inr h))
      · exact .inr (.inr h)
def lsc (ad : Nat → Option Addr) (z : Nat → Nat) (ls : Nat → List S.Rec) : List Value := [.slice (ad 0) (ls 0).length (z 0), .slice (ad 1) (ls 1).length (z 1), .slice (ad 2) (ls 2).length (z 2), .slice (ad 3) (ls 3).length (z 3)]
structure Ls (σ : St) (p : Nat) (ad : Nat → Option Addr) (z : Nat → Nat) (q : Nat → List Nat) (ls : Nat → List S.Rec) : Prop where
  ex : σ.get p = some (.own (lsc ad z ls) 38)
  row : ∀ v, v < 4 → Row S.c5 5 40 σ (ad v) (z v) (q v) (ls v)
  pq : ∀ v, v < 4 → p ∉ q v
  dis : ∀ u v, u < 4 → v < 4 → u ≠ v → ∀ x ∈ q u, x ∉ q v
  lt : p < σ.next
theorem Ls.ltB {σ : St} {p : Nat} {ad : Nat → Option Addr} {z : Nat → Nat} {q : Nat → List Nat} {ls : Nat → List S.Rec} (h : Ls σ p ad z q ls) : ∀ x ∈ lsB p q, x < σ.next := fun x hx => by
  rcases mem_lsB.1 hx with rfl | ⟨v, hv, hx⟩
  · exact h.lt
  · exact (h.row v hv).lt x hx
theorem Ls.moved {σ σ' : St} {p : Nat} {ad : Nat → Option Addr} {z : Nat → Nat} {q : Nat → List Nat} {ls : Nat → List S.Rec} (h : Ls σ p ad z q ls) (hs : ∀ x ∈ lsB p q, σ'.get x = σ.get x) (hl : ∀ x ∈ lsB p q, x < σ'.next) : Ls σ' p ad z q ls :=
  ⟨(hs p (mem_lsB.2 (.inl rfl))).trans h.ex, fun v hv => (h.row v hv).moved (fun x hx => hs x (mem_lsB.2 (.inr ⟨v, hv, hx⟩))) (fun x hx => hl x (mem_lsB.2 (.inr ⟨v, hv, hx⟩))), h.pq, h.dis, hl p (mem_lsB.2 (.inl rfl))⟩
theorem Ls.same {σ σ' : St} {T : List Nat} {p : Nat} {ad : Nat → Option Addr} {z : Nat → Nat} {q : Nat → List Nat} {ls : Nat → List S.Rec} (h : Ls σ p ad z q ls) (hs : Same σ σ' T) (hS : ∀ x ∈ lsB p q, x ∉ T) : Ls σ' p ad z q ls :=
  h.moved (fun x hx => hs.2 x (h.ltB x hx) (hS x hx)) (fun x hx => by have := h.ltB x hx; have := hs.1; omega)
theorem Ls.idle {σ σ' : St} {p : Nat} {ad : Nat → Option Addr} {z : Nat → Nat} {q : Nat → List Nat} {ls : Nat → List S.Rec} (h : Ls σ p ad z q ls) (hs : Same σ σ' []) : Ls σ' p ad z q ls := h.same hs (by simp)
section
variable {σ : St} {p : Nat} {ad : Nat → Option Addr} {z : Nat → Nat} {q : Nat → List Nat} {ls : Nat → List S.Rec} (h : Ls σ p ad z q ls)
include h
theorem Ls.cell (v : Nat) (hv : v < 4) (K : Value → Res) : σ.ld p (0 + Int.toNat (v : Int) * 1) K = K (.slice (ad v) (ls v).length (z v)) :=
  ld_at h.ex _ _ (by rcases (by omega : v = 0 ∨ v = 1 ∨ v = 2 ∨ v = 3) with rfl | rfl | rfl | rfl <;> rfl) K
/-- One more. -/
theorem Ls.app (v : Nat) (hv : v < 4) (r : S.Rec) (hl : (ls v).length ≤ 1000) : ∃ ad' z' q' σ1 σ2, (∀ K, grow 40 5 48 (ad v) (ls v).length (z v) 1 (S.c5 r) σ K = K ad' ((ls v).length + 1) z' σ1) ∧ (∀ K : St → Res, σ1.put p (0 + Int.toNat (v : Int) * 1) [.slice ad' ((ls v).length + 1) z'] K = K σ2) ∧
    Ls σ2 p (upd ad v ad') (upd z v z') (upd q v q') (upd ls v (ls v ++ [r])) ∧ Turn σ σ2 (lsB p q) (lsB p (upd q v q')) ∧ Same σ σ1 (q v) := by
  have hR := h.row v hv
  obtain ⟨ad', z', q', σ1, hg, hR1, s1, hq'⟩ := grow_row (by_ := 48) hR S.c5_len S.c5_one (by omega) [r] (S.c5 r) (by simp) 1 rfl (by unfold roomTop; omega) (by unfold sizeTop; omega)
  have h1 : σ1.get p = some (.own (lsc ad z ls) 38) := (s1.2 p h.lt (h.pq v hv)).trans h.ex
  have hset : (lsc ad z ls).set (0 + Int.toNat (v : Int) * 1) (.slice ad' ((ls v).length + 1) z') = lsc (upd ad v ad') (upd z v z') (upd ls v (ls v ++ [r])) := by
    rcases (by omega : v = 0 ∨ v = 1 ∨ v = 2 ∨ v = 3) with rfl | rfl | rfl | rfl <;> simp [lsc, upd]
  have s2 := Same.set σ1 p (.own ((lsc ad z ls).set (0 + Int.toNat (v : Int) * 1) (.slice ad' ((ls v).length + 1) z')) 38)
  have n1 := s1.1
  have n2 : (σ1.set p (.own ((lsc ad z ls).set (0 + Int.toNat (v : Int) * 1) (.slice ad' ((ls v).length + 1) z')) 38)).next = σ1.next := rfl
  have hlt := h.lt
  have hpq' : p ∉ q' := fun hx => by
    rcases hq' p hx with h1 | h1
    · exact h.pq v hv h1
    · omega
  have hnew : ∀ x ∈ q', ∀ u, u < 4 → u ≠ v → x ∉ q u := fun x hx u hu hne hxu => by
    rcases hq' x hx with h1 | h1
    · exact h.dis v u hv hu (by omega) x h1 hxu
    · have := (h.row u hu).lt x hxu; omega
  refine ⟨ad', z', q', σ1, _, hg, fun K => put_sl h1 _ _ _ _ (by simp [lsc]; omega) K, ⟨by rw [get_set_same, hset], fun u hu => ?_, fun u hu => ?_, fun u w hu hw hne x hx => ?_, by omega⟩, ⟨⟨by omega, fun x hx hxB => ?_⟩, fun x hx => ?_⟩, s1⟩
  · by_cases e : u = v
    · subst e
      rw [upd_same, upd_same, upd_same, upd_same]
      exact hR1.same s2 (fun x hx => by simp; rintro rfl; exact hpq' hx)
    · rw [upd_ne _ _ e, upd_ne _ _ e, upd_ne _ _ e, upd_ne _ _ e]
      exact ((h.row u hu).same s1 (h.dis u v hu hv e)).same s2 (fun x hx => by simp; rintro rfl; exact h.pq u hu hx)
  · by_cases e : u = v
    · subst e; rw [upd_same]; exact hpq'
    · rw [upd_ne _ _ e]; exact h.pq u hu
  · by_cases e : u = v
    · subst e
      rw [upd_same] at hx
      rw [upd_ne _ _ (by omega)]
      exact hnew x hx w hw (by omega)
    · rw [upd_ne _ _ e] at hx
      by_cases e2 : w = v
      · subst e2; rw [upd_same]; exact fun hx' => hnew x hx' u hu e hx
      · rw [upd_ne _ _ e2]; exact h.dis u w hu hw hne x hx
  · rw [s2.2 x (by omega) (fun h0 => hxB (mem_lsB.2 (.inl (by simpa using h0)))), s1.2 x hx (fun h0 => hxB (mem_lsB.2 (.inr ⟨v, hv, h0⟩)))]
  · rcases mem_lsB.1 hx with rfl | ⟨u, hu, hx⟩
    · exact ⟨.inl (mem_lsB.2 (.inl rfl)), by omega⟩
    · by_cases e : u = v
      · subst e
        rw [upd_same] at hx
        refine ⟨?_, by have := hR1.lt x hx; omega⟩
        rcases hq' x hx with h1 | h1
        · exact .inl (mem_lsB.2 (.inr ⟨u, hu, h1⟩))
        · exact .inr h1
      · rw [upd_ne _ _ e] at hx
        exact ⟨.inl (mem_lsB.2 (.inr ⟨u, hu, hx⟩)), by have := (h.row u hu).lt x hx; omega⟩
end
/-- None yet. -/
theorem Ls.fresh {σ : St} {p : Nat} (h : σ.get p = some (.own [.slice none 0 0, .slice none 0 0, .slice none 0 0, .slice none 0 0] 38)) (hl : p < σ.next) : Ls σ p (fun _ => none) (fun _ => 0) (fun _ => []) (fun _ => []) :=
  ⟨h, fun v _ => Row.nil _ _ _ _, by simp, by simp, hl⟩

/-! ### Plain: what all make, one record behind the other -/
theorem replay_set {v : Nat} : ∀ (rs : List S.Rec) (b : List ByteArray) (p : Nat) (s : ByteArray), (p < 8 * v ∨ 8 * v + 8 ≤ p) → (∀ r ∈ rs, S.Can r) → replay (b.set p s) v rs = (replay b v rs).set p s
  | [], b, p, s, _, _ => rfl
  | r :: rs, b, p, s, hp, hc => by
    unfold replay
    rw [List.foldl_cons, List.foldl_cons]
    have ih := fun b => replay_set (v := v) rs b p s hp (fun x hx => hc x (by simp [hx]))
    unfold replay at ih
    split
    · rename_i hk
      obtain ⟨_, h1 | h1⟩ := hc r (by simp)
      · rw [List.set_comm _ _ (by omega), ih]
      · omega
    · rw [ih]
/-- All lists' records, list by list. -/
def layAll (ls : Nat → List S.Rec) (l : List Nat) (b : List ByteArray) : List ByteArray := l.foldl (fun b v => replay b v (ls v)) b
theorem layAll_len (ls : Nat → List S.Rec) : ∀ (l : List Nat) (b : List ByteArray), (layAll ls l b).length = b.length
  | [], b => rfl
  | v :: l, b => by unfold layAll; rw [List.foldl_cons]; exact (layAll_len ls l _).trans (replay_len _ _ _)
theorem layAll_set {ls : Nat → List S.Rec} (hc : ∀ v, ∀ r ∈ ls v, S.Can r) : ∀ (l : List Nat) (b : List ByteArray) (v : Nat) (x : Nat) (s : ByteArray), v ∉ l → x < 8 → layAll ls l (b.set (8 * v + x) s) = (layAll ls l b).set (8 * v + x) s
  | [], b, v, x, s, _, _ => rfl
  | u :: l, b, v, x, s, hv, hx => by
    unfold layAll
    rw [List.foldl_cons, List.foldl_cons, replay_set _ _ _ _ (by have : v ≠ u := fun h => hv (by simp [h]); omega) (hc u)]
    exact layAll_set hc l _ v x s (fun h => hv (by simp [h])) hx
theorem layAll_upd {ls : Nat → List S.Rec} (v : Nat) (x : List S.Rec) : ∀ (l : List Nat) (b : List ByteArray), v ∉ l → layAll (upd ls v x) l b = layAll ls l b
  | [], b, _ => rfl
  | u :: l, b, hv => by
    unfold layAll
    rw [List.foldl_cons, List.foldl_cons, upd_ne _ _ (fun h => hv (by simp [h]))]
    exact layAll_upd v x l _ (fun h => hv (by simp [h]))
theorem layAll_app {ls : Nat → List S.Rec} (hc : ∀ v, ∀ r ∈ ls v, S.Can r) {v : Nat} {r : S.Rec} (hr : S.Can r) : ∀ (l : List Nat) (b : List ByteArray), v ∈ l → l.Nodup → layAll (upd ls v (ls v ++ [r])) l b = if r.kind = 1 then (layAll ls l b).set (8 * v + r.block.toNat) r.data else layAll ls l b
  | u :: l, b, hv, hn => by
    rw [List.nodup_cons] at hn
    have hb8 : r.kind = 1 → r.block.toNat < 8 := fun hk => by
      obtain ⟨_, h1 | h1⟩ := hr
      · omega
      · omega
    unfold layAll
    rw [List.foldl_cons, List.foldl_cons]
    by_cases e : u = v
    · subst e
      rw [upd_same]
      have h1 := layAll_upd (ls := ls) u (ls u ++ [r]) l (replay b u (ls u ++ [r])) hn.1
      unfold layAll at h1
      rw [h1]
      have h2 : replay b u (ls u ++ [r]) = if r.kind = 1 then (replay b u (ls u)).set (8 * u + r.block.toNat) r.data else replay b u (ls u) := replay_snoc b u (ls u) r
      rw [h2]
      split
      · rename_i hk
        exact layAll_set hc l _ u _ _ hn.1 (hb8 hk)
      · rfl
    · rw [upd_ne _ _ e]
      have hv' : v ∈ l := by
        rcases List.mem_cons.1 hv with h | h
        · exact absurd h.symm e
        · exact h
      exact layAll_app hc hr l _ hv' hn.2
end Go.AM.Bp

/-
  THE DOCUMENT'S DISK, call by call.
-/
namespace Go.AM.Bp.D
open Go.Proofs

theorem fdiv_pow (x i : Nat) : Int.fdiv (x : Int) (2 ^ i) = ((x / 2 ^ i : Nat) : Int) := by
  rw [show ((2 : Int) ^ i) = ((2 ^ i : Nat) : Int) by simp]
  exact (Int.ofNat_fdiv x (2 ^ i)).symm
theorem and_one (x : Nat) (hx : x < 18446744073709551616) : ibit .and .u64 (x : Int) 1 = ((x % 2 : Nat) : Int) := by
  unfold ibit
  simp only
  rw [show IntKind.bits .u64 = 64 from rfl, show BitVec.ofInt 64 (x : Int) = BitVec.ofNat 64 x from BitVec.ofInt_natCast 64 x, show BitVec.ofInt 64 1 = BitVec.ofNat 64 1 from rfl, BitVec.toNat_and, BitVec.toNat_ofNat, BitVec.toNat_ofNat]
  rw [Nat.mod_eq_of_lt (show x < 2 ^ 64 by omega), show (1 % 2 ^ 64 : Nat) = 1 from rfl, Nat.and_one_is_mod]
  rw [show ∀ y : Int, IntKind.wrap .u64 y = y % 18446744073709551616 from fun _ => rfl]
  omega
theorem shr_lt (x i : Nat) (hx : x < 18446744073709551616) : x / 2 ^ i < 18446744073709551616 := Nat.lt_of_le_of_lt (Nat.div_le_self _ _) hx
def str (s : Sec) : ByteArray := ⟨s.1.toArray⟩
def rs (s : Sec) : List Value := [.string (str s)]
def rw2 (w : Lw) : List Value := [.int .i64 w.at_, .string (str w.b)]
theorem rs_len (s : Sec) : (rs s).length = 1 := rfl
theorem rs_one (s : Sec) : (rs s).all oneCell = true := rfl
theorem rw2_len (w : Lw) : (rw2 w).length = 2 := rfl
theorem rw2_one (w : Lw) : (rw2 w).all oneCell = true := rfl

section
end

/-! What is laid. -/
theorem bit_eq (x j : Nat) (hx : x < 18446744073709551616) : (Int.tmod (Int.fdiv (x : Int) (2 ^ min (Int.toNat (IntKind.wrap .u64 (Int.tmod (j : Int) 64))) 64)) 2 == 1) = bit (x : Int) j := by
  unfold bit
  rw [show Int.tmod (j : Int) 64 = ((j % 64 : Nat) : Int) from rfl, show IntKind.wrap .u64 ((j % 64 : Nat) : Int) = ((j % 64 : Nat) : Int) by rw [show ∀ y : Int, IntKind.wrap .u64 y = y % 18446744073709551616 from fun _ => rfl]; omega, Int.toNat_natCast, fdiv_pow, and_one _ (shr_lt x _ hx)]
  rfl
end Go.AM.Bp.D

/-
  THE DOCUMENT'S IMAGE: Open.
-/
namespace Go.AM.Bp
open Go.Proofs

theorem cS_len (s : ByteArray) : (cS s).length = 1 := rfl
theorem cS_one (s : ByteArray) : (cS s).all oneCell = true := rfl
theorem cS_flat : ∀ l : List ByteArray, l.flatMap cS = strs l
  | [] => rfl
  | s :: l => by rw [List.flatMap_cons, cS_flat l]; rfl

section
variable {a : Nat} {F : List Nat} {S : List D.Sec} {W : List D.Lw} (L k : Nat) (hL : 100000 < L) (hW : W.length ≤ 10000) (hS : 66 ≤ S.length)
include hL hW hS
end
end Go.AM.Bp

/-
  THE DOCUMENT'S IMAGE: Begin, Step; flat, Same, alike.
-/
namespace Go.AM.Bp
open Go.Proofs

/-! flat. -/
theorem flat_inner (L k m0 : Nat) {σ0 : St} {p : Nat} {b : List ByteArray} (hb : b.length = 32) (hp : p < σ0.next) {v : Nat} (hv : v < 4) : ∀ (n j : Nat) (σ : St) (ad : Option Addr) (z : Nat) (q : List Nat), j ≤ 8 → 8 - j < n → σ.get p = some (.own (strs b) 48) → Row cS 1 9 σ ad z q (b.take (8 * v + j)) → (∀ x ∈ q, σ0.next ≤ x) → Same σ0 σ [] →
    ∃ ad' z' q' σ' n', lpAt Try.prog env L k 15 [true, true, false, true, false, true, true, false, true, true] [m0] n [(1, ptr p), (3, .slice ad ((8 * v + j : Nat)) z), (4, .int .i64 v), (6, .int .i64 v), (9, .int .i64 j)] σ =
        lpAt Try.prog env L k 15 [true, true, false, true] [] n' [(1, ptr p), (3, .slice ad' ((8 * (v + 1) : Nat)) z'), (6, .int .i64 ((v + 1 : Nat) : Int))] σ' ∧ n' = m0 ∧
      σ'.get p = some (.own (strs b) 48) ∧ Row cS 1 9 σ' ad' z' q' (b.take (8 * (v + 1))) ∧ (∀ x ∈ q', σ0.next ≤ x) ∧ Same σ0 σ' []
  | 0, j, σ, ad, z, q, _, h, _, _, _, _ => by omega
  | n + 1, j, σ, ad, z, q, hj, hn, hg, hR, hq, hs => by
    rw [f15_l6]
    have hw : ∀ x : Nat, x < 100 → IntKind.wrap .i64 ((x : Int) + 1) = ((x + 1 : Nat) : Int) := fun x hx => by rw [wrap_in _ (by omega) (by omega)]; omega
    by_cases h8 : j = 8
    · subst h8
      rw [decide_eq_false (by omega), br_false, hw v (by omega)]
      exact ⟨ad, z, q, σ, m0, by rw [show 8 * (v + 1) = 8 * v + 8 by omega], rfl, hg, by rw [show 8 * (v + 1) = 8 * v + 8 by omega]; exact hR, hq, hs⟩
    · have hget : b[8 * v + j]? = some b[8 * v + j] := List.getElem?_eq_getElem (by omega)
      have htk : b.take (8 * v + (j + 1)) = b.take (8 * v + j) ++ [b[8 * v + j]] := by rw [← Nat.add_assoc, List.take_add_one, hget]; rfl
      have hstr := strs_get hget
      generalize b[8 * v + j] = s at hget htk hstr
      rw [decide_eq_true (by omega), br_true, need_of (by simp [inRange]; omega), need_of (by simp [inRange]; omega), ld_at hg _ (.string s) (by simpa [Nat.mul_comm] using hstr), asS_s]
      have s1 : Same σ (σ.new (.own [.string s] 9)) [] := Same.new _ _ _
      have g1 : (σ.new (.own [.string s] 9)).get σ.next = some (.own [.string s] 9) := get_new_same _ _
      generalize σ.new (.own [.string s] 9) = σ1 at s1 g1
      rw [row_one g1]
      have hlen : (b.take (8 * v + j)).length = 8 * v + j := by rw [List.length_take]; omega
      obtain ⟨ad2, z2, q2, σ2, hgrow, hR2, s2, hq2⟩ := grow_row (by_ := 16) (hR.same s1 (by simp)) cS_len cS_one (by omega) [s] [.string s] rfl 1 rfl (by rw [hlen]; unfold roomTop; omega) (by rw [hlen]; unfold sizeTop; omega)
      rw [hlen] at hgrow
      rw [hgrow, hw j (by omega)]
      have s02 : Same σ0 σ2 [] := (hs.trans s1).fresh s2 (fun x hx => .inr (hq x hx))
      obtain ⟨ad', z', q', σ', n', e, r⟩ := flat_inner L k m0 hb hp hv n (j + 1) σ2 ad2 z2 q2 (by omega) (by omega) ((s02.2 p hp (by simp)).trans ((hs.2 p hp (by simp)).symm.trans hg)) (by rw [htk]; exact hR2) (fun x hx => by rcases hq2 x hx with h | h; exact hq x h; have := hs.1; have := s1.1; omega) s02
      exact ⟨ad', z', q', σ', n', e, r⟩
theorem flat_outer (L k : Nat) (hL : 100 < L) {σ0 : St} {p : Nat} {b : List ByteArray} (hb : b.length = 32) (hp : p < σ0.next) : ∀ (n v : Nat) (σ : St) (ad : Option Addr) (z : Nat) (q : List Nat), v ≤ 4 → 4 - v < n → σ.get p = some (.own (strs b) 48) → Row cS 1 9 σ ad z q (b.take (8 * v)) → (∀ x ∈ q, σ0.next ≤ x) → Same σ0 σ [] →
    ∃ ad' z' q' σ', lpAt Try.prog env L k 15 [true, true, false, true] [] n [(1, ptr p), (3, .slice ad ((8 * v : Nat)) z), (6, .int .i64 v)] σ = some (.slice ad' 32 z', σ') ∧ Row cS 1 9 σ' ad' z' q' b ∧ (∀ x ∈ q', σ0.next ≤ x) ∧ Same σ0 σ' []
  | 0, v, σ, ad, z, q, _, h, _, _, _, _ => by omega
  | n + 1, v, σ, ad, z, q, hv, hn, hg, hR, hq, hs => by
    rw [f15_l3]
    by_cases h4 : v = 4
    · subst h4
      rw [decide_eq_false (by omega), br_false]
      rw [List.take_of_length_le (by omega)] at hR
      exact ⟨ad, z, q, σ, rfl, hR, hq, hs⟩
    · rw [decide_eq_true (by omega), br_true]
      obtain ⟨ad1, z1, q1, σ1, n', e, rfl, hg1, hR1, hq1, hs1⟩ := flat_inner L k n hb hp (v := v) (by omega) L 0 σ ad z q (by omega) (by omega) hg hR hq hs
      obtain ⟨ad', z', q', σ', e2, r⟩ := flat_outer L k hL hb hp n' (v + 1) σ1 ad1 z1 q1 (by omega) (by omega) hg1 hR1 hq1 hs1
      exact ⟨ad', z', q', σ', e.trans e2, r⟩
theorem flat_spec (L k : Nat) (hL : 100 < L) (σ : St) {b : List ByteArray} (hb : b.length = 32) : ∃ ad z q σ', evCall Try.prog env L (k + 1) 15 [.agg (strs b).toArray] σ = some (.slice ad 32 z, σ') ∧ Row cS 1 9 σ' ad z q b ∧ (∀ x ∈ q, σ.next ≤ x) ∧ Same σ σ' [] := by
  rw [f15_eq]
  have s1 : Same σ (σ.new (.own (strs b) 48)) [] := Same.new _ _ _
  have g1 : (σ.new (.own (strs b) 48)).get σ.next = some (.own (strs b) 48) := get_new_same _ _
  have n1 : (σ.new (.own (strs b) 48)).next = σ.next + 1 := rfl
  generalize σ.new (.own (strs b) 48) = σ1 at s1 g1 n1
  obtain ⟨ad', z', q', σ', e, h1, h2, h3⟩ := flat_outer L k hL hb (σ0 := σ1) (p := σ.next) (by omega) L 0 σ1 none 0 [] (by omega) (by omega) g1 (Row.nil _ _ _ _) (by simp) (Same.refl _ _)
  exact ⟨ad', z', q', σ', e, h1, fun x hx => by have := h2 x hx; omega, s1.trans h3⟩

/-! Begin. -/
/-! Same. -/
theorem same_loop (L k : Nat) {σ : St} {ad1 ad2 : Option Addr} {z1 z2 : Nat} {q1 q2 : List Nat} {b : List ByteArray} (h1 : Row cS 1 9 σ ad1 z1 q1 b) (h2 : Row cS 1 9 σ ad2 z2 q2 b) (hb : b.length = 32) : ∀ (n i : Nat), i ≤ 32 → 32 - i < n →
    lpAt Try.prog env L k 14 [true, true, false, true] [] n [(0, .slice ad1 32 z1), (1, .slice ad2 32 z2), (12, .int .i64 (32 : Nat)), (13, .int .i64 i)] σ = some (.bool true, σ)
  | 0, i, _, h => by omega
  | n + 1, i, hi, hn => by
    rw [f14_l4]
    by_cases h32 : i = 32
    · rw [decide_eq_false (by omega), br_false]
    · have hget : b[i]? = some b[i] := List.getElem?_eq_getElem (by omega)
      obtain ⟨p1, e1, hat1⟩ := h1.at cS_len hget
      obtain ⟨p2, e2, hat2⟩ := h2.at cS_len hget
      generalize b[i] = s at hat1 hat2
      have hw : IntKind.wrap .i64 ((i : Int) + 1) = ((i + 1 : Nat) : Int) := by rw [wrap_in _ (by omega) (by omega)]; omega
      rw [decide_eq_true (by omega), br_true, need_of (by simp [inRange]; omega), e1, adr_some, hat1 0 (.string s) _ (by omega) rfl (by simp), asS_s, need_of (by simp [inRange]; omega), e2, adr_some, hat2 0 (.string s) _ (by omega) rfl (by simp), asS_s, show (ByteArray.toList s == ByteArray.toList s) = true by simp, not_true, br_false, hw, ← e1, ← e2]
      exact same_loop L k h1 h2 hb n (i + 1) (by omega) (by omega)
theorem same_spec (L k : Nat) (hL : 100 < L) {σ : St} {ad1 ad2 : Option Addr} {z1 z2 : Nat} {q1 q2 : List Nat} {b : List ByteArray} (h1 : Row cS 1 9 σ ad1 z1 q1 b) (h2 : Row cS 1 9 σ ad2 z2 q2 b) (hb : b.length = 32) :
    evCall Try.prog env L (k + 1) 14 [.slice ad1 32 z1, .slice ad2 32 z2] σ = some (.bool true, σ) := by
  rw [f14_eq, show (((32 : Nat) : Int) != ((32 : Nat) : Int)) = false by simp, br_false]
  exact same_loop L k h1 h2 hb L 0 (by omega) (by omega)

/-! alike. -/
/-! Step. -/
section
variable {σ : St} {w a : Nat} {s : IS} {F G : List Nat}
end
end Go.AM.Bp

/-
  BackupCatches: the lists, and what is taken of them.
-/
namespace Go.AM.Bp
open Go.Proofs

/-! ### Plain -/
def vsOf (f : List Int) : List Nat := (List.range 4).filter fun (v : Nat) => decide ((v : Int) ∈ f)
/-- A volume's records, numbered. -/
def Num (l : List S.Rec) : Prop := ∀ (i : Nat) (r : S.Rec), l[i]? = some r → S.Can r ∧ r.seq = (i : Int) + 1
theorem Num.nil : Num [] := fun i r h => by simp at h
theorem Num.app {l : List S.Rec} (h : Num l) {r : S.Rec} (hc : S.Can r) (hs : r.seq = (l.length : Int) + 1) : Num (l ++ [r]) := fun i x hx => by
  rw [List.getElem?_append] at hx
  split at hx
  · exact h i x hx
  · rename_i hi
    have : i = l.length := by
      by_cases e : i = l.length
      · exact e
      · rw [List.getElem?_eq_none (by simp; omega)] at hx; cases hx
    subst this
    simp at hx
    subst hx
    exact ⟨hc, hs⟩
theorem Num.can {l : List S.Rec} (h : Num l) : ∀ r ∈ l, S.Can r := fun r hr => by
  obtain ⟨i, hi⟩ := List.mem_iff_getElem?.1 hr
  exact (h i r hi).1
/-- Of each list the first ones are taken: at least so many. -/
structure Pre (N : NS) (ls : Nat → List S.Rec) (lo : Nat → Nat) : Prop where
  st : ∀ v, v < 4 → ∃ n, lo v ≤ n ∧ n ≤ (ls v).length ∧ N.st v = ⟨1, 0, (ls v).take n⟩
  im : N.im = newN.im
  mk0 : N.mark = 0
theorem Pre.mono {N : NS} {ls : Nat → List S.Rec} {lo lo' : Nat → Nat} (h : Pre N ls lo) (hl : ∀ v, v < 4 → lo' v ≤ lo v) : Pre N ls lo' :=
  ⟨fun v hv => by obtain ⟨n, h1, h2⟩ := h.st v hv; exact ⟨n, Nat.le_trans (hl v hv) h1, h2⟩, h.im, h.mk0⟩
theorem Pre.take {N : NS} {ls : Nat → List S.Rec} {lo : Nat → Nat} (h : Pre N ls lo) {v k : Nat} (hv : v < 4) {r : S.Rec} (hr : (ls v)[k]? = some r) (hn : Num (ls v)) (lo' : Nat → Nat) (h1 : ∀ u, u < 4 → u ≠ v → lo' u ≤ lo u) (h2 : lo' v ≤ lo v ∨ (k ≤ lo v ∧ lo' v ≤ k + 1)) : Pre (N.take v r) ls lo' := by
  refine ⟨fun u hu => ?_, h.im, h.mk0⟩
  unfold NS.take
  dsimp only
  by_cases e : u = v
  · subst e
    rw [upd_same]
    obtain ⟨n, g1, g2, g3⟩ := h.st u hu
    have hk := (List.getElem?_eq_some_iff.1 hr).1
    obtain ⟨hc, hs⟩ := hn k r hr
    have hlen : ((ls u).take n).length = n := by rw [List.length_take]; omega
    rw [g3]
    unfold SS.take
    dsimp only
    rw [hlen, hs]
    by_cases hkn : k = n
    · subst hkn
      rw [if_pos ⟨by omega, hc⟩]
      refine ⟨k + 1, by omega, by omega, ?_⟩
      rw [List.take_add_one, hr]; rfl
    · rw [if_neg (fun h => hkn (by omega))]
      exact ⟨n, by omega, g2, rfl⟩
  · rw [upd_ne _ _ e]
    obtain ⟨n, g1, g2⟩ := h.st u hu
    exact ⟨n, Nat.le_trans (h1 u hu e) g1, g2⟩

/-! ### In the store -/
section
variable {σ0 : St} {nd g m d : Nat} {a : Nat → Nat} {gs : GS}
structure CaS (σ0 σ : St) (nd g m d : Nat) (a : Nat → Nat) (F : Nat → List Nat) (N : NS) (gs : GS) (p : Nat) (ad : Nat → Option Addr) (z : Nat → Nat) (q : Nat → List Nat) (ls : Nat → List S.Rec) (w : Nat) (want : List ByteArray) : Prop where
  nx : NdX σ0 σ nd g m d a F N [[w], lsB p q, [g]]
  ls : Ls σ p ad z q ls
  w : σ.get w = some (.own (strs want) 9)
  gr : Grp σ g [g] gs
variable {σ : St} {F : Nat → List Nat} {N : NS} {p w : Nat} {ad : Nat → Option Addr} {z : Nat → Nat} {q : Nat → List Nat} {ls : Nat → List S.Rec} {want : List ByteArray}
theorem CaS.wlt (h : CaS σ0 σ nd g m d a F N gs p ad z q ls w want) : w < σ.next := h.nx.lt (H := [w]) (by simp) w (by simp)
theorem CaS.idle (h : CaS σ0 σ nd g m d a F N gs p ad z q ls w want) {σ' : St} (hs : Same σ σ' []) : CaS σ0 σ' nd g m d a F N gs p ad z q ls w want :=
  ⟨h.nx.idle hs, h.ls.idle hs, (hs.2 w h.wlt (by simp)).trans h.w, h.gr.idle hs⟩
theorem CaS.node (h : CaS σ0 σ nd g m d a F N gs p ad z q ls w want) {σ' : St} {F' : Nat → List Nat} {N' : NS} (h' : NdX σ0 σ' nd g m d a F' N' [[w], lsB p q, [g]]) (hk : Kp σ σ' [[w], lsB p q, [g]]) : CaS σ0 σ' nd g m d a F' N' gs p ad z q ls w want :=
  ⟨h', h.ls.moved (fun x hx => hk (lsB p q) (by simp) x hx) (h'.lt (by simp)), (hk [w] (by simp) w (by simp)).trans h.w, h.gr.moved (fun x hx => hk [g] (by simp) x hx) (h'.lt (by simp))⟩
theorem CaS.put (h : CaS σ0 σ nd g m d a F N gs p ad z q ls w want) {i : Nat} (hi : i < want.length) (s : ByteArray) :
    ∃ σ', (∀ o, o = i → ∀ K : St → Res, σ.put w o [.string s] K = K σ') ∧ CaS σ0 σ' nd g m d a F N gs p ad z q ls w (want.set i s) := by
  have s1 := Same.set σ w (.own (strs (want.set i s)) 9)
  have hT : Turn σ (σ.set w (.own (strs (want.set i s)) 9)) [w] [w] := ⟨s1, fun x hx => ⟨.inl hx, by simp at hx; subst hx; simpa using h.wlt⟩⟩
  have hB : ∀ x ∈ lsB p q, x ∉ [w] := h.nx.im.dis 6 5 (by omega) rfl rfl
  have hg : ∀ x ∈ [g], x ∉ [w] := h.nx.im.dis 7 5 (by omega) rfl rfl
  refine ⟨_, fun o ho K => ?_, ⟨h.nx.turned 0 rfl hT, h.ls.same s1 hB, get_set_same _ _ _, h.gr.same s1 hg⟩⟩
  subst ho
  rw [put_at h.w o (.string s) (by rw [strs_len]; exact hi) rfl, strs_set]
theorem CaS.app (h : CaS σ0 σ nd g m d a F N gs p ad z q ls w want) (v : Nat) (hv : v < 4) (r : S.Rec) (hl : (ls v).length ≤ 1000) :
    ∃ ad' z' q' σ1 σ2, (∀ K, grow 40 5 48 (ad v) (ls v).length (z v) 1 (S.c5 r) σ K = K ad' ((ls v).length + 1) z' σ1) ∧ (∀ K : St → Res, σ1.put p (0 + Int.toNat (v : Int) * 1) [.slice ad' ((ls v).length + 1) z'] K = K σ2) ∧
      CaS σ0 σ2 nd g m d a F N gs p (upd ad v ad') (upd z v z') (upd q v q') (upd ls v (ls v ++ [r])) w want := by
  obtain ⟨ad', z', q', σ1, σ2, hg, hp, hL, hT, s1⟩ := h.ls.app v hv r hl
  have hw : ∀ x ∈ [w], x ∉ lsB p q := h.nx.im.dis 5 6 (by omega) rfl rfl
  have hgd : ∀ x ∈ [g], x ∉ lsB p q := h.nx.im.dis 7 6 (by omega) rfl rfl
  exact ⟨ad', z', q', σ1, σ2, hg, hp, ⟨h.nx.turned 1 rfl hT, hL, (hT.same.2 w h.wlt (hw w (by simp))).trans h.w, h.gr.same hT.same hgd⟩⟩
/-- Some lists, some want. -/
def CaQ (σ0 σ : St) (nd g m d : Nat) (a : Nat → Nat) (F : Nat → List Nat) (N : NS) (gs : GS) (p w : Nat) (ls : Nat → List S.Rec) (want : List ByteArray) : Prop := ∃ ad z q, CaS σ0 σ nd g m d a F N gs p ad z q ls w want

/-! Loop 1: the writes. -/
structure L1 (f : List Int) (ls : Nat → List S.Rec) (want : List ByteArray) (c : Nat) : Prop where
  num : ∀ v, Num (ls v)
  one : ∀ v, ∀ r ∈ ls v, r.kind = 1
  out : ∀ v : Nat, (v : Int) ∉ f → ls v = []
  len : ∀ v, (ls v).length ≤ c
  lay : want = layAll ls (vsOf f) noBlocks
theorem L1.wlen {f : List Int} {ls : Nat → List S.Rec} {want : List ByteArray} {c : Nat} (h : L1 f ls want c) : want.length = 32 := by rw [h.lay, layAll_len]; rfl
theorem vs_mem {f : List Int} {v : Nat} (hv : v < 4) (h : (v : Int) ∈ f) : v ∈ vsOf f := by
  unfold vsOf
  rw [List.mem_filter]; exact ⟨by simpa using hv, by simpa using h⟩
theorem vs_nodup (f : List Int) : (vsOf f).Nodup := List.Nodup.sublist List.filter_sublist List.nodup_range
theorem L1.app {f : List Int} {ls : Nat → List S.Rec} {want : List ByteArray} {c : Nat} (h : L1 f ls want c) (hc : c ≤ 100) {v : Nat} (hv : v < 4) (hf : (v : Int) ∈ f) {b : Nat} (hb : b < 8) {s : ByteArray} (hs : s.size ≤ 16) :
    L1 f (upd ls v (ls v ++ [⟨((ls v).length : Int) + 1, 1, (b : Int), s, 0⟩])) (want.set (8 * v + b) s) (c + 1) := by
  have hl := h.len v
  have hcan : S.Can ⟨((ls v).length : Int) + 1, 1, (b : Int), s, 0⟩ := ⟨⟨by show (1 : Int) ≤ ((ls v).length : Int) + 1; omega, by show ((ls v).length : Int) + 1 ≤ 1152921504606846975; omega⟩, .inl ⟨rfl, by show (0 : Int) ≤ (b : Int); omega, by show (b : Int) ≤ 7; omega, hs, rfl⟩⟩
  refine ⟨fun u => ?_, fun u => ?_, fun u hu => ?_, fun u => ?_, ?_⟩
  · by_cases e : u = v
    · subst e; rw [upd_same]; exact (h.num u).app hcan rfl
    · rw [upd_ne _ _ e]; exact h.num u
  · by_cases e : u = v
    · subst e; rw [upd_same]; intro r hr
      rcases List.mem_append.1 hr with hr | hr
      · exact h.one u r hr
      · simp at hr; rw [hr]
    · rw [upd_ne _ _ e]; exact h.one u
  · rw [upd_ne _ _ (fun e => hu (by rw [e]; exact hf))]; exact h.out u hu
  · by_cases e : u = v
    · subst e; rw [upd_same, List.length_append, List.length_singleton]; omega
    · rw [upd_ne _ _ e]; have := h.len u; omega
  · rw [layAll_app (fun v => (h.num v).can) hcan _ _ (vs_mem hv hf) (vs_nodup f), if_pos rfl, ← h.lay]
    rfl

theorem ca_w (L k : Nat) {ad0 ad1 : Option Addr} {f : List Int} {D : List ByteArray} {s2 : Int} {s3 : Option Addr} {s3n s3z : Nat} (hok : OkG f) (hf4 : f.length ≤ 4) (hfz : f.length ≠ 0) (hl : D.length ≤ 60) (hF : Holds σ0 1 c1 ad0 f) (hH : Holds σ0 1 cS ad1 D) : ∀ (n i : Nat) (σ : St) (ls : Nat → List S.Rec) (want : List ByteArray), i ≤ D.length → D.length - i < n → CaQ σ0 σ nd g m d a F newN gs p w ls want → L1 f ls want i →
    (∃ σ', lpAt Try.prog env L k 3 [true, true, true, true, true, true, true, true, false, true] [] n [(0, .slice ad0 f.length 0), (1, .slice ad1 D.length 0), (2, .int .u16 s2), (3, .slice s3 s3n s3z), (11, ptr nd), (13, .slice (some ⟨p, 0, none⟩) 4 1), (14, .slice (some ⟨w, 0, none⟩) 32 1), (70, .int .i64 D.length), (71, .int .i64 i)] σ = some (.bool true, σ')) ∨
    (∃ σ' ls' want', lpAt Try.prog env L k 3 [true, true, true, true, true, true, true, true, false, true] [] n [(0, .slice ad0 f.length 0), (1, .slice ad1 D.length 0), (2, .int .u16 s2), (3, .slice s3 s3n s3z), (11, ptr nd), (13, .slice (some ⟨p, 0, none⟩) 4 1), (14, .slice (some ⟨w, 0, none⟩) 32 1), (70, .int .i64 D.length), (71, .int .i64 i)] σ =
      lpAt Try.prog env L k 3 [true, true, true, true, true, true, true, true, true, false, true] [] L [(0, .slice ad0 f.length 0), (2, .int .u16 s2), (3, .slice s3 s3n s3z), (11, ptr nd), (13, .slice (some ⟨p, 0, none⟩) 4 1), (14, .slice (some ⟨w, 0, none⟩) 32 1), (122, .int .i64 f.length), (123, .int .i64 0)] σ' ∧ CaQ σ0 σ' nd g m d a F newN gs p w ls' want' ∧ L1 f ls' want' 60)
  | 0, i, σ, ls, want, _, hn, _, _ => by omega
  | n + 1, i, σ, ls, want, hi, hn, hQ, hL1 => by
    rw [f3_l12]
    by_cases hie : i = D.length
    · subst hie
      rw [decide_eq_false (by omega), br_false]
      exact .inr ⟨σ, ls, want, rfl, hQ, ⟨hL1.num, hL1.one, hL1.out, fun v => by have := hL1.len v; omega, hL1.lay⟩⟩
    obtain ⟨ad, z, q, hC⟩ := hQ
    have hget : D[i]? = some D[i] := List.getElem?_eq_getElem (by omega)
    have hld := fun {σ' : St} (hk : Kept' σ0.next σ0 σ') => hH.ld hk hget
    generalize D[i] = s at hld
    obtain ⟨qD, e, _⟩ := hld hC.nx.im.kept
    subst e
    have rdD : ∀ {σ' : St}, Kept' σ0.next σ0 σ' → ∀ K : Value → Res, σ'.ld qD (0 + Int.toNat (i : Int) * 1) K = K (.string s) := fun hk => by
      obtain ⟨q1, e1, g⟩ := hld hk
      cases e1
      exact fun K => g 0 (.string s) _ (by omega) rfl (by simp) K
    have iv : inRange (i : Int) (D.length : Int) = true := by simp [inRange]; omega
    rw [decide_eq_true (by omega), br_true, need_of iv, adr_some, rdD hC.nx.im.kept, asS_s]
    by_cases hs : ((s.size : Nat) : Int) > 16
    · rw [decide_eq_true hs, br_true]; exact .inl ⟨σ, rfl⟩
    rw [decide_eq_false hs, br_false]
    -- the volume
    obtain ⟨j, hj, hjl⟩ : ∃ j : Nat, Int.tmod (i : Int) (f.length : Int) = j ∧ j < f.length := by
      rw [Int.tmod_eq_emod_of_nonneg (by omega)]
      exact ⟨i % f.length, by omega, Nat.mod_lt _ (by omega)⟩
    have hfget : f[j]? = some f[j] := List.getElem?_eq_getElem hjl
    have hfm : f[j] ∈ f := List.getElem_mem _
    have hfr := hok.1 _ hfm
    obtain ⟨qF, eF, hatF⟩ := hF.ld hC.nx.im.kept hfget
    generalize f[j] = x at *
    obtain ⟨v, rfl⟩ : ∃ v : Nat, x = v := ⟨x.toNat, by omega⟩
    subst eF
    have hv4 : v < 4 := by omega
    have i4 : inRange (v : Int) ((4 : Nat) : Int) = true := by simp [inRange]; omega
    have hll := hL1.len v
    have hb : Int.tmod (i : Int) 8 = ((i % 8 : Nat) : Int) := by rw [Int.tmod_eq_emod_of_nonneg (by omega)]; omega
    have hw1 : IntKind.wrap .i64 (((ls v).length : Int) + 1) = ((ls v).length : Int) + 1 := wrap_in _ (by omega) (by omega)
    have hw2 : IntKind.wrap .i64 (IntKind.wrap .i64 (8 * (v : Int)) + ((i % 8 : Nat) : Int)) = ((8 * v + i % 8 : Nat) : Int) := by
      rw [wrap_in (8 * (v : Int)) (by omega) (by omega), wrap_in _ (by omega) (by omega)]; omega
    have hwi : IntKind.wrap .i64 ((i : Int) + 1) = ((i + 1 : Nat) : Int) := by rw [wrap_in _ (by omega) (by omega)]; omega
    rw [need_of (by simpa using hfz), hj, need_of (by simp [inRange]; omega), adr_some, hatF 0 (.int .i64 v) _ (by omega) rfl (by simp), asI_i, need_of i4, adr_some, hC.ls.cell v hv4, asSl_s, need_of i4, adr_some, hC.ls.cell v hv4, asSl_s, need_of iv, adr_some, rdD hC.nx.im.kept, asS_s, need_true, need_true, need_true, need_true, need_true, hw1, hb]
    have s1 : Same σ (σ.new (.own [.int .i64 (((ls v).length : Int) + 1), .int .i64 1, .int .i64 ((i % 8 : Nat) : Int), .string s, .int .i64 0] 40)) [] := Same.new _ _ _
    have g1 : (σ.new (.own [.int .i64 (((ls v).length : Int) + 1), .int .i64 1, .int .i64 ((i % 8 : Nat) : Int), .string s, .int .i64 0] 40)).get σ.next = some (.own [.int .i64 (((ls v).length : Int) + 1), .int .i64 1, .int .i64 ((i % 8 : Nat) : Int), .string s, .int .i64 0] 40) := get_new_same _ _
    generalize σ.new (.own [.int .i64 (((ls v).length : Int) + 1), .int .i64 1, .int .i64 ((i % 8 : Nat) : Int), .string s, .int .i64 0] 40) = σ1 at s1 g1
    have hC1 := hC.idle s1
    obtain ⟨ad', z', q', σ2, σ3, hgrow, hput, hC3⟩ := hC1.app v hv4 ⟨((ls v).length : Int) + 1, 1, ((i % 8 : Nat) : Int), s, 0⟩ (by omega)
    have hgrow' : ∀ K, grow 40 5 48 (ad v) (ls v).length (z v) 1 [.int .i64 (((ls v).length : Int) + 1), .int .i64 1, .int .i64 ((i % 8 : Nat) : Int), .string s, .int .i64 0] σ1 K = K ad' ((ls v).length + 1) z' σ2 := hgrow
    have hwl := hL1.wlen
    obtain ⟨σ4, hputw, hC4⟩ := hC3.put (i := 8 * v + i % 8) (by omega) s
    rw [hC1.ls.cell v hv4, asSl_s, chk_same, row_all (n := 5) g1 rfl (by omega), hgrow', need_of i4, adr_some, hput, need_of iv, adr_some, rdD hC3.nx.im.kept, asS_s, hw2, need_of (by simp [inRange]; omega), adr_some, hputw _ (by rw [Int.toNat_natCast]; omega), hwi]
    have hn8 : i % 8 < 8 := Nat.mod_lt _ (by omega)
    exact ca_w L k hok hf4 hfz hl hF hH n (i + 1) σ4 _ _ (by omega) (by omega) ⟨_, _, _, hC4⟩ (hL1.app (by omega) hv4 hfm hn8 (by omega))
end
end Go.AM.Bp

/-
  THE GROUP's changes: put.
-/
namespace Go.AM.Bp
open Go.Proofs

def GS.last (gs : GS) : Int := match gs.ch.getLast? with | some c => c.mark | none => 0
/-- The number of the error; 0: it is put. -/
def putE (gs : GS) (m v : Int) (gone : Bool) : Int :=
  if ¬ (0 ≤ v ∧ v < 4) then 5 else if m ≤ gs.last then 10 else if m > 1152921504606846975 then 1 else if (beh gs.f gs.ch v.toNat != gone) = true then 9 else if 100 ≤ gs.ch.length then 6 else 0
def GS.add (gs : GS) (m v : Int) (gone : Bool) : GS := ⟨gs.f, gs.ch ++ [⟨m, v.toNat, gone⟩]⟩
/-- An error with a number, of whatever word and place. -/
def GErr (σ : St) (v : Value) (e : Int) : Prop := ∃ q w a, v = .iface 126 (ptr q) ∧ σ.get q = some (.own [.string w, .int .i64 a, .iface 74 (.int .i64 e)] 128) ∧ q < σ.next
theorem wrongM (L k : Nat) (σ : St) (at_ e : Int) (he : e ≠ 0) : ∃ v σ', evCall Try.prog env L (k + 2) 25 [.int .i64 at_, .int .i64 e] σ = some (v, σ') ∧ GErr σ' v e ∧ Same σ σ' [] := by
  rw [f25_eq, f45_eq, eqNil_iface, br_false]
  have hb : ∀ K : Res, eqErr (.iface 74 (.int .i64 e)) 74 .i64 0 (fun v2 => br v2 (some (Value.nilIface, σ)) K) = K := by
    intro K
    have : eqErr (.iface 74 (.int .i64 e)) 74 .i64 0 (fun v2 => br v2 (some (Value.nilIface, σ)) K) = br (e == 0) (some (Value.nilIface, σ)) K := by simp [eqErr]
    rw [this, show (e == 0) = false by simpa using he, br_false]
  rw [hb, need_true, need_of (show oneCell (Value.iface 74 (Value.int .i64 e)) = true from rfl), need_true, bnd_some]
  exact ⟨_, _, rfl, ⟨σ.next, _, _, rfl, get_new_same _ _, by simp⟩, Same.new _ _ _⟩
section
variable {σ : St} {g : Nat} {G : List Nat} {gs : GS}
theorem glast_spec (L k : Nat) (h : Grp σ g G gs) : evCall Try.prog env L (k + 1) 71 [ptr g] σ = some (.int .i64 gs.last, σ) := by
  have h100 := h.len
  obtain ⟨ad, z, q, rfl, hgq, hg, hR⟩ := h.ex
  rw [f71_eq, ld_at hg 4 _ rfl, asSl_s]
  unfold GS.last
  by_cases h0 : gs.ch = []
  · rw [h0]; rfl
  · have hlen : 0 < gs.ch.length := List.length_pos_iff.2 h0
    have hget : gs.ch[gs.ch.length - 1]? = some (gs.ch.getLast h0) := by rw [List.getLast_eq_getElem]; exact List.getElem?_eq_getElem (by omega)
    obtain ⟨p, e, hat⟩ := hR.at (fun _ => rfl) hget
    subst e
    have hw : IntKind.wrap .i64 ((gs.ch.length : Int) - 1) = ((gs.ch.length - 1 : Nat) : Int) := by rw [wrap_in _ (by omega) (by omega)]; omega
    rw [show (((gs.ch.length : Nat) : Int) == 0) = false by simpa using h0, br_false, ld_at hg 4 _ rfl, asSl_s, ld_at hg 4 _ rfl, asSl_s, hw, need_of (by simp [inRange]; omega), adr_some, hat 0 (.int .i64 (gs.ch.getLast h0).mark) _ (by omega) rfl (by simp), asI_i, List.getLast?_eq_some_getLast h0]
end
theorem gput (L k : Nat) (hL : 100000 < L) {σ : St} {g : Nat} {G : List Nat} {gs : GS} (h : Grp σ g G gs) (m v : Int) (gone : Bool) :
    ∃ r G' σ', evCall Try.prog env L (k + 3) 44 [ptr g, .agg [.int .i64 m, .int .i64 v, .bool gone].toArray] σ = some (r, σ') ∧ Turn σ σ' G G' ∧
      ((putE gs m v gone ≠ 0 ∧ GErr σ' r (putE gs m v gone) ∧ Grp σ' g G' gs) ∨ (putE gs m v gone = 0 ∧ r = .nilIface ∧ Grp σ' g G' (gs.add m v gone))) := by
  have h100 := h.len
  rw [f44_eq]
  have s1 : Same σ (σ.new (.own [.int .i64 m, .int .i64 v, .bool gone] 101)) [] := Same.new _ _ _
  have g1 : (σ.new (.own [.int .i64 m, .int .i64 v, .bool gone] 101)).get σ.next = some (.own [.int .i64 m, .int .i64 v, .bool gone] 101) := get_new_same _ _
  have n1 : (σ.new (.own [.int .i64 m, .int .i64 v, .bool gone] 101)).next = σ.next + 1 := rfl
  generalize σ.new (.own [.int .i64 m, .int .i64 v, .bool gone] 101) = σ1 at s1 g1 n1
  have h1 := h.idle s1
  have err : ∀ {σ2 : St} (e : Int), e ≠ 0 → e = putE gs m v gone → Same σ σ2 [] → ∃ r G' σ', (bnd (evCall Try.prog env L (k + 2) 25 [.int .i64 v, .int .i64 e] σ2) fun v8 v9 => some (pack [v8], v9)) = some (r, σ') ∧ Turn σ σ' G G' ∧
      ((putE gs m v gone ≠ 0 ∧ GErr σ' r (putE gs m v gone) ∧ Grp σ' g G' gs) ∨ (putE gs m v gone = 0 ∧ r = .nilIface ∧ Grp σ' g G' (gs.add m v gone))) := by
    intro σ2 e he hE hs
    obtain ⟨r, σ3, g3, hr, s3⟩ := wrongM L k σ2 v e he
    rw [g3, bnd_some]
    rw [hE] at he hr
    exact ⟨r, G, σ3, rfl, Turn.idle (hs.trans s3) h.lt, .inl ⟨he, hr, h.idle (hs.trans s3)⟩⟩
  rw [ld_at g1 1 (.int .i64 v) rfl, asI_i, there43 L (k + 1), bnd_some, asB_b]
  by_cases hv : 0 ≤ v ∧ v < 4
  rotate_left
  · rw [decide_eq_false hv, not_false, br_true, ld_at g1 1 (.int .i64 v) rfl, asI_i]
    exact err 5 (by decide) (by unfold putE; rw [if_pos hv]) s1
  rw [decide_eq_true hv, not_true, br_false, ld_at g1 0 (.int .i64 m) rfl, asI_i, glast_spec L (k + 1) h1, bnd_some, asI_i, ld_at g1 0 (.int .i64 m) rfl, asI_i, chk_same]
  by_cases hm : m ≤ gs.last
  · rw [decide_eq_true hm, br_true, ld_at g1 1 (.int .i64 v) rfl, asI_i]
    exact err 10 (by decide) (by unfold putE; rw [if_neg (by simpa using hv), if_pos hm]) s1
  rw [decide_eq_false hm, br_false, ld_at g1 0 (.int .i64 m) rfl, asI_i]
  by_cases hm2 : m > 1152921504606846975
  · rw [decide_eq_true hm2, br_true, ld_at g1 1 (.int .i64 v) rfl, asI_i]
    exact err 1 (by decide) (by unfold putE; rw [if_neg (by simpa using hv), if_neg hm, if_pos hm2]) s1
  obtain ⟨u, rfl⟩ : ∃ u : Nat, v = u := ⟨v.toNat, by omega⟩
  have hu4 : u < 4 := by omega
  obtain ⟨ad, z, q, hG, hgq, hg, hR⟩ := h1.ex
  obtain ⟨σ2, g2, s2⟩ := behind_spec L (k + 1) (by omega) h1 gs.ch.length (Nat.le_refl _)
  rw [List.take_length] at g2
  have g12 : σ2.get σ.next = _ := (s2.2 σ.next (by omega) (by simp)).trans g1
  have hgl1 := h1.lt g (by rw [hG]; simp)
  have hg2 : σ2.get g = _ := (s2.2 g hgl1 (by simp)).trans hg
  have hR2 := hR.same s2 (by simp)
  have s02 := s1.trans s2
  rw [decide_eq_false hm2, br_false, ld_at hg 4 _ rfl, asSl_s, g2, bnd_some, asAgL_a]
  have hbv : ∀ K : Value → Res, nth [.bool (beh gs.f gs.ch 0), .bool (beh gs.f gs.ch 1), .bool (beh gs.f gs.ch 2), .bool (beh gs.f gs.ch 3)] (Int.toNat (u : Int) * 1) K = K (.bool (beh gs.f gs.ch u)) := fun K => bv_nth (beh gs.f gs.ch) u hu4 K
  have hun : (u : Int).toNat = u := rfl
  show ∃ r G' σ', (uncons [Value.bool (beh gs.f gs.ch 0), .bool (beh gs.f gs.ch 1), .bool (beh gs.f gs.ch 2), .bool (beh gs.f gs.ch 3)] _) = _ ∧ _
  rw [uncons_c, asB_b, uncons_c, asB_b, uncons_c, asB_b, uncons_c, asB_b, endl_n, ld_at g12 1 (.int .i64 u) rfl, asI_i, ld_at g1 1 (.int .i64 u) rfl, asI_i, chk_same, need_of (by simp [inRange]; omega), hbv, asB_b, ld_at g12 2 (.bool gone) rfl, asB_b, ld_at g1 2 (.bool gone) rfl, asB_b, chk_same]
  have hxor : (!beh gs.f gs.ch u == gone) = (beh gs.f gs.ch u != gone) := by cases beh gs.f gs.ch u <;> cases gone <;> rfl
  rw [hxor]
  by_cases hb : (beh gs.f gs.ch u != gone) = true
  · rw [hb, br_true, ld_at g12 1 (.int .i64 u) rfl, asI_i]
    exact err 9 (by decide) (by unfold putE; rw [if_neg (by simpa using hv), if_neg hm, if_neg hm2, hun, if_pos hb]) s02
  have hb' : (beh gs.f gs.ch u != gone) = false := by simpa using hb
  rw [hb', br_false, ld_at hg2 4 _ rfl, asSl_s]
  by_cases hw : ((gs.ch.length : Nat) : Int) ≥ 100
  · rw [decide_eq_true hw, br_true, ld_at g12 1 (.int .i64 u) rfl, asI_i]
    exact err 6 (by decide) (by unfold putE; rw [if_neg (by simpa using hv), if_neg hm, if_neg hm2, hun, if_neg hb, if_pos (by omega)]) s02
  rw [decide_eq_false hw, br_false, ld_at hg2 4 _ rfl, asSl_s, lds_all (n := 3) g12 rfl, uncons_c, asI_i, uncons_c, asI_i, uncons_c, asB_b, endl_n]
  have hE0 : putE gs m (u : Int) gone = 0 := by unfold putE; rw [if_neg (by simpa using hv), if_neg hm, if_neg hm2, hun, if_neg hb, if_neg (by omega)]
  have s3 : Same σ2 (σ2.new (.own [.int .i64 m, .int .i64 u, .bool gone] 101)) [] := Same.new _ _ _
  have g3 : (σ2.new (.own [.int .i64 m, .int .i64 u, .bool gone] 101)).get σ2.next = some (.own [.int .i64 m, .int .i64 u, .bool gone] 101) := get_new_same _ _
  generalize σ2.new (.own [.int .i64 m, .int .i64 u, .bool gone] 101) = σ3 at s3 g3
  have n2 := s2.1
  have n3 := s3.1
  have hg3 : σ3.get g = _ := (s3.2 g (by omega) (by simp)).trans hg2
  obtain ⟨ad', z', q', σ4, hgrow, hR4, s4, hq4⟩ := grow_row (by_ := 24) (hR2.same s3 (by simp)) c3_len c3_one (by omega) [⟨m, u, gone⟩] (c3 ⟨m, u, gone⟩) (by simp) 1 rfl (by unfold roomTop; omega) (by unfold sizeTop; omega)
  have hgrow' : ∀ K, grow 101 3 24 ad gs.ch.length z 1 [.int .i64 m, .int .i64 u, .bool gone] σ3 K = K ad' (gs.ch.length + 1) z' σ4 := hgrow
  have hg4 : σ4.get g = _ := (s4.2 g (by omega) hgq).trans hg3
  have n4 := s4.1
  rw [ld_at hg3 4 _ rfl, asSl_s, chk_same, row_all (n := 3) g3 rfl (by omega), hgrow', put_sl hg4 4 _ _ _ (by simp)]
  have s5 := Same.set σ4 g (.own (List.set [.bool (gs.f 0), .bool (gs.f 1), .bool (gs.f 2), .bool (gs.f 3), .slice ad gs.ch.length z] 4 (.slice ad' (gs.ch.length + 1) z')) 71)
  have hgq' : g ∉ q' := fun hx => by
    rcases hq4 g hx with h1 | h1
    · exact hgq h1
    · omega
  have hq1 := hR.lt
  refine ⟨.nilIface, g :: q', _, rfl, ⟨⟨by simp; omega, fun x hx hxG => ?_⟩, fun x hx => ?_⟩, .inr ⟨hE0, rfl, ⟨⟨ad', z', q', rfl, hgq', ?_, ?_⟩, fun x hx => ?_, fun c hc => ?_, ?_⟩⟩⟩
  · rw [hG] at hxG
    simp only [List.mem_cons, not_or] at hxG
    rw [s5.2 x (by omega) (by simpa using hxG.1), s4.2 x (by omega) hxG.2, s3.2 x (by omega) (by simp), s02.2 x hx (by simp)]
  · rcases List.mem_cons.1 hx with rfl | hx
    · exact ⟨.inl (by rw [hG]; simp), by simp; omega⟩
    · refine ⟨?_, by have := hR4.lt x hx; simpa using this⟩
      rcases hq4 x hx with h1 | h1
      · exact .inl (by rw [hG]; simp [h1])
      · exact .inr (by omega)
  · rw [get_set_same]; unfold GS.add; dsimp only; rw [List.length_append]; rfl
  · exact hR4.same s5 (fun x hx => by simp; rintro rfl; exact hgq' hx)
  · rcases List.mem_cons.1 hx with rfl | hx
    · simp; omega
    · have := hR4.lt x hx; simpa using this
  · unfold GS.add at hc
    rcases List.mem_append.1 hc with hc | hc
    · exact h.vols c hc
    · simp at hc; subst hc; exact hu4
  · unfold GS.add; dsimp only; rw [List.length_append, List.length_singleton]; omega
theorem gadd_spec (L k : Nat) (hL : 100000 < L) {σ : St} {g : Nat} {G : List Nat} {gs : GS} (h : Grp σ g G gs) (m v : Int) :
    ∃ r G' σ', evCall Try.prog env L (k + 4) 21 [ptr g, .int .i64 v, .int .i64 m] σ = some (r, σ') ∧ Turn σ σ' G G' ∧
      ((putE gs m v false ≠ 0 ∧ GErr σ' r (putE gs m v false) ∧ Grp σ' g G' gs) ∨ (putE gs m v false = 0 ∧ r = .nilIface ∧ Grp σ' g G' (gs.add m v false))) := by
  obtain ⟨r, G', σ', e, h'⟩ := gput L k hL h m v false
  have e' : evCall Try.prog env L (k + 3) 44 [ptr g, .agg #[.int .i64 m, .int .i64 v, .bool false]] σ = some (r, σ') := e
  rw [f21_eq, need_true, need_true, e', bnd_some]
  exact ⟨r, G', σ', rfl, h'⟩
theorem gremove_spec (L k : Nat) (hL : 100000 < L) {σ : St} {g : Nat} {G : List Nat} {gs : GS} (h : Grp σ g G gs) (m v : Int) :
    ∃ r G' σ', evCall Try.prog env L (k + 4) 22 [ptr g, .int .i64 v, .int .i64 m] σ = some (r, σ') ∧ Turn σ σ' G G' ∧
      ((putE gs m v true ≠ 0 ∧ GErr σ' r (putE gs m v true) ∧ Grp σ' g G' gs) ∨ (putE gs m v true = 0 ∧ r = .nilIface ∧ Grp σ' g G' (gs.add m v true))) := by
  obtain ⟨r, G', σ', e, h'⟩ := gput L k hL h m v true
  have e' : evCall Try.prog env L (k + 3) 44 [ptr g, .agg #[.int .i64 m, .int .i64 v, .bool true]] σ = some (r, σ') := e
  rw [f22_eq, need_true, need_true, e', bnd_some]
  exact ⟨r, G', σ', rfl, h'⟩
end Go.AM.Bp
