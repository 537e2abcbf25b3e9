/-
  Texts laid together: BkPr, BkArgB.
-/
import Derived.Test.YtnihjgamfnabnaaGreatDoorBkZag
import Derived.Test.YtnihjgamfnabnaaGreatDoorEqBk2
import Derived.Test.YtnihjgamfnabnaaGreatDoorEnvBk
set_option linter.unusedVariables false
set_option linter.unusedSimpArgs false
set_option linter.unusedSectionVars false
/-
  BackupPromotes.
-/
namespace Go.AM.Bk
open Go.Proofs

theorem stepR (o : OpB) (v : Int) : (c10 o).set 3 (.int .i64 v) = c10 { o with r := { o.r with seq := v } } := rfl
section
variable {σ0 : St} {nd g d : Nat} {gs : GS}
/-- A backup that is sound, and some things beside it. -/
def Qs (σ0 σ : St) (nd g d : Nat) (gs : GS) (c : Nat) (R : List (List Nat)) : Prop := ∃ m a F N, NdX σ0 σ nd g m d a F N R ∧ N.Inv c ∧ Grp σ g [g] gs ∧ [g] ∈ R
theorem Qs.mono {σ : St} {c c' : Nat} {R : List (List Nat)} (h : Qs σ0 σ nd g d gs c R) (hc : c ≤ c') : Qs σ0 σ nd g d gs c' R := by
  obtain ⟨m, a, F, N, h1, h2, h3⟩ := h
  exact ⟨m, a, F, N, h1, h2.mono hc, h3⟩
theorem Qs.kept {σ : St} {c : Nat} {R : List (List Nat)} (h : Qs σ0 σ nd g d gs c R) : Kept' σ0.next σ0 σ := by
  obtain ⟨m, a, F, N, h1, _⟩ := h
  exact h1.im.kept
theorem Qs.take {σ : St} {c : Nat} {R : List (List Nat)} (h : Qs σ0 σ nd g d gs c R) (hc : c ≤ 898) (L k : Nat) (v : Nat) (hv : v < 4) (r : S.Rec) :
    ∃ x e σ', evCall Tryz.prog env L (k + 4) 21 [ptr nd, .int .i64 v, r.agg] σ = some (.tuple #[.int .i64 x, e], σ') ∧ Qs σ0 σ' nd g d gs (c + 1) R ∧ Kp σ σ' R := by
  obtain ⟨m, a, F, N, h1, hI, hG, hgR⟩ := h
  obtain ⟨F', σ', e, h', k'⟩ := ntake_spec L k h1 hI (by omega) v hv r
  exact ⟨_, _, σ', e, ⟨m, a, F', _, h', hI.take v r, hG.moved (fun q hq => k' [g] hgR q hq) (h'.lt hgR), hgR⟩, k'⟩
theorem Qs.begin {σ : St} {c : Nat} {R : List (List Nat)} (h : Qs σ0 σ nd g d gs c R) (hc : c ≤ 898) (L k : Nat) (hL : 100000 < L) :
    ∃ x e σ', evCall Tryz.prog env L (k + 6) 22 [ptr nd] σ = some (.tuple #[.int .i64 x, e], σ') ∧ Qs σ0 σ' nd g d gs (c + 1) R ∧ Kp σ σ' R := by
  obtain ⟨m, a, F, N, h1, hI, hG, hgR⟩ := h
  obtain ⟨v, σ', e, k', hor⟩ := nbegin_spec L k hL h1 hI (by omega) hG
  have hG' : (∀ q ∈ [g], q < σ'.next) → Grp σ' g [g] gs := hG.moved (fun q hq => k' [g] hgR q hq)
  rcases hor with ⟨_, ⟨e2, rfl, _⟩, s⟩ | ⟨_, _, ⟨e2, rfl, _⟩, s⟩ | ⟨h0, hr, rfl, h'⟩
  · exact ⟨_, _, σ', e, ⟨m, a, F, N, h1.idle s, hI.mono (by omega), hG' ((h1.idle s).lt hgR), hgR⟩, k'⟩
  · exact ⟨_, _, σ', e, ⟨m, a, F, N, h1.idle s, hI.mono (by omega), hG' ((h1.idle s).lt hgR), hgR⟩, k'⟩
  · exact ⟨_, _, σ', e, ⟨m, a, F, _, h', (hI.begun h0 hr).1, hG' (h'.lt hgR), hgR⟩, k'⟩
theorem Qs.step {σ : St} {c : Nat} {R : List (List Nat)} (h : Qs σ0 σ nd g d gs c R) (hc : c ≤ 899) (L k : Nat) (hL : 100000 < L) :
    ∃ b e σ', evCall Tryz.prog env L (k + 9) 23 [ptr nd] σ = some (.tuple #[.bool b, e], σ') ∧ Qs σ0 σ' nd g d gs c R ∧ Kp σ σ' R := by
  obtain ⟨m, a, F, N, h1, hI, hG, hgR⟩ := h
  obtain ⟨v, F', σ', e, k', hor⟩ := nstep_spec L k hL hc h1 hI hG hgR
  have hG' : (∀ q ∈ [g], q < σ'.next) → Grp σ' g [g] gs := hG.moved (fun q hq => k' [g] hgR q hq)
  rcases hor with ⟨_, ⟨e2, rfl, _⟩, s⟩ | ⟨_, _, _, _, rfl, h'⟩
  · exact ⟨_, _, σ', e, ⟨m, a, F, N, h1.idle s, hI, hG' ((h1.idle s).lt hgR), hgR⟩, k'⟩
  · exact ⟨_, _, σ', e, ⟨m, a, F', _, h', hI.step hc gs, hG' (h'.lt hgR), hgR⟩, k'⟩
theorem Qs.crash {σ : St} {c : Nat} {R : List (List Nat)} (h : Qs σ0 σ nd g d gs c R) (hc : c ≤ 899) (L k : Nat) (hL : 100000 < L) (keep : Int) :
    ∃ σ', evCall Tryz.prog env L (k + 12) 24 [ptr nd, .int .u64 keep] σ = some (.nilIface, σ') ∧ Qs σ0 σ' nd g d gs c R ∧ Kp σ σ' R := by
  obtain ⟨m, a, F, N, h1, hI, hG, hgR⟩ := h
  obtain ⟨m', F', σ', e, h', k'⟩ := ncrash_spec L k hL hc h1 hI hG hgR keep
  exact ⟨σ', e, ⟨m', a, F', _, h', hI.crash hc keep gs, hG.moved (fun q hq => k' [g] hgR q hq) (h'.lt hgR), hgR⟩, k'⟩
theorem Qs.push {σ σ' : St} {c : Nat} {R : List (List Nat)} (h : Qs σ0 σ nd g d gs c R) (hs : Same σ σ' []) {p : Nat} (hp : σ.next ≤ p ∧ p < σ'.next) : Qs σ0 σ' nd g d gs c ([p] :: R) := by
  obtain ⟨m, a, F, N, h1, hI, hG, hgR⟩ := h
  exact ⟨m, a, F, N, h1.push hs (X := [p]) (by simp; omega), hI, hG.idle hs, by simp [hgR]⟩
theorem Qs.pop {σ : St} {c : Nat} {X : List Nat} {R : List (List Nat)} (h : Qs σ0 σ nd g d gs c (X :: R)) (hR : [g] ∈ R) : Qs σ0 σ nd g d gs c R := by
  obtain ⟨m, a, F, N, h1, hI, hG, hgR⟩ := h
  exact ⟨m, a, F, N, h1.pop, hI, hG, hR⟩
theorem Qs.put {σ : St} {c p : Nat} (h : Qs σ0 σ nd g d gs c ([p] :: [[g]])) {vs : List Value} {e : TypeId} (hp : σ.get p = some (.own vs e)) (o : Nat) (v : Value) (ho : o < vs.length) (h1 : oneCell v = true) :
    ∃ σ', (∀ K : St → Res, σ.put p o [v] K = K σ') ∧ σ'.get p = some (.own (vs.set o v) e) ∧ Qs σ0 σ' nd g d gs c ([p] :: [[g]]) := by
  obtain ⟨m, a, F, N, hX, hI, hG, hgR⟩ := h
  have s1 := Same.set σ p (.own (vs.set o v) e)
  have hlt := hX.lt (H := [p]) (by simp) p (by simp)
  have hT : Turn σ (σ.set p (.own (vs.set o v) e)) [p] [p] := ⟨s1, fun q hq => ⟨.inl hq, by simp at hq; subst hq; simpa using hlt⟩⟩
  have hX2 := hX.turned 0 rfl hT
  have hne : ∀ q ∈ [g], q ∉ [p] := hX.im.dis 6 5 (by omega) rfl rfl
  exact ⟨_, fun K => put_at hp o v ho h1 K, get_set_same _ _ _, ⟨m, a, F, N, hX2, hI, hG.same s1 hne, by simp⟩⟩

/-! Steps. -/
theorem pr_steps (L k m0 : Nat) (hL : 100000 < L) {c : Nat} (hc : c ≤ 898) {p : Nat} {o : OpB} {ad : Option Addr} {n1 z1 : Nat} {l51 : Int} {i : Nat} (hi : i ≤ 100) : ∀ (n j : Nat) (σ : St), j ≤ 40 → 40 - j < n → σ.get p = some (.own (c10 o) 61) → Qs σ0 σ nd g d gs c ([p] :: [[g]]) →
    ∃ σ', lpAt Tryz.prog env L (k + 9) 4 [true, true, true, true, true, true, false, true, false, true, true, false, true, true, true, true, true, true, true, true, false, true] [m0] n [(1, .slice ad n1 z1), (7, ptr nd), (10, ptr p), (13, .int .i64 j), (51, .int .i64 l51), (52, .int .i64 i)] σ =
      lpAt Tryz.prog env L (k + 9) 4 [true, true, true, true, true, true, false, true] [] m0 [(1, .slice ad n1 z1), (7, ptr nd), (51, .int .i64 l51), (52, .int .i64 ((i + 1 : Nat) : Int))] σ' ∧ Qs σ0 σ' nd g d gs c [[g]]
  | 0, j, σ, _, hn, _, _ => by omega
  | n + 1, j, σ, hj, hn, hp, hQ => by
    have hw : IntKind.wrap .i64 ((j : Int) + 1) = ((j + 1 : Nat) : Int) := by rw [wrap_in _ (by omega) (by omega)]; omega
    have hwi : IntKind.wrap .i64 ((i : Int) + 1) = ((i + 1 : Nat) : Int) := by rw [wrap_in _ (by omega) (by omega)]; omega
    rw [f4_l23, asP_p, adr_some, ld_at hp (0 + 2) (.int .i64 o.n) rfl, asI_i, hw, hwi]
    by_cases h1 : (j : Int) < o.n
    · rw [decide_eq_true h1, br_true]
      by_cases h2 : (j : Int) < 40
      · obtain ⟨b, e, σ1, g1, hQ1, k1⟩ := hQ.step (by omega) L k hL
        rw [decide_eq_true h2, br_true, g1, bnd_some, asT_t, toList2, uncons_c, asB_b, uncons_c, endl_n]
        exact pr_steps L k m0 hL hc hi n (j + 1) σ1 (by omega) (by omega) ((k1 [p] (by simp) p (by simp)).trans hp) hQ1
      · rw [decide_eq_false h2, br_false]
        exact ⟨σ, rfl, hQ.pop (by simp)⟩
    · rw [decide_eq_false h1, br_false]
      exact ⟨σ, rfl, hQ.pop (by simp)⟩

theorem pr_loop (L k : Nat) (hL : 100000 < L) {ad : Option Addr} {l : List OpB} {z : Nat} (hl : l.length ≤ 80) (hH : Holds σ0 10 c10 ad l) : ∀ (n i : Nat) (σ : St), i ≤ l.length → l.length - i < n → Qs σ0 σ nd g d gs (2 * i) [[g]] →
    ∃ n' σ', lpAt Tryz.prog env L (k + 12) 4 [true, true, true, true, true, true, false, true] [] n [(1, .slice ad l.length z), (7, ptr nd), (51, .int .i64 l.length), (52, .int .i64 i)] σ =
      lpAt Tryz.prog env L (k + 12) 4 [true, true, true, true, true, true, false, true] [] (n' + 1) [(1, .slice ad l.length z), (7, ptr nd), (51, .int .i64 l.length), (52, .int .i64 l.length)] σ' ∧ Qs σ0 σ' nd g d gs 160 [[g]]
  | 0, i, σ, _, hn, _ => by omega
  | n + 1, i, σ, hi, hn, hQ => by
    by_cases hie : i = l.length
    · subst hie
      exact ⟨n, σ, rfl, hQ.mono (by omega)⟩
    rw [f4_l10]
    have hget : l[i]? = some l[i] := List.getElem?_eq_getElem (by omega)
    obtain ⟨q, e, hat⟩ := hH.lds hQ.kept c10_len hget
    generalize l[i] = o at *
    subst e
    have hwi : IntKind.wrap .i64 ((i : Int) + 1) = ((i + 1 : Nat) : Int) := by rw [wrap_in _ (by omega) (by omega)]; omega
    have hld : ∀ K : List Value → Res, σ.lds q (0 + Int.toNat (i : Int) * 10) 10 K = K (c10 o) := fun K => by
      rw [hat 0 10 _ (by omega) (by simp)]; rfl
    rw [decide_eq_true (by omega), br_true, need_of (by simp [inRange]; omega), adr_some, hld]
    obtain ⟨σ1, hput, g1, s1, n1⟩ := tmp_put σ [.int .i64 0, .int .i64 0, .int .i64 0, .int .i64 0, .int .i64 0, .int .i64 0, .string ⟨#[]⟩, .int .i64 0, .int .u64 0, .bool false] (c10 o) 61 rfl rfl
    have hQ1 := hQ.push s1 (p := σ.next) (by omega)
    generalize σ.next = p at *
    show ∃ n' σ', (uncons [Value.int .i64 o.kind, .int .i64 o.v, .int .i64 o.n, .int .i64 o.r.seq, .int .i64 o.r.kind, .int .i64 o.r.block, .string o.r.data, .int .i64 o.r.number, .int .u64 o.keep, .bool o.next] _) = _ ∧ _
    rw [uncons_c, asI_i, uncons_c, asI_i, uncons_c, asI_i, uncons_c, asI_i, uncons_c, asI_i, uncons_c, asI_i, uncons_c, asS_s, uncons_c, asI_i, uncons_c, asI_i, uncons_c, asB_b, endl_n]
    have hput' : ∀ K : St → Res, (σ.new (.own [.int .i64 0, .int .i64 0, .int .i64 0, .int .i64 0, .int .i64 0, .int .i64 0, .string ⟨#[]⟩, .int .i64 0, .int .u64 0, .bool false] 61)).put p 0 [.int .i64 o.kind, .int .i64 o.v, .int .i64 o.n, .int .i64 o.r.seq, .int .i64 o.r.kind, .int .i64 o.r.block, .string o.r.data, .int .i64 o.r.number, .int .u64 o.keep, .bool o.next] K = K σ1 := hput
    rw [hput', ld_at g1 0 (.int .i64 o.kind) rfl, asI_i, hwi]
    have rec_ : ∀ {σ2 : St} {c : Nat}, c ≤ 2 * (i + 1) → Qs σ0 σ2 nd g d gs c [[g]] → ∃ n' σ', lpAt Tryz.prog env L (k + 12) 4 [true, true, true, true, true, true, false, true] [] n [(1, .slice (some ⟨q, 0, none⟩) l.length z), (7, ptr nd), (51, .int .i64 l.length), (52, .int .i64 ((i + 1 : Nat) : Int))] σ2 =
        lpAt Tryz.prog env L (k + 12) 4 [true, true, true, true, true, true, false, true] [] (n' + 1) [(1, .slice (some ⟨q, 0, none⟩) l.length z), (7, ptr nd), (51, .int .i64 l.length), (52, .int .i64 l.length)] σ' ∧ Qs σ0 σ' nd g d gs 160 [[g]] := fun hc hQ2 => pr_loop L k hL hl hH n (i + 1) _ (by omega) (by omega) (hQ2.mono hc)
    by_cases h1 : o.kind = 1
    · rw [show (o.kind == 1) = true by simpa using h1, br_true, ld_at g1 1 (.int .i64 o.v) rfl, asI_i]
      by_cases hv0 : o.v ≥ 0
      · rw [decide_eq_true hv0, br_true, ld_at g1 1 (.int .i64 o.v) rfl, asI_i]
        by_cases hv4 : o.v < 4
        · obtain ⟨v, hv⟩ : ∃ v : Nat, o.v = v := ⟨o.v.toNat, by omega⟩
          obtain ⟨x, e, σ2, g2, hQ2, k2⟩ := hQ1.take (by omega) L (k + 8) v (by omega) ⟨0, 0, 0, ⟨#[]⟩, 0⟩
          have g2' : evCall Tryz.prog env L (k + 12) 21 [ptr nd, .int .i64 o.v, .agg #[.int .i64 0, .int .i64 0, .int .i64 0, .string ⟨#[]⟩, .int .i64 0]] σ1 = some (.tuple #[.int .i64 x, e], σ2) := by rw [hv]; exact g2
          have hp2 : σ2.get p = _ := (k2 [p] (by simp) p (by simp)).trans g1
          obtain ⟨σ3, hput3, g3, hQ3⟩ := hQ2.put hp2 3 (.int .i64 (IntKind.wrap .i64 (x + 1))) (by simp [c10]) rfl
          rw [stepR] at g3
          obtain ⟨x4, e4, σ4, g4, hQ4, k4⟩ := hQ3.take (by omega) L (k + 8) v (by omega) ⟨IntKind.wrap .i64 (x + 1), o.r.kind, o.r.block, o.r.data, o.r.number⟩
          have g4' : evCall Tryz.prog env L (k + 12) 21 [ptr nd, .int .i64 o.v, .agg #[.int .i64 (IntKind.wrap .i64 (x + 1)), .int .i64 o.r.kind, .int .i64 o.r.block, .string o.r.data, .int .i64 o.r.number]] σ3 = some (.tuple #[.int .i64 x4, e4], σ4) := by rw [hv]; exact g4
          rw [decide_eq_true hv4, br_true, ld_at g1 1 (.int .i64 o.v) rfl, asI_i, g2', bnd_some, asT_t, toList2, uncons_c, asI_i, uncons_c, endl_n, hput3, ld_at g3 1 (.int .i64 o.v) rfl, asI_i, lds_own (n := 5) _ g3 (by simp [c10])]
          show ∃ n' σ', (uncons [Value.int .i64 (IntKind.wrap .i64 (x + 1)), .int .i64 o.r.kind, .int .i64 o.r.block, .string o.r.data, .int .i64 o.r.number] _) = _ ∧ _
          rw [uncons_c, asI_i, uncons_c, asI_i, uncons_c, asI_i, uncons_c, asS_s, uncons_c, asI_i, endl_n, g4', bnd_some, asT_t, toList2, uncons_c, asI_i, uncons_c, endl_n]
          exact rec_ (by omega) (hQ4.pop (by simp))
        · rw [decide_eq_false hv4, br_false]; exact rec_ (by omega) (hQ1.pop (by simp))
      · rw [decide_eq_false hv0, br_false]; exact rec_ (by omega) (hQ1.pop (by simp))
    rw [show (o.kind == 1) = false by simpa using h1, br_false]
    by_cases h2 : o.kind = 2
    · obtain ⟨x, e, σ2, g2, hQ2, k2⟩ := hQ1.begin (by omega) L (k + 6) hL
      rw [show (o.kind == 2) = true by simpa using h2, br_true, g2, bnd_some, asT_t, toList2, uncons_c, asI_i, uncons_c, endl_n]
      exact rec_ (by omega) (hQ2.pop (by simp))
    rw [show (o.kind == 2) = false by simpa using h2, br_false]
    by_cases h3 : o.kind = 3
    · obtain ⟨σ2, e2, hQ2⟩ := pr_steps L (k + 3) n hL (c := 2 * i) (by omega) (p := p) (o := o) (ad := some ⟨q, 0, none⟩) (n1 := l.length) (z1 := z) (l51 := l.length) (i := i) (by omega) L 0 σ1 (by omega) (by omega) g1 hQ1
      rw [show (o.kind == 3) = true by simpa using h3, br_true]
      have e2' : lpAt Tryz.prog env L (k + 12) 4 [true, true, true, true, true, true, false, true, false, true, true, false, true, true, true, true, true, true, true, true, false, true] [n] L [(1, .slice (some ⟨q, 0, none⟩) l.length z), (7, ptr nd), (10, ptr p), (13, .int .i64 0), (51, .int .i64 l.length), (52, .int .i64 i)] σ1 = _ := e2
      obtain ⟨n', σ3, e3, hQ3⟩ := rec_ (by omega) hQ2
      exact ⟨n', σ3, e2'.trans e3, hQ3⟩
    rw [show (o.kind == 3) = false by simpa using h3, br_false]
    by_cases h4 : o.kind = 4
    · obtain ⟨σ2, g2, hQ2, k2⟩ := hQ1.crash (by omega) L k hL o.keep
      rw [show (o.kind == 4) = true by simpa using h4, br_true, ld_at g1 8 (.int .u64 o.keep) rfl, asI_i, g2, bnd_some]
      exact rec_ (by omega) (hQ2.pop (by simp))
    rw [show (o.kind == 4) = false by simpa using h4, br_false]
    exact rec_ (by omega) (hQ1.pop (by simp))

/-! What follows. -/
def zrec (N : NS) (v : Nat) : S.Rec := ⟨N.apl v + 1, 1, 0, ⟨#[122]⟩, 0⟩
theorem marks_nil {N : NS} (h : ∀ v, v < 4 → S.marksOf (N.st v).rs = []) (gs : GS) : N.ready gs = 0 := by
  unfold NS.ready NS.marks
  rw [show ((List.range 4).flatMap fun v => S.marksOf (N.st v).rs) = [] from by
    rw [List.flatMap_eq_nil_iff]; intro v hv; exact h v (by simpa using hv)]
  rfl
theorem pr_last (L k : Nat) (hL : 100000 < L) {N1 : NS} {c : Nat} (hc : c ≤ 890) (hN1 : N1.Inv c) (he : ∀ v, v < 4 → (N1.st v).rs = []) (hm : N1.mark = 0) {t qf qh : Nat} : ∀ (n v : Nat) (σ : St) (m : Nat) (a : Nat → Nat) (F : Nat → List Nat) (N : NS), v ≤ 4 → 4 - v < n → NdX σ0 σ nd g m d a F N ([qh] :: [qf] :: [t] :: [[g]]) → N.Inv (c + v) → Grp σ g [g] gs →
    N.mark = 0 → (∀ u, u < 4 → N.st u = if u < v then { N1.st u with rs := [zrec N1 u] } else N1.st u) → σ.get t = some (.own [.int .i64 (N1.apl 0), .int .i64 (N1.apl 1), .int .i64 (N1.apl 2), .int .i64 (N1.apl 3)] 68) → E.Err σ (.iface 162 (ptr qf)) 8 0 → E.Err σ (.iface 162 (ptr qh)) 9 0 →
    ∃ σ', lpAt Tryz.prog env L (k + 13) 4 [true, true, true, true, true, true, true, true, true, true, true, false, true] [] n [(7, ptr nd), (14, ptr t), (16, .iface 162 (ptr qf)), (18, .iface 162 (ptr qh)), (128, .int .i64 v)] σ = some (.bool true, σ')
  | 0, v, σ, m, a, F, N, _, hn, _, _, _, _, _, _, _, _ => by omega
  | n + 1, v, σ, m, a, F, N, hv, hn, h, hI, hG, hm0, hst, ht, hf, hh => by
    rw [f4_l34]
    have hlt : ∀ q, [q] ∈ ([qh] :: [qf] :: [t] :: [[g]] : List (List Nat)) → q < σ.next := fun q hq => h.lt hq q (by simp)
    by_cases hv4 : v = 4
    · subst hv4
      rw [decide_eq_false (by decide), br_false]
      obtain ⟨σ1, g1, s1⟩ := E.code_spec L (k + 11) hf
      obtain ⟨σ2, g2, s2⟩ := E.code_spec L (k + 11) (hh.same s1)
      have h2 := (h.idle s1).idle s2
      have hst4 : ∀ u, u < 4 → N.st u = { N1.st u with rs := [zrec N1 u] } := fun u hu => by rw [hst u hu, if_pos hu]
      have hr : N.ready gs = 0 := marks_nil (fun u hu => by rw [hst4 u hu]; rfl) gs
      obtain ⟨σ3, g3, s3⟩ := nready_spec L (k + 8) hL h2 hI (by omega) ((hG.idle s1).idle s2)
      rw [hr] at g3
      have h3 := h2.idle s3
      obtain ⟨σ4, g4, s4⟩ := napplied_spec L (k + 11) hL h3 hI (by omega)
      have h4 := h3.idle s4
      have hap : ∀ u, u < 4 → N.apl u = N1.apl u := fun u hu => by unfold NS.apl; rw [hst4 u hu]
      have hV : N.apV = .agg #[.int .i64 (N1.apl 0), .int .i64 (N1.apl 1), .int .i64 (N1.apl 2), .int .i64 (N1.apl 3)] := by
        unfold NS.apV; rw [hap 0 (by omega), hap 1 (by omega), hap 2 (by omega), hap 3 (by omega)]
      rw [hV] at g4
      have s03 := (s1.trans s2).trans s3
      have s04 := s03.trans s4
      have ht3 : σ3.get t = _ := (s03.2 t (hlt t (by simp)) (by simp)).trans ht
      have ht4 : σ4.get t = _ := (s04.2 t (hlt t (by simp)) (by simp)).trans ht
      obtain ⟨F5, σ5, g5, _, _⟩ := npromote_spec L (k + 3) hL (by omega) h4 hI (hG.idle s04) (by simp)
      have hw : N.im.work = none := by
        rcases hI.wk with ⟨_, h⟩ | ⟨h, _⟩
        · exact h
        · omega
      have hheld : (N.fin gs).held = 4 := by
        unfold NS.fin
        rw [steps_idle gs 35 hw]
        unfold NS.held
        rw [hst4 0 (by omega), hst4 1 (by omega), hst4 2 (by omega), hst4 3 (by omega)]
        rfl
      rw [hheld] at g5
      rw [g1, bnd_some, asI_i, show ((8 : Int) == 8) = true from rfl, br_true, g2, bnd_some, asI_i, show ((9 : Int) == 9) = true from rfl, br_true, g3, bnd_some, asI_i, show ((0 : Int) == 0) = true from rfl, br_true, g4, bnd_some, asAgL_a]
      show ∃ σ', (uncons [Value.int .i64 (N1.apl 0), .int .i64 (N1.apl 1), .int .i64 (N1.apl 2), .int .i64 (N1.apl 3)] _) = _
      rw [uncons_c, asI_i, uncons_c, asI_i, uncons_c, asI_i, uncons_c, asI_i, endl_n, lds_all (n := 4) ht4 rfl, uncons_c, asI_i, uncons_c, asI_i, uncons_c, asI_i, uncons_c, asI_i, endl_n, lds_all (n := 4) ht3 rfl, uncons_c, asI_i, uncons_c, asI_i, uncons_c, asI_i, uncons_c, asI_i, endl_n, chk_same, show (N1.apl 0 == N1.apl 0 && (N1.apl 1 == N1.apl 1 && (N1.apl 2 == N1.apl 2 && (N1.apl 3 == N1.apl 3 && true)))) = true by simp, br_true, g5, bnd_some, asI_i]
      exact ⟨σ5, rfl⟩
    have hi := hN1.st v (by omega)
    have hlen := hi.len
    have hf1 := hi.f1
    have hap : N1.apl v + 1 = (N1.st v).first := by unfold NS.apl; omega
    have hw1 : IntKind.wrap .i64 (N1.apl v + 1) = N1.apl v + 1 := wrap_in _ (by omega) (by omega)
    have hw : IntKind.wrap .i64 ((v : Int) + 1) = ((v + 1 : Nat) : Int) := by rw [wrap_in _ (by omega) (by omega)]; omega
    have hat : ∀ {σ' : St}, σ'.get t = some (.own [.int .i64 (N1.apl 0), .int .i64 (N1.apl 1), .int .i64 (N1.apl 2), .int .i64 (N1.apl 3)] 68) → ∀ K : Value → Res, σ'.ld t (0 + Int.toNat (v : Int) * 1) K = K (.int .i64 (N1.apl v)) := fun hg K => ld_at hg _ _ (by
      rcases (by omega : v = 0 ∨ v = 1 ∨ v = 2 ∨ v = 3) with rfl | rfl | rfl | rfl <;> rfl) K
    obtain ⟨F1, σ1, g1, h1, k1⟩ := ntake_spec L (k + 9) h hI (by omega) v (by omega) (zrec N1 v)
    have hstv : N.st v = N1.st v := by rw [hst v (by omega), if_neg (by omega)]
    have hrs := he v (by omega)
    have htk : (N.take v (zrec N1 v)).st v = { N1.st v with rs := [zrec N1 v] } := by
      unfold NS.take
      dsimp only
      rw [upd_same, hstv]
      unfold SS.take
      rw [if_pos ⟨by rw [hrs]; show N1.apl v + 1 = _; rw [hap]; simp, ⟨by show 1 ≤ N1.apl v + 1; omega, by show N1.apl v + 1 ≤ _; omega⟩, .inl ⟨rfl, by show (0 : Int) ≤ 0; decide, by show (0 : Int) ≤ 7; decide, by show (1 : Nat) ≤ 16; decide, rfl⟩⟩, hrs]
      rfl
    have hlast : ((N.take v (zrec N1 v)).st v).last = N1.apl v + 1 := by
      rw [htk]; unfold SS.last; show (N1.st v).first + ((1 : Nat) : Int) - 1 = _; omega
    rw [hlast] at g1
    have ht1 := (k1 [t] (by simp) t (by simp)).trans ht
    have iv : inRange (v : Int) 4 = true := by simp [inRange]; omega
    have g1' : evCall Tryz.prog env L (k + 13) 21 [ptr nd, .int .i64 v, .agg #[.int .i64 (IntKind.wrap .i64 (N1.apl v + 1)), .int .i64 1, .int .i64 0, .string ⟨#[122]⟩, .int .i64 0]] σ = some (.tuple #[.int .i64 (N1.apl v + 1), .nilIface], σ1) := by rw [hw1]; exact g1
    rw [decide_eq_true (by omega), br_true, need_of iv, hat ht, asI_i, need_true, need_true, g1', bnd_some, asT_t, toList2, uncons_c, asI_i, uncons_c, endl_n, need_of iv, hat ht1, asI_i, hw1, show (N1.apl v + 1 != N1.apl v + 1) = false by simp, br_false, hw]
    refine pr_last L k hL hc hN1 he hm n (v + 1) σ1 m a F1 _ (by omega) (by omega) h1 ((hI.take v _).mono (by omega)) (hG.moved (fun q hq => k1 [g] (by simp) q hq) (h1.lt (by simp))) hm0 (fun u hu => ?_) ht1 (hf.moved (k1 [qf] (by simp) qf (by simp)) (h1.lt (H := [qf]) (by simp) qf (by simp))) (hh.moved (k1 [qh] (by simp) qh (by simp)) (h1.lt (H := [qh]) (by simp) qh (by simp)))
    by_cases e : u = v
    · subst e; rw [htk, if_pos (by omega)]
    · have : (N.take v (zrec N1 v)).st u = N.st u := by unfold NS.take; dsimp only; rw [upd_ne _ _ e]
      rw [this, hst u hu]
      by_cases h1 : u < v
      · rw [if_pos h1, if_pos (by omega)]
      · rw [if_neg h1, if_neg (by omega)]
theorem pr_end (L k n : Nat) (hL : 100000 < L) {σ : St} (hQ : Qs σ0 σ nd g d gs 160 [[g]]) (s1 : Value) {ad : Option Addr} {n1 z1 : Nat} {l51 i : Int} (hil : ¬ i < l51) :
    ∃ σ', lpAt Tryz.prog env L (k + 13) 4 [true, true, true, true, true, true, false, true] [] (n + 1) [(1, .slice ad n1 z1), (7, ptr nd), (51, .int .i64 l51), (52, .int .i64 i)] σ = some (.bool true, σ') := by
  obtain ⟨m, a, F, N, h, hI, hG, _⟩ := hQ
  rw [f4_l10, decide_eq_false hil, br_false]
  obtain ⟨F1, σ1, g1, h1, k1⟩ := npromote_spec L (k + 3) hL (by omega) h hI hG (by simp)
  have hI1 : (N.promote gs).Inv 160 := hI.promote (by omega) gs
  have hm1 : (N.promote gs).mark = 0 := (fin_mark hI gs).1
  have he1 : ∀ v, v < 4 → ((N.promote gs).st v).rs = [] := fun v hv => by unfold NS.promote NS.cut4; dsimp only; rw [if_pos hv]; rfl
  generalize N.promote gs = N1 at *
  have hG1 : Grp σ1 g [g] gs := hG.moved (fun q hq => k1 [g] (by simp) q hq) (h1.lt (by simp))
  obtain ⟨σ2, g2, s2⟩ := napplied_spec L (k + 11) hL h1 hI1 (by omega)
  have g2' : evCall Tryz.prog env L (k + 13) 26 [ptr nd] σ1 = some (.agg #[.int .i64 (N1.apl 0), .int .i64 (N1.apl 1), .int .i64 (N1.apl 2), .int .i64 (N1.apl 3)], σ2) := g2
  rw [g1, bnd_some, asI_i, g2', bnd_some, asAgL_a]
  show ∃ σ', (uncons [Value.int .i64 (N1.apl 0), .int .i64 (N1.apl 1), .int .i64 (N1.apl 2), .int .i64 (N1.apl 3)] _) = _
  obtain ⟨σ3, hput, g3, s3, n3⟩ := tmp_put σ2 [.int .i64 0, .int .i64 0, .int .i64 0, .int .i64 0] [.int .i64 (N1.apl 0), .int .i64 (N1.apl 1), .int .i64 (N1.apl 2), .int .i64 (N1.apl 3)] 68 rfl rfl
  rw [uncons_c, asI_i, uncons_c, asI_i, uncons_c, asI_i, uncons_c, asI_i, endl_n, hput]
  have h3 := (h1.idle s2).push s3 (X := [σ2.next]) (by simp; omega)
  have hG3 := (hG1.idle s2).idle s3
  generalize σ2.next = t at *
  obtain ⟨v4, σ4, g4, k4, hor4⟩ := nbegin_spec L (k + 7) hL h3 hI1 (by omega) hG3
  rw [g4, bnd_some]
  have hr1 : N1.ready gs = 0 := marks_nil (fun v hv => by rw [he1 v hv]; rfl) gs
  rcases hor4 with ⟨hx, _⟩ | ⟨_, _, ⟨e4, rfl, hfr4⟩, s4⟩ | ⟨_, hx, _⟩
  · exact absurd hm1 hx
  rotate_left
  · exact absurd hr1 hx
  obtain ⟨qf, rfl, hf, hq1, hq2⟩ := hfr4
  have h4 := h3.push s4 (X := [qf]) (by simp; omega)
  obtain ⟨v5, F5, σ5, g5, k5, hor5⟩ := nstep_spec L (k + 4) hL (by omega) h4 hI1 (hG3.idle s4) (by simp)
  rw [asT_t, toList2, uncons_c, asI_i, uncons_c, endl_n, g5, bnd_some]
  rcases hor5 with ⟨_, ⟨e5, rfl, hfr5⟩, s5⟩ | ⟨_, _, hx, _⟩
  rotate_left
  · exact absurd hm1 hx
  obtain ⟨qh, rfl, hh, hq3, hq4⟩ := hfr5
  have h5 := h4.push s5 (X := [qh]) (by simp; omega)
  rw [asT_t, toList2, uncons_c, asB_b, uncons_c, endl_n]
  have s35 := s4.trans s5
  exact pr_last L k hL (c := 160) (by omega) hI1 he1 hm1 L 0 σ5 m a F1 N1 (by omega) (by omega) h5 hI1 (hG3.idle s35) hm1 (fun u _ => by rw [if_neg (by omega)]) ((s35.2 t (by omega) (by simp)).trans g3) (hf.same s5) hh
end
theorem promotes_holds (L k : Nat) (hL : 100000 < L) {σ0 : St} {ad0 ad1 : Option Addr} {l0 : List Int} {l1 : List OpB} (h0 : Holds σ0 1 c1 ad0 l0) (h1 : Holds σ0 10 c10 ad1 l1) :
    ∃ σ', evCall Tryz.prog env L (k + 14) 4 [.slice ad0 l0.length 0, .slice ad1 l1.length 0] σ0 = some (.bool true, σ') := by
  rw [f4_eq]
  obtain ⟨σ1, g1, s1⟩ := awake_spec L (k + 1) hL σ0
  have hk1 : Kept' σ0.next σ0 σ1 := ⟨s1.1, fun k hk => s1.2 k hk (by simp)⟩
  rw [g1, bnd_some, asB_b, not_true, br_false]
  obtain ⟨b, g2, hb⟩ := few_spec80 L (k + 12) hL hk1 0 h1
  rw [g2, bnd_some, asB_b]
  obtain ⟨σ3, g3, _⟩ := awake_spec L (k + 1) hL σ1
  cases b with
  | false => rw [not_false, br_true, g3, bnd_some, asB_b]; exact ⟨σ3, rfl⟩
  | true =>
    rw [not_true, br_false]
    by_cases h10 : ((l0.length : Nat) : Int) > 10
    · rw [decide_eq_true h10, br_true, g3, bnd_some, asB_b]; exact ⟨σ3, rfl⟩
    rw [decide_eq_false h10, br_false]
    rcases begun L (k + 1) hL s1 0 (by omega) h0 with ⟨e, σ2, _, e2, _⟩ | ⟨g, σ2, d, σ3, nd, m, a, F, σ4, hok, e2, e3, e4, h4, hG⟩
    · rw [e2, bnd_some, asT_t, toList2, uncons_c, asP_p, uncons_c, endl_n]
      exact ⟨σ2, rfl⟩
    rw [e2, bnd_some, asT_t, toList2, uncons_c, asP_p, uncons_c, endl_n, show (Option.isNone (some (⟨g, 0, none⟩ : Addr))) = false from rfl, br_false, e3, bnd_some, asP_p, e4, bnd_some, asT_t, toList2, uncons_c, asP_p, uncons_c, endl_n, eqNil_nil, not_true, br_false]
    have h80 := hb rfl
    obtain ⟨n', σ5, e5, hQ⟩ := pr_loop L (k + 1) hL (hb rfl) h1 (nd := nd) (z := 0) L 0 σ4 (by omega) (by omega) (⟨m, a, F, newN, h4, newN_inv, hG, by simp⟩ : Qs σ0 σ4 nd g d (gOf l0) (2 * 0) [[g]])
    obtain ⟨σ6, e6⟩ := pr_end L k n' hL hQ .nilIface (ad := ad1) (n1 := l1.length) (z1 := 0) (l51 := l1.length) (i := l1.length) (by omega)
    exact ⟨σ6, e5.trans e6⟩
end Go.AM.Bk

/-
  Of what the laws' arguments say: records, calls.
-/
namespace Go.AM.Bk
open Go.Proofs
theorem intOf {σ : St} {row : List Value} (h : Go.AM.Img Tryz.prog σ 3 row) : ∃ n : Int, row = c1 n := by
  obtain ⟨n, e, _⟩ := Go.AM.Img.int_inv Tryz.underlying3 h
  exact ⟨n, e⟩
set_option maxRecDepth 20000 in
theorem recB {σ : St} {row : List Value} (h : Go.AM.Img Tryz.prog σ 58 row) : ∃ r : S.Rec, row = S.c5 r := by
  obtain ⟨h1, h2⟩ := h.struct_inv Tryz.underlying58
  have hl : row.length = 5 := by rw [h1]; kernel_rfl
  match row, hl with
  | [x, y, b, s, m], _ =>
    have hx := h2 _ (List.mem_of_getElem? (i := 0) rfl)
    have hy := h2 _ (List.mem_of_getElem? (i := 1) rfl)
    have hb := h2 _ (List.mem_of_getElem? (i := 2) rfl)
    have hs := h2 _ (List.mem_of_getElem? (i := 3) rfl)
    have hm := h2 _ (List.mem_of_getElem? (i := 4) rfl)
    have e3 : Tryz.prog.cellsOf 3 = 1 := by kernel_rfl
    have e9 : Tryz.prog.cellsOf 9 = 1 := by kernel_rfl
    simp only [e3] at hx hy hb hm
    simp only [e9] at hs
    obtain ⟨n0, w0, _⟩ := Go.AM.Img.int_inv Tryz.underlying3 hx
    obtain ⟨n1, w1, _⟩ := Go.AM.Img.int_inv Tryz.underlying3 hy
    obtain ⟨n2, w2, _⟩ := Go.AM.Img.int_inv Tryz.underlying3 hb
    obtain ⟨t, w3, _⟩ := Go.AM.Img.str_inv Tryz.underlying9 hs
    obtain ⟨n4, w4, _⟩ := Go.AM.Img.int_inv Tryz.underlying3 hm
    simp at w0 w1 w2 w3 w4
    exact ⟨⟨n0, n1, n2, t, n4⟩, by rw [w0, w1, w2, w3, w4]; rfl⟩
set_option maxRecDepth 20000 in
theorem opB {σ : St} {row : List Value} (h : Go.AM.Img Tryz.prog σ 61 row) : ∃ o : OpB, row = c10 o := by
  obtain ⟨h1, h2⟩ := h.struct_inv Tryz.underlying61
  have hl : row.length = 10 := by rw [h1]; kernel_rfl
  match row, hl with
  | [x, y, z, r0, r1, r2, r3, r4, kp, b], _ =>
    have hx := h2 _ (List.mem_of_getElem? (i := 0) rfl)
    have hy := h2 _ (List.mem_of_getElem? (i := 1) rfl)
    have hz := h2 _ (List.mem_of_getElem? (i := 2) rfl)
    have hr := h2 _ (List.mem_of_getElem? (i := 3) rfl)
    have hk := h2 _ (List.mem_of_getElem? (i := 4) rfl)
    have hb := h2 _ (List.mem_of_getElem? (i := 5) rfl)
    have e3 : Tryz.prog.cellsOf 3 = 1 := by kernel_rfl
    have e58 : Tryz.prog.cellsOf 58 = 5 := by kernel_rfl
    have e59 : Tryz.prog.cellsOf 59 = 1 := by kernel_rfl
    have e4 : Tryz.prog.cellsOf 4 = 1 := by kernel_rfl
    simp only [e3] at hx hy hz
    simp only [e58] at hr
    simp only [e59] at hk
    simp only [e4] at hb
    obtain ⟨n0, w0, _⟩ := Go.AM.Img.int_inv Tryz.underlying3 hx
    obtain ⟨n1, w1, _⟩ := Go.AM.Img.int_inv Tryz.underlying3 hy
    obtain ⟨n2, w2, _⟩ := Go.AM.Img.int_inv Tryz.underlying3 hz
    obtain ⟨r, wr⟩ := recB hr
    obtain ⟨n3, w3, hu⟩ := Go.AM.Img.int_inv Tryz.underlying59 hk
    obtain ⟨c, w4⟩ := Go.AM.Img.bool_inv Tryz.underlying4 hb
    simp [S.c5] at w0 w1 w2 w3 w4 wr
    obtain ⟨a0, a1, a2, a3, a4⟩ := wr
    exact ⟨⟨n0, n1, n2, r, n3, c⟩, by rw [w0, w1, w2, w3, w4, a0, a1, a2, a3, a4]; rfl⟩
end Go.AM.Bk
