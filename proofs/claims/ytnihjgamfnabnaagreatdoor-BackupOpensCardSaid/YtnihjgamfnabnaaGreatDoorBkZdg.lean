/-
  Texts laid together: BkZd, BkZe, BkZf, BkZg, BkOp.
-/
import Derived.Test.YtnihjgamfnabnaaGreatDoorBkDcg
import Derived.Test.YtnihjgamfnabnaaGreatDoorAm13g
import Derived.Test.YtnihjgamfnabnaaGreatDoorBkMg
set_option linter.unusedVariables false
set_option linter.unusedSimpArgs false
set_option linter.unusedSectionVars false
/-
  THE NODE: Begin, Step, Crash, Promote, Image, Applied.
-/
namespace Go.AM.Bk
open Go.Proofs

theorem strs_set32 (b : List ByteArray) (v : Nat) (x : Int) (hx : 0 ≤ x) (s : ByteArray) : (strs b).set (0 + Int.toNat (v : Int) * 8 + Int.toNat x * 1) (.string s) = strs (b.set (8 * v + x.toNat) s) := by
  rw [strs_set]; congr 2; simp; omega
theorem replay_snoc (b : List ByteArray) (v : Nat) (l : List S.Rec) (r : S.Rec) : replay b v (l ++ [r]) = if r.kind = 1 then (replay b v l).set (8 * v + r.block.toNat) r.data else replay b v l := by
  unfold replay; rw [List.foldl_append]; rfl

section
variable {σ0 σ : St} {nd g m d : Nat} {a : Nat → Nat} {F : Nat → List Nat} {N : NS} {R : List (List Nat)} {c : Nat}

/-! Begin. -/
theorem nbegin_inner (L k m0 : Nat) {p : Nat} {mk : Int} {ad1 : Option Addr} {n1 z1 : Nat} {s43 : Int} {i1 : Nat} (hi1 : i1 ≤ 10) {v : Nat} (hv : v < 4) {b : List ByteArray} (hb : b.length = 32) {l : List S.Rec} (hl : l.length ≤ 1000) (hcan : ∀ r ∈ l, S.Can r) {ad : Option Addr} {z : Nat} {q : List Nat} (hp : p ∉ q) : ∀ (n i : Nat) (σ : St), i ≤ l.length → l.length - i < n → Row S.c5 5 58 σ ad z q l → σ.get p = some (.own (strs (replay b v (l.take i))) 45) → p < σ.next →
    ∃ σ2, lpAt Tryz.prog env L k 22 [true, true, true, true, true, false, true, false, true, true, false, true, true, true] [m0] n [(0, ptr nd), (4, .int .i64 mk), (5, ptr p), (7, .int .i64 v), (42, .slice ad1 n1 z1), (43, .int .i64 s43), (44, .int .i64 i1), (59, .slice ad l.length z), (60, .int .i64 l.length), (61, .int .i64 i)] σ =
      lpAt Tryz.prog env L k 22 [true, true, true, true, true, false, true] [] m0 [(0, ptr nd), (4, .int .i64 mk), (5, ptr p), (42, .slice ad1 n1 z1), (43, .int .i64 s43), (44, .int .i64 ((i1 + 1 : Nat) : Int))] σ2 ∧ σ2.get p = some (.own (strs (replay b v l)) 45) ∧ Same σ σ2 [p]
  | 0, i, σ, _, hn, _, _, _ => by omega
  | n + 1, i, σ, hi, hn, hR, hg, hpl => by
    rw [f22_l14]
    by_cases hie : i = l.length
    · subst hie
      have hw : IntKind.wrap .i64 ((i1 : Int) + 1) = ((i1 + 1 : Nat) : Int) := by rw [wrap_in _ (by omega) (by omega)]; omega
      rw [decide_eq_false (by omega), br_false, hw]
      rw [List.take_length] at hg
      exact ⟨σ, rfl, hg, Same.refl _ _⟩
    have hget : l[i]? = some l[i] := List.getElem?_eq_getElem (by omega)
    have hri := hcan l[i] (List.getElem_mem _)
    have htk : l.take (i + 1) = l.take i ++ [l[i]] := by rw [List.take_add_one, hget]; rfl
    obtain ⟨w, e, hld⟩ := hR.lds (fun _ => rfl) hget
    generalize l[i] = r at *
    subst e
    have hw : IntKind.wrap .i64 ((i : Int) + 1) = ((i + 1 : Nat) : Int) := by rw [wrap_in _ (by omega) (by omega)]; omega
    rw [decide_eq_true (by omega), br_true, need_of (by simp [inRange]; omega), adr_some, hld _ (by simp)]
    unfold S.c5
    rw [uncons_c, asI_i, uncons_c, asI_i, uncons_c, asI_i, uncons_c, asS_s, uncons_c, asI_i, endl_n]
    obtain ⟨σ1, hput, g1, s1, n1'⟩ := tmp_put σ [.int .i64 0, .int .i64 0, .int .i64 0, .string ⟨#[]⟩, .int .i64 0] [.int .i64 r.seq, .int .i64 r.kind, .int .i64 r.block, .string r.data, .int .i64 r.number] 58 rfl rfl
    have hg1 : σ1.get p = _ := (s1.2 p hpl (by simp)).trans hg
    rw [hput, ld_at g1 1 _ rfl, asI_i, hw]
    have hrl := replay_len v (l.take i) b
    by_cases hk : r.kind = 1
    · obtain ⟨_, hc1 | hc1⟩ := hri
      rotate_left
      · omega
      obtain ⟨_, hb0, hb7, _⟩ := hc1
      rw [show (r.kind == 1) = true by simpa using hk, br_true, ld_at g1 2 _ rfl, asI_i, ld_at g1 3 _ rfl, asS_s, need_of (by simp [inRange]; omega), need_of (by simp [inRange]; omega), put_at hg1 _ (.string r.data) (by rw [strs_len, hrl, hb]; simp; omega) rfl, strs_set32 _ _ _ hb0]
      have s2 := Same.set σ1 p (.own (strs ((replay b v (l.take i)).set (8 * v + r.block.toNat) r.data)) 45)
      have hrs := replay_snoc b v (l.take i) r
      rw [if_pos hk, ← htk] at hrs
      rw [← hrs] at s2 ⊢
      have s02 : Same σ _ [p] := (s1.mono (by simp)).trans s2
      obtain ⟨σ3, e3, g3, s3⟩ := nbegin_inner L k m0 hi1 hv hb hl hcan hp n (i + 1) _ (by omega) (by omega) (hR.same s02 (fun x hx => by simp; rintro rfl; exact hp hx)) (get_set_same _ _ _) (by simp; omega)
      exact ⟨σ3, e3, g3, s02.trans s3⟩
    · rw [show (r.kind == 1) = false by simpa using hk, br_false]
      have hrs := replay_snoc b v (l.take i) r
      rw [if_neg hk, ← htk] at hrs
      rw [← hrs] at hg1
      obtain ⟨σ3, e3, g3, s3⟩ := nbegin_inner L k m0 hi1 hv hb hl hcan hp n (i + 1) σ1 (by omega) (by omega) (hR.same s1 (by simp)) hg1 (by omega)
      exact ⟨σ3, e3, g3, (s1.mono (by simp)).trans s3⟩
theorem foldl_drop {α β : Type} (f : β → α → β) (x : β) (l : List α) (i : Nat) (y : α) (h : l[i]? = some y) : (l.take (i + 1)).foldl f x = f ((l.take i).foldl f x) y := by
  rw [List.take_add_one, h, List.foldl_append]; rfl
theorem nbegin_outer (L k : Nat) (hL : 100000 < L) (h : NdX σ0 σ nd g m d a F N R) (hI : N.Inv c) (hc : c ≤ 899) {mk : Int} {p : Nat} (hpn : σ.next ≤ p) {l : List Nat} (hl : ∀ v ∈ l, v < 4) (hl4 : l.length ≤ 4) {ad : Option Addr} {z : Nat} {q : List Nat} (hpq : p ∉ q) {b : List ByteArray} (hb : b.length = 32) : ∀ (n i : Nat) (σ' : St), i ≤ l.length → l.length - i < n → Same σ σ' [] → Row c1 1 3 σ' ad z q (ints l) → σ'.get p = some (.own (strs ((l.take i).foldl (N.layOne mk) b)) 45) → p < σ'.next →
    ∃ n' σ2, lpAt Tryz.prog env L (k + 3) 22 [true, true, true, true, true, false, true] [] n [(0, ptr nd), (4, .int .i64 mk), (5, ptr p), (42, .slice ad l.length z), (43, .int .i64 l.length), (44, .int .i64 i)] σ' =
      lpAt Tryz.prog env L (k + 3) 22 [true, true, true, true, true, false, true] [] (n' + 1) [(0, ptr nd), (4, .int .i64 mk), (5, ptr p), (42, .slice ad l.length z), (43, .int .i64 l.length), (44, .int .i64 l.length)] σ2 ∧ Same σ σ2 [] ∧ σ2.get p = some (.own (strs (l.foldl (N.layOne mk) b)) 45) ∧ p < σ2.next
  | 0, i, σ', _, hn, _, _, _, _ => by omega
  | n + 1, i, σ', hi, hn, hs, hR, hg, hpl => by
    by_cases hie : i = l.length
    · subst hie
      rw [List.take_length] at hg
      exact ⟨n, σ', rfl, hs, hg, hpl⟩
    rw [f22_l10]
    have h' := h.idle hs
    have hget : l[i]? = some l[i] := List.getElem?_eq_getElem (by omega)
    have hlv := hl l[i] (List.getElem_mem _)
    have hfd := foldl_drop (N.layOne mk) b l i _ hget
    have hbl := lay_len N mk (l.take i) b
    generalize l[i] = v at *
    obtain ⟨w, e, hat⟩ := hR.at (fun _ => rfl) (i := i) (a := (v : Int)) (by unfold ints; rw [List.getElem?_map, hget]; rfl)
    subst e
    have hv4 := hI.st v hlv
    have hlen := hv4.len
    have hf1 := hv4.f1
    rw [decide_eq_true (by omega), br_true, need_of (by simp [inRange]; omega), adr_some, hat 0 (.int .i64 v) _ (by omega) rfl (by simp), asI_i, need_of (by simp [inRange]; omega), show 0 + 2 + Int.toNat (v : Int) * 1 = 2 + v by simp, h'.stg v hlv, asP_p]
    have step : ∀ {σ2 : St} {ad' : Option Addr} {z' : Nat} {q' : List Nat} {l' : List S.Rec}, Same σ' σ2 [] → Row S.c5 5 58 σ2 ad' z' q' l' → p ∉ q' → l'.length ≤ 1000 → (∀ r ∈ l', S.Can r) → replay ((l.take i).foldl (N.layOne mk) b) v l' = N.layOne mk ((l.take i).foldl (N.layOne mk) b) v →
        ∃ n' σ3, lpAt Tryz.prog env L (k + 3) 22 [true, true, true, true, true, false, true, false, true, true, false, true, true, true] [n] L [(0, ptr nd), (4, .int .i64 mk), (5, ptr p), (7, .int .i64 v), (42, .slice (some ⟨w, 0, none⟩) l.length z), (43, .int .i64 l.length), (44, .int .i64 i), (59, .slice ad' l'.length z'), (60, .int .i64 l'.length), (61, .int .i64 0)] σ2 =
          lpAt Tryz.prog env L (k + 3) 22 [true, true, true, true, true, false, true] [] (n' + 1) [(0, ptr nd), (4, .int .i64 mk), (5, ptr p), (42, .slice (some ⟨w, 0, none⟩) l.length z), (43, .int .i64 l.length), (44, .int .i64 l.length)] σ3 ∧ Same σ σ3 [] ∧ σ3.get p = some (.own (strs (l.foldl (N.layOne mk) b)) 45) ∧ p < σ3.next := by
      intro σ2 ad' z' q' l' s2 hR2 hpq' hl' hcan hrep
      have n2 := s2.1
      obtain ⟨σ3, e3, g3, s3⟩ := nbegin_inner (nd := nd) L (k + 3) n (mk := mk) (ad1 := some ⟨w, 0, none⟩) (n1 := l.length) (z1 := z) (s43 := l.length) (i1 := i) (by omega) hlv (hbl.trans hb) hl' hcan hpq' L 0 σ2 (by omega) (by omega) hR2 (by rw [List.take_zero]; exact (s2.2 p hpl (by simp)).trans hg) (by omega)
      rw [hrep, ← hfd] at g3
      have n3 := s3.1
      have s03 : Same σ σ3 [] := (hs.trans s2).fresh s3 (fun x hx => .inr (by simp at hx; omega))
      obtain ⟨n', σ4, e4, h4⟩ := nbegin_outer L k hL h hI hc hpn hl hl4 hpq hb n (i + 1) σ3 (by omega) (by omega) s03 ((hR.same s2 (by simp)).same s3 (fun x hx => by simp; rintro rfl; exact hpq hx)) g3 (by omega)
      exact ⟨n', σ4, e3.trans e4, h4⟩
    rcases S.upto_spec (h'.st v hlv) L k (by omega) (by omega) (Nat.le_refl _) mk with ⟨j, r, ad', z', q', σ2, g2, hR2, s2, hq2, hjl, hj, hh, hno⟩ | ⟨σ2, g2, s2, hno⟩
    · have htl : ((N.st v).rs.take (j + 1)).length = j + 1 := by rw [List.length_take]; omega
      obtain ⟨n', σ3, e3, h3⟩ := step s2 hR2 (fun hx => by have := hq2 p hx; omega) (by omega) (fun r hr => by
        obtain ⟨i, hi⟩ := List.mem_iff_getElem?.1 (List.mem_of_mem_take hr)
        exact (hv4.seq i r hi).1) (by unfold NS.layOne; rw [upTo_some hj hh hno])
      rw [htl] at e3
      rw [g2, bnd_some, asT_t, toList2, uncons_c, asSl_s, uncons_c, asB_b, endl_n]
      exact ⟨n', σ3, e3, h3⟩
    · obtain ⟨n', σ3, e3, h3⟩ := step (l' := []) s2 (Row.nil _ _ _ _) (by simp) (by simp) (by simp) (by unfold NS.layOne; rw [upTo_none (rs := (N.st v).rs) (m := mk) (fun r hr => hno r (by rw [List.take_length]; exact hr))]; rfl)
      rw [g2, bnd_some, asT_t, toList2, uncons_c, asSl_s, uncons_c, asB_b, endl_n]
      exact ⟨n', σ3, e3, h3⟩

theorem NS.Inv.begun (hI : N.Inv c) (h0 : N.mark = 0) {gs : GS} (hr : N.ready gs ≠ 0) : (N.begun gs (N.ready gs)).Inv (c + 1) ∧ long (N.lay gs (N.ready gs)) = false ∧ N.ready gs ≤ top ∧ (N.im.km : Int) < N.ready gs ∧ 0 < N.ready gs := by
  obtain ⟨hcan, hpos⟩ := ready_can hr
  obtain ⟨_, htop⟩ := can_top hI hcan
  obtain ⟨_, hkm, _⟩ := can_inv hcan
  have hw : N.im.work = none := by
    rcases hI.wk with ⟨_, h⟩ | ⟨h, _⟩
    · exact h
    · omega
  have hbl : long N.im.bl = false := by
    by_cases h0 : N.im.t = 0
    · rw [(hI.im.good.zero h0).2.2.2]; exact long_none
    · rw [long_false]
      intro s hs
      obtain ⟨i, hi⟩ := List.mem_iff_getElem?.1 hs
      exact (hI.im.good.blocks (by omega) i s hi).2
  have hlg := lay_long hI (N.ready gs) (gs.at_ (N.ready gs)) N.im.bl (fun v hv => at_lt hv) hbl
  have hll : (N.lay gs (N.ready gs)).length = 32 := (lay_len N _ _ _).trans hI.im.good.len
  refine ⟨⟨hI.im.begin hw hll hlg htop hkm, ?_, fun v hv => (hI.st v hv).mono (by omega), .inr ⟨hpos, _, 0, rfl⟩⟩, hlg, htop, hkm, hpos⟩
  have := hI.tc
  unfold NS.begun
  dsimp only
  simp
  split at this <;> omega
theorem nbegin_spec (L k : Nat) (hL : 100000 < L) (h : NdX σ0 σ nd g m d a F N R) (hI : N.Inv c) (hc : c ≤ 899) {G : List Nat} {gs : GS} (hG : Grp σ g G gs) :
    ∃ v σ', evCall Tryz.prog env L (k + 6) 22 [ptr nd] σ = some (v, σ') ∧ Kp σ σ' R ∧
      ((N.mark ≠ 0 ∧ (∃ e, v = .tuple #[.int .i64 0, e] ∧ Fr σ σ' e 9 0) ∧ Same σ σ' []) ∨ (N.mark = 0 ∧ N.ready gs = 0 ∧ (∃ e, v = .tuple #[.int .i64 0, e] ∧ Fr σ σ' e 8 0) ∧ Same σ σ' []) ∨
       (N.mark = 0 ∧ N.ready gs ≠ 0 ∧ v = .tuple #[.int .i64 (N.ready gs), .nilIface] ∧ NdX σ0 σ' nd g m d a F (N.begun gs (N.ready gs)) R)) := by
  rw [f22_eq, ld_at h.nd 7 (.int .i64 N.mark) rfl, asI_i]
  by_cases h0 : N.mark = 0
  rotate_left
  · obtain ⟨e, σ1, g1, hE, s1⟩ := wrong46 L (k + 3) σ 0 9 (by decide)
    rw [show (N.mark != 0) = true by simpa using h0, br_true, g1, bnd_some]
    exact ⟨_, σ1, rfl, h.kept s1, .inl ⟨h0, ⟨e, rfl, hE⟩, s1⟩⟩
  obtain ⟨σ1, g1, s1⟩ := nready_spec L k hL h hI hc hG
  rw [show (N.mark != 0) = false by simpa using h0, br_false, g1, bnd_some, asI_i]
  by_cases hr : N.ready gs = 0
  · obtain ⟨e, σ2, g2, hE, s2⟩ := wrong46 L (k + 3) σ1 0 8 (by decide)
    have s02 := s1.trans s2
    rw [show (N.ready gs == 0) = true by simpa using hr, br_true, g2, bnd_some]
    exact ⟨_, σ2, rfl, h.kept s02, .inr (.inl ⟨h0, hr, ⟨e, rfl, hE.before s1.1⟩, s02⟩)⟩
  have h1 := h.idle s1
  obtain ⟨σ2, g2, s2⟩ := blocksS h1.im L (k + 4)
  have hbl := h1.im.blen
  have e1 : (strs N.im.bl).toArray.toList = strs N.im.bl := rfl
  rw [show (N.ready gs == 0) = false by simpa using hr, br_false, ld_at h1.nd 1 (ptr m) rfl, asP_p, g2, bnd_some, asAgL_a, e1, need_of (by rw [strs_len, hbl]; rfl), tmp_put2 σ2 _ (strs N.im.bl) 45 (by rw [strs_len, hbl]; rfl) (strs_one _)]
  have s3 : Same σ2 (σ2.new (.own (strs N.im.bl) 45)) [] := Same.new _ _ _
  have g3 : (σ2.new (.own (strs N.im.bl) 45)).get σ2.next = some (.own (strs N.im.bl) 45) := get_new_same _ _
  have n3 : (σ2.new (.own (strs N.im.bl) 45)).next = σ2.next + 1 := rfl
  generalize σ2.new (.own (strs N.im.bl) 45) = σ3 at s3 g3 n3
  have s03 := (s1.trans s2).trans s3
  have h3 := h.idle s03
  obtain ⟨ad, z, q, σ4, g4, hR4, s4, hq4⟩ := atg_spec L (k + 3) (by omega) (hG.idle s03) (N.ready gs)
  rw [ld_at h3.nd 6 (ptr g) rfl, asP_p, g4, bnd_some, asSl_s]
  have s04 := s03.trans s4
  have n02 := (s1.trans s2).1
  have n4 := s4.1
  have hal := at_len gs (N.ready gs)
  obtain ⟨n', σ5, e5, s05, g5, l5⟩ := nbegin_outer L (k + 2) hL h hI hc (mk := N.ready gs) (p := σ2.next) (by omega) (l := gs.at_ (N.ready gs)) (fun v hv => at_lt hv) hal (fun hx => by have := hq4 _ hx; omega) hbl L 0 σ4 (by omega) (by omega) s04 hR4 (by rw [List.take_zero]; exact (s4.2 _ (by omega) (by simp)).trans g3) (by omega)
  have e5' := e5
  rw [f22_l10, decide_eq_false (by omega), br_false] at e5
  have h5 := h.idle s05
  obtain ⟨hI', hlg, htop, hkm, hpos⟩ := hI.begun h0 hr
  have hll : (N.lay gs (N.ready gs)).length = 32 := (lay_len N _ _ _).trans hbl
  have hw : N.im.work = none := by
    rcases hI.wk with ⟨_, h⟩ | ⟨h, _⟩
    · exact h
    · omega
  obtain ⟨v, σ6, g6, k6, hor⟩ := begin_spec h5.im L (k + 1) hL hI.im.ok hll (N.ready gs)
  rw [ld_at h5.nd (0 + 1) (ptr m) rfl, asP_p, lds_all (n := 32) g5 (by rw [strs_len]; exact hll.symm)] at e5
  have g6' : evCall Tryz.prog env L (k + 5) 63 [ptr m, .agg (strs ((gs.at_ (N.ready gs)).foldl (N.layOne (N.ready gs)) N.im.bl)).toArray, .int .i64 (N.ready gs)] σ5 = some (v, σ6) := g6
  rw [g6', bnd_some] at e5
  rcases hor with ⟨hx, _⟩ | ⟨_, hx | hx, _⟩ | ⟨_, _, _, hx, _⟩ | ⟨_, _, _, _, rfl, hI6⟩
  · exact absurd hw hx
  · rw [hlg] at hx; cases hx
  · omega
  · omega
  obtain ⟨h6, kp6⟩ := h5.image hI6 k6
  obtain ⟨σ7, g7, h7, kp7⟩ := h6.own (N.ready gs)
  rw [eqNil_nil, not_true, br_false, g7] at e5
  refine ⟨_, σ7, e5, ((h.kept s05).trans kp6).trans kp7, .inr (.inr ⟨h0, hr, rfl, h7⟩)⟩
end
end Go.AM.Bk

/-
  THE NODE: drop, Step, Crash.
-/
namespace Go.AM.Bk
open Go.Proofs

theorem ImS.perm {σ0 σ : St} {m d : Nat} {s : IS} {Rs Gs : List (List Nat)} (h : ImS σ0 σ m d s Rs) (f : Nat → Nat) (hf : ∀ i j, f i = f j → i = j) (hg : ∀ i G, Gs[i]? = some G → Rs[f i]? = some G) : ImS σ0 σ m d s Gs := by
  obtain ⟨F, G, w, a1, a2, a3, a4, a5⟩ := h.ex
  refine ⟨F, G, w, a1, a2, a3.map (fun i => if i < 2 then i else f (i - 2) + 2) (fun i j e => ?_) (fun i H hH => ?_), a4, a5⟩
  · by_cases hi : i < 2 <;> by_cases hj : j < 2 <;> simp [hi, hj] at e <;> first | omega | (have := hf _ _ e; omega)
  · match i, hH with
    | 0, hH => exact hH
    | 1, hH => exact hH
    | i + 2, hH => exact hg i H hH
section
variable {σ0 σ : St} {nd g m d : Nat} {a : Nat → Nat} {F : Nat → List Nat} {N : NS} {R : List (List Nat)} {c : Nat}
/-- One more thing beside the node. -/
theorem NdX.push (h : NdX σ0 σ nd g m d a F N R) {σ' : St} (hs : Same σ σ' []) {X : List Nat} (hX : ∀ q ∈ X, σ.next ≤ q ∧ q < σ'.next) : NdX σ0 σ' nd g m d a F N (X :: R) := by
  have hi := h.idle hs
  refine ⟨(h.im.push2 hs hX).perm (fun i => if i < 5 then i + 1 else if i = 5 then 0 else i) (fun i j e => ?_) (fun i H hH => ?_), hi.nd, hi.st⟩
  · by_cases h1 : i < 5 <;> by_cases h2 : j < 5 <;> by_cases h3 : i = 5 <;> by_cases h4 : j = 5 <;> simp [h1, h2, h3, h4] at e <;> omega
  · match i, hH with
    | 0, hH => exact hH
    | 1, hH => exact hH
    | 2, hH => exact hH
    | 3, hH => exact hH
    | 4, hH => exact hH
    | 5, hH => exact hH
    | i + 6, hH => exact hH
theorem NdX.pop {X : List Nat} (h : NdX σ0 σ nd g m d a F N (X :: R)) : NdX σ0 σ nd g m d a F N R := by
  refine ⟨h.im.perm (fun i => if i < 5 then i else i + 1) (fun i j e => ?_) (fun i H hH => ?_), h.nd, h.st⟩
  · by_cases h1 : i < 5 <;> by_cases h2 : j < 5 <;> simp [h1, h2] at e <;> omega
  · match i, hH with
    | 0, hH => exact hH
    | 1, hH => exact hH
    | 2, hH => exact hH
    | 3, hH => exact hH
    | 4, hH => exact hH
    | i + 5, hH => exact hH

/-! drop. -/
theorem dropL_snoc (N : NS) (mk : Int) (l : List Nat) (v : Nat) (hv : v ∉ l) : N.dropL mk (l ++ [v]) = { N.dropL mk l with st := upd (N.dropL mk l).st v (if (N.st v).mark ≠ mk then (N.st v).drop mk else N.st v) } := by
  unfold NS.dropL
  simp only [NS.mk.injEq, true_and, and_true]
  funext u
  unfold upd
  by_cases hu : u = v
  · subst hu; simp
  · simp [hu]
theorem ndrop_loop (L k : Nat) (hL : 100000 < L) (hc : c ≤ 899) (mk : Int) {l : List Nat} (hl : ∀ v ∈ l, v < 4) (hl4 : l.length ≤ 4) (hnd : l.Nodup) {ad : Option Addr} {z : Nat} {q : List Nat} (hI : N.Inv c) : ∀ (n i : Nat) (σ : St) (F : Nat → List Nat), i ≤ l.length → l.length - i < n → Row c1 1 3 σ ad z q (ints l) → NdX σ0 σ nd g m d a F (N.dropL mk (l.take i)) (q :: R) →
    ∃ F' σ2, lpAt Tryz.prog env L (k + 4) 65 [true, true] [] n [(0, ptr nd), (2, .int .i64 mk), (17, .slice ad l.length z), (18, .int .i64 l.length), (19, .int .i64 i)] σ = some (.tuple #[], σ2) ∧ NdX σ0 σ2 nd g m d a F' (N.dropL mk l) (q :: R) ∧ Kp σ σ2 (q :: R)
  | 0, i, σ, F, _, hn, _, _ => by omega
  | n + 1, i, σ, F, hi, hn, hR, h => by
    rw [f65_l2]
    by_cases hie : i = l.length
    · subst hie
      rw [List.take_length] at h
      rw [decide_eq_false (by omega), br_false]
      exact ⟨F, σ, rfl, h, Kp.refl _ _⟩
    have hget : l[i]? = some l[i] := List.getElem?_eq_getElem (by omega)
    have hlv := hl l[i] (List.getElem_mem _)
    have htk : l.take (i + 1) = l.take i ++ [l[i]] := by rw [List.take_add_one, hget]; rfl
    have hno : l[i] ∉ l.take i := by
      intro hx
      have h2 := hnd
      rw [← List.take_append_drop i l, List.nodup_append] at h2
      have hdr : l.drop i = l[i] :: l.drop (i + 1) := List.drop_eq_getElem_cons (by omega)
      exact h2.2.2 _ hx _ (by rw [hdr]; exact List.mem_cons_self) rfl
    generalize l[i] = v at *
    have hds := dropL_snoc N mk (l.take i) v hno
    rw [← htk] at hds
    have hsv : (N.dropL mk (l.take i)).st v = N.st v := by unfold NS.dropL; simp [hno]
    obtain ⟨w, e, hat⟩ := hR.at (fun _ => rfl) (i := i) (a := (v : Int)) (by unfold ints; rw [List.getElem?_map, hget]; rfl)
    subst e
    have hw : IntKind.wrap .i64 ((i : Int) + 1) = ((i + 1 : Nat) : Int) := by rw [wrap_in _ (by omega) (by omega)]; omega
    have hv4 := hI.st v hlv
    have hlen := hv4.len
    have hf1 := hv4.f1
    have hS := h.st v hlv
    rw [hsv] at hS
    have iv : inRange (v : Int) 4 = true := by simp [inRange]; omega
    have ho : 0 + 2 + Int.toNat (v : Int) * 1 = 2 + v := by simp
    rw [decide_eq_true (by omega), br_true, need_of (by simp [inRange]; omega), adr_some, hat 0 (.int .i64 v) _ (by omega) rfl (by simp), asI_i, need_of iv, ho, h.stg v hlv, asP_p, S.dropped_spec hS L (k + 3) hf1 (by omega), bnd_some, asT_t, toList2, uncons_c, asI_i, uncons_c, asI_i, endl_n, hw]
    by_cases hm : (N.st v).mark = mk
    · rw [show ((N.st v).mark != mk) = false by simpa using hm, br_false]
      rw [if_neg (by simpa using hm)] at hds
      have hE : N.dropL mk (l.take (i + 1)) = N.dropL mk (l.take i) := by
        rw [hds]
        have : upd (N.dropL mk (l.take i)).st v (N.st v) = (N.dropL mk (l.take i)).st := by
          funext u; unfold upd; by_cases hu : u = v
          · subst hu; simp [hsv]
          · simp [hu]
        rw [this]
      exact ndrop_loop L k hL hc mk hl hl4 hnd hI n (i + 1) σ F (by omega) (by omega) hR (by rw [hE]; exact h)
    · rw [if_pos hm] at hds
      rw [show ((N.st v).mark != mk) = true by simpa using hm, br_true, need_of iv, h.stg v hlv, asP_p]
      have next : ∀ {σ2 : St} {F' : List Nat} {v2 : Value}, Turn σ σ2 (F v) F' → S.Stg σ2 (a v) F' ((N.st v).drop mk).first ((N.st v).drop mk).rs ((N.st v).drop mk).rs.length ((N.st v).drop mk).mark →
          ∃ F'' σ3, lpAt Tryz.prog env L (k + 4) 65 [true, true] [] n [(0, ptr nd), (2, .int .i64 mk), (17, .slice (some ⟨w, 0, none⟩) l.length z), (18, .int .i64 l.length), (19, .int .i64 ((i + 1 : Nat) : Int))] σ2 = some (.tuple #[], σ3) ∧ NdX σ0 σ3 nd g m d a F'' (N.dropL mk l) (q :: R) ∧ Kp σ σ3 (q :: R) := by
        intro σ2 F' v2 hT hS2
        obtain ⟨h2, k2⟩ := h.turn v hlv hT hS2
        rw [← hds] at h2
        have hR2 := hR.moved (fun x hx => k2 q (by simp) x hx) (h2.lt (H := q) (by simp))
        obtain ⟨F'', σ3, e3, h3, k3⟩ := ndrop_loop L k hL hc mk hl hl4 hnd hI n (i + 1) σ2 _ (by omega) (by omega) hR2 h2
        exact ⟨F'', σ3, e3, h3, k2.trans k3⟩
      rcases S.drop_spec hS L k (by omega) (by omega) (Nat.le_refl _) hf1 (by omega) mk with ⟨j, r, F', σ2, g2, hS2, hT2, hjl, hj, hh, hno2⟩ | ⟨w2, σ2, g2, _, s2, hno2⟩
      · have hup := upTo_some hj hh hno2
        rw [g2, bnd_some]
        refine next (v2 := .nilIface) hT2 ?_
        unfold SS.drop
        rw [hup]
        dsimp only
        rw [List.length_drop]
        exact hS2
      · have hup := upTo_none (rs := (N.st v).rs) (m := mk) (fun r hr => hno2 r (by rw [List.take_length]; exact hr))
        rw [g2, bnd_some]
        refine next (v2 := w2) (.idle s2 hS.lt) ?_
        unfold SS.drop
        rw [hup]
        exact hS.idle s2
theorem ndrop_spec (L k : Nat) (hL : 100000 < L) (hc : c ≤ 899) (h : NdX σ0 σ nd g m d a F N R) (hI : N.Inv c) {G : List Nat} {gs : GS} (hG : Grp σ g G gs) :
    ∃ F' σ', evCall Tryz.prog env L (k + 5) 65 [ptr nd] σ = some (.tuple #[], σ') ∧ NdX σ0 σ' nd g m d a F' (N.drop gs) R ∧ Kp σ σ' R := by
  obtain ⟨ad, z, q, σ1, g1, hR, s1, hq⟩ := atg_spec L (k + 2) (by omega) hG (N.im.km : Int)
  have h1 := h.push s1 (X := q) (fun x hx => ⟨hq x hx, hR.lt x hx⟩)
  have hal := at_len gs (N.im.km : Int)
  rw [f65_eq, ld_at h.nd 1 (ptr m) rfl, asP_p, markS h.im L (k + 3), bnd_some, asI_i, ld_at h.nd 6 (ptr g) rfl, asP_p, g1, bnd_some, asSl_s]
  obtain ⟨F', σ2, e2, h2, k2⟩ := ndrop_loop L k hL hc (N.im.km : Int) (l := gs.at_ (N.im.km : Int)) (fun v hv => at_lt hv) hal (at_nodup _ _) hI L 0 σ1 F (by omega) (by omega) hR (by
    have : N.dropL (N.im.km : Int) ((gs.at_ (N.im.km : Int)).take 0) = N := by unfold NS.dropL; simp
    rw [this]; exact h1)
  exact ⟨F', σ2, e2, h2.pop, (h.kept s1).trans (fun H hH => k2 H (List.mem_cons_of_mem _ hH))⟩

/-! Step. -/
theorem NS.Inv.step (hI : N.Inv c) (hc : c ≤ 899) (gs : GS) : (N.step gs).Inv c := by
  unfold NS.step
  cases hw : N.im.work with
  | none => exact hI
  | some p =>
    obtain ⟨mk', bl', k⟩ := p
    have htc := hI.tc
    rw [hw] at htc
    simp at htc
    have hinv := hI.im.step (by omega) hw
    obtain ⟨hm0, bl, k', hwk⟩ : 0 < N.mark ∧ ∃ bl k, N.im.work = some (N.mark.toNat, bl, k) := by
      rcases hI.wk with ⟨_, h⟩ | h
      · rw [hw] at h; cases h
      · exact h
    rw [hw] at hwk
    cases hwk
    have hok := (hI.im.ok.bw _ _ _ hw).1
    dsimp only
    by_cases hk : k = 34
    · rw [if_pos hk]
      subst hk
      refine NS.Inv.dropL (N := { N with im := stepS N.im N.mark.toNat bl' 34, mark := 0 }) ⟨hinv, ?_, hI.st, .inl ⟨rfl, rfl⟩⟩ _ _
      show N.im.t + 1 + 0 ≤ c
      omega
    · rw [if_neg hk]
      refine ⟨hinv, ?_, hI.st, .inr ⟨hm0, ?_⟩⟩
      · unfold stepS
        dsimp only
        split
        · dsimp only; simp; omega
        · split
          · dsimp only; simp; omega
          · split
            · dsimp only; simp; omega
            · omega
      · unfold stepS
        dsimp only
        split
        · exact ⟨_, _, rfl⟩
        · split
          · exact ⟨_, _, rfl⟩
          · split
            · exact ⟨_, _, rfl⟩
            · omega
theorem nstep_spec (L k : Nat) (hL : 100000 < L) (hc : c ≤ 899) (h : NdX σ0 σ nd g m d a F N R) (hI : N.Inv c) {G : List Nat} {gs : GS} (hG : Grp σ g G gs) (hGR : G ∈ R) :
    ∃ v F' σ', evCall Tryz.prog env L (k + 9) 23 [ptr nd] σ = some (v, σ') ∧ Kp σ σ' R ∧
      ((N.mark = 0 ∧ (∃ e, v = .tuple #[.bool false, e] ∧ Fr σ σ' e 9 0) ∧ Same σ σ' []) ∨
       (∃ bl' k, N.mark ≠ 0 ∧ N.im.work = some (N.mark.toNat, bl', k) ∧ v = .tuple #[.bool (decide (k = 34)), .nilIface] ∧ NdX σ0 σ' nd g m d a F' (N.step gs) R)) := by
  rw [f23_eq, ld_at h.nd 7 (.int .i64 N.mark) rfl, asI_i]
  by_cases h0 : N.mark = 0
  · obtain ⟨e, σ1, g1, hE, s1⟩ := wrong46 L (k + 6) σ 0 9 (by decide)
    rw [show (N.mark == 0) = true by simpa using h0, br_true, g1, bnd_some]
    exact ⟨_, F, σ1, rfl, h.kept s1, .inl ⟨h0, ⟨e, rfl, hE⟩, s1⟩⟩
  obtain ⟨hm0, bl, j, hwk⟩ : 0 < N.mark ∧ ∃ bl k, N.im.work = some (N.mark.toNat, bl, k) := by
    rcases hI.wk with ⟨h, _⟩ | h
    · exact absurd h h0
    · exact h
  rw [show (N.mark == 0) = false by simpa using h0, br_false, ld_at h.nd 1 (ptr m) rfl, asP_p]
  obtain ⟨v, σ1, g1, k1, hor⟩ := step_spec h.im L k hL hI.im.ok
  rw [g1, bnd_some]
  rcases hor with ⟨hw, _⟩ | ⟨mk', bl', j', hw, rfl, hI1⟩
  · rw [hwk] at hw; cases hw
  rw [hwk] at hw
  cases hw
  obtain ⟨h1, kp1⟩ := h.image hI1 k1
  rw [asT_t, toList2, uncons_c, asB_b, uncons_c, endl_n]
  by_cases hk : j = 34
  · obtain ⟨σ2, g2, h2, kp2⟩ := h1.own 0
    have hE : N.step gs = NS.drop { N with im := stepS N.im N.mark.toNat bl j, mark := 0 } gs := by unfold NS.step; rw [hwk]; dsimp only; rw [if_pos hk]
    have hG2 : Grp σ2 g G gs := hG.moved (fun q hq => (kp1.trans kp2) G hGR q hq) (h2.lt hGR)
    have hI2 : NS.Inv { N with im := stepS N.im N.mark.toNat bl j, mark := 0 } c := by
      have htc := hI.tc
      rw [hwk] at htc
      simp at htc
      refine ⟨hI.im.step (by omega) hwk, ?_, hI.st, .inl ⟨rfl, by unfold stepS; rw [if_neg (by omega), if_neg (by omega), if_neg (by omega)]⟩⟩
      unfold stepS; rw [if_neg (by omega), if_neg (by omega), if_neg (by omega)]
      show N.im.t + 1 + 0 ≤ c
      omega
    obtain ⟨F', σ3, g3, h3, kp3⟩ := ndrop_spec L (k + 3) hL hc h2 hI2 hG2
    rw [decide_eq_true hk, br_true, g2, g3, bnd_some, asT_t, toList0, endl_n, wrong46_nil L (k + 6), bnd_some]
    exact ⟨_, F', σ3, rfl, (kp1.trans kp2).trans kp3, .inr ⟨bl, j, h0, hwk, by rw [decide_eq_true hk], by rw [hE]; exact h3⟩⟩
  · have hE : N.step gs = { N with im := stepS N.im N.mark.toNat bl j } := by unfold NS.step; rw [hwk]; dsimp only; rw [if_neg hk]
    rw [decide_eq_false hk, br_false, wrong46_nil L (k + 6), bnd_some]
    exact ⟨_, F, σ1, rfl, kp1, .inr ⟨bl, j, h0, hwk, by rw [decide_eq_false hk], by rw [hE]; exact h1⟩⟩

/-! Crash. -/
def NS.crashed (N : NS) (keep : Int) : NS :=
  match opn (rd (D.lay (D.bit keep) 0 N.im.S N.im.W)) with
  | some (t, km, bl) => { N with im := ⟨D.lay (D.bit keep) 0 N.im.S N.im.W, [], t, km, bl, none⟩, mark := 0 }
  | none => N
def NS.crash (N : NS) (keep : Int) (gs : GS) : NS := (N.crashed keep).drop gs
theorem crashed_is (hI : N.Inv c) (hc : c ≤ 899) (keep : Int) : ∃ t km bl, Good (rd (D.lay (D.bit keep) 0 N.im.S N.im.W)) t km bl ∧ t ≤ c ∧ N.crashed keep = { N with im := ⟨D.lay (D.bit keep) 0 N.im.S N.im.W, [], t, km, bl, none⟩, mark := 0 } ∧
    ((t = N.im.t ∧ km = N.im.km ∧ bl = N.im.bl) ∨ (t = N.im.t + 1 ∧ N.im.work = some (km, bl, 34) ∧ D.bit keep 0 = true)) := by
  have htc := hI.tc
  rcases hI.im.crash (D.bit keep) with hg | ⟨mk', bl', hw, hb, hg⟩
  · exact ⟨_, _, _, hg, by split at htc <;> omega, by unfold NS.crashed; rw [hg.opn], .inl ⟨rfl, rfl, rfl⟩⟩
  · rw [hw] at htc; simp at htc
    exact ⟨_, _, _, hg, htc, by unfold NS.crashed; rw [hg.opn], .inr ⟨rfl, hw, hb⟩⟩
theorem NS.Inv.crashed (hI : N.Inv c) (hc : c ≤ 899) (keep : Int) : (N.crashed keep).Inv c := by
  obtain ⟨t, km, bl, hg, ht, e, _⟩ := crashed_is hI hc keep
  rw [e]
  exact ⟨⟨(D.lay_len _ _ _ _).trans hI.im.sl, by show t ≤ 900; omega, hg, rfl⟩, ht, hI.st, .inl ⟨rfl, rfl⟩⟩
theorem NS.Inv.crash (hI : N.Inv c) (hc : c ≤ 899) (keep : Int) (gs : GS) : (N.crash keep gs).Inv c := (hI.crashed hc keep).dropL _ _
theorem ncrash_spec (L k : Nat) (hL : 100000 < L) (hc : c ≤ 899) (h : NdX σ0 σ nd g m d a F N R) (hI : N.Inv c) {G : List Nat} {gs : GS} (hG : Grp σ g G gs) (hGR : G ∈ R) (keep : Int) :
    ∃ m' F' σ', evCall Tryz.prog env L (k + 12) 24 [ptr nd, .int .u64 keep] σ = some (.nilIface, σ') ∧ NdX σ0 σ' nd g m' d a F' (N.crash keep gs) R ∧ Kp σ σ' R := by
  obtain ⟨t, km, bl, hg, ht, hE, _⟩ := crashed_is hI hc keep
  obtain ⟨FD, σ1, g1, hD1, hO1, k1⟩ := crashS h.im hI.im.ok L (k + 8) hL keep
  have hsl : (D.lay (D.bit keep) 0 N.im.S N.im.W).length = 66 := (D.lay_len _ _ _ _).trans hI.im.sl
  have hn1 : σ1.get nd = _ := (k1 [nd] (by simp) nd (by simp)).trans h.nd
  obtain ⟨m2, σ2, g2, hI2, k2, _⟩ := openGood hD1 hO1 hsl L k hL hg (by omega)
  have hk12 : Kp σ σ2 (F 0 :: F 1 :: F 2 :: F 3 :: [nd] :: R) := Kp.trans k1 k2
  have hn2 : σ2.get nd = some (.own (ndc d m (a 0) (a 1) (a 2) (a 3) g N.mark) 121) := (hk12 [nd] (by simp) nd (by simp)).trans h.nd
  -- the node's image, and marker
  have g3 := fun (K : St → Res) => put_at hn2 1 (.pointer (some ⟨m2, 0, none⟩)) (by simp [ndc]) rfl K
  have s3 := Same.set σ2 nd (.own (List.set (ndc d m (a 0) (a 1) (a 2) (a 3) g N.mark) 1 (.pointer (some ⟨m2, 0, none⟩))) 121)
  have n3 : (σ2.set nd (.own (List.set (ndc d m (a 0) (a 1) (a 2) (a 3) g N.mark) 1 (.pointer (some ⟨m2, 0, none⟩))) 121)).get nd = some (.own (ndc d m2 (a 0) (a 1) (a 2) (a 3) g N.mark) 121) := get_set_same _ _ _
  generalize σ2.set nd (.own (List.set (ndc d m (a 0) (a 1) (a 2) (a 3) g N.mark) 1 (.pointer (some ⟨m2, 0, none⟩))) 121) = σ3 at g3 s3 n3
  have hndl := hI2.lt (H := [nd]) (by simp) nd (by simp)
  have hm : ∀ v, v < 4 → F v ∈ F 0 :: F 1 :: F 2 :: F 3 :: [nd] :: R := fun v hv => List.mem_of_getElem? (fl_get F _ v hv)
  have hT : Turn σ2 σ3 [nd] [nd] := ⟨s3, fun q hq => ⟨.inl hq, by have := s3.1; simp at hq; omega⟩⟩
  have hI3 := hI2.turned 4 rfl hT
  rw [four_one] at hI3
  have h3 : NdX σ0 σ3 nd g m2 d a F { N with im := ⟨D.lay (D.bit keep) 0 N.im.S N.im.W, [], t, km, bl, none⟩ } R :=
    ⟨hI3, n3, fun v hv => ((h.st v hv).moved (hk12 _ (hm v hv)) (hI2.lt (hm v hv))).same s3 (fun q hq => hI2.dis v 4 (by omega) (fl_get F _ v hv) rfl q hq)⟩
  have kp3 : Kp σ2 σ3 R := fun H hH q hq => by
    obtain ⟨i, hi⟩ := List.mem_iff_getElem?.1 hH
    exact s3.2 q (hI2.lt (by simp [hH]) q hq) (hI2.dis (i + 5) 4 (by omega) (by simpa using hi) rfl q hq)
  obtain ⟨σ4, g4, h4, kp4⟩ := h3.own 0
  have kp02 : Kp σ σ2 R := fun H hH => hk12 H (by simp [hH])
  have kp04 : Kp σ σ4 R := (kp02.trans kp3).trans kp4
  have hG4 : Grp σ4 g G gs := hG.moved (fun q hq => kp04 G hGR q hq) (h4.lt hGR)
  have hI4 := hI.crashed hc keep
  rw [hE] at hI4
  obtain ⟨F', σ5, g5, h5, kp5⟩ := ndrop_spec L (k + 6) hL hc h4 hI4 hG4
  refine ⟨m2, F', σ5, ?_, by unfold NS.crash; rw [hE]; exact h5, kp04.trans kp5⟩
  rw [f24_eq, ld_at h.nd 0 (ptr d) rfl, asP_p, g1, bnd_some, asT_t, toList0, endl_n, f67_eq, ld_at hn1 0 (ptr d) rfl, asP_p, g2, bnd_some, asT_t, toList2, uncons_c, asP_p, uncons_c, endl_n, eqNil_nil, not_true, br_false, g3, g4, bnd_some, eqNil_nil, not_true, br_false, g5, bnd_some, asT_t, toList0, endl_n]
end
end Go.AM.Bk

/-
  THE NODE: Promote, Image, Applied; steps in a row.
-/
namespace Go.AM.Bk
open Go.Proofs

def NS.steps (g : GS) : Nat → NS → NS
  | 0, N => N
  | n + 1, N => NS.steps g n (N.step g)
theorem step_idle {N : NS} (g : GS) (h : N.im.work = none) : N.step g = N := by unfold NS.step; rw [h]
theorem steps_idle (g : GS) : ∀ (n : Nat) {N : NS}, N.im.work = none → N.steps g n = N
  | 0, N, h => rfl
  | n + 1, N, h => by unfold NS.steps; rw [step_idle g h]; exact steps_idle g n h
theorem NS.Inv.steps {c : Nat} (hc : c ≤ 899) (g : GS) : ∀ (n : Nat) {N : NS}, N.Inv c → (N.steps g n).Inv c
  | 0, N, h => h
  | n + 1, N, h => NS.Inv.steps hc g n (h.step hc g)
theorem step_work {N : NS} (g : GS) {mk' k : Nat} {bl' : List ByteArray} (h : N.im.work = some (mk', bl', k)) (hk : k < 34) : (N.step g).im.work = some (mk', bl', k + 1) ∧ (N.step g).mark = N.mark ∧ (N.step g).st = N.st ∧ (N.step g).im.t = N.im.t ∧ (N.step g).im.km = N.im.km ∧ (N.step g).im.bl = N.im.bl := by
  unfold NS.step
  rw [h]
  dsimp only
  rw [if_neg (by omega)]
  unfold stepS
  dsimp only
  split
  · exact ⟨rfl, rfl, rfl, rfl, rfl, rfl⟩
  · split
    · rename_i h32; subst h32; exact ⟨rfl, rfl, rfl, rfl, rfl, rfl⟩
    · split
      · rename_i h33; subst h33; exact ⟨rfl, rfl, rfl, rfl, rfl, rfl⟩
      · omega
theorem step_last {N : NS} (g : GS) {mk' : Nat} {bl' : List ByteArray} (h : N.im.work = some (mk', bl', 34)) : N.step g = NS.drop { N with im := ⟨D.lay (fun _ => true) 0 N.im.S N.im.W, [], N.im.t + 1, mk', bl', none⟩, mark := 0 } g := by
  unfold NS.step
  rw [h]
  dsimp only
  rw [if_pos rfl]
  unfold stepS
  rw [if_neg (by omega), if_neg (by omega), if_neg (by omega)]
theorem drop_im (N : NS) (g : GS) : (N.drop g).im = N.im := rfl
theorem drop_mark (N : NS) (g : GS) : (N.drop g).mark = N.mark := rfl
/-- All that is left. -/
theorem steps_done (g : GS) {mk' : Nat} {bl' : List ByteArray} : ∀ (n k : Nat) {N : NS}, N.im.work = some (mk', bl', k) → k + n = 34 →
    ∃ S', N.steps g (n + 1) = NS.drop { N with im := ⟨S', [], N.im.t + 1, mk', bl', none⟩, mark := 0 } g
  | 0, k, N, h, hk => by
    have : k = 34 := by omega
    subst this
    exact ⟨_, step_last g h⟩
  | n + 1, k, N, h, hk => by
    obtain ⟨h1, h2, h3, h4, h5, h6⟩ := step_work g h (by omega)
    obtain ⟨S', e⟩ := steps_done g n (k + 1) h1 (by omega)
    refine ⟨S', ?_⟩
    show NS.steps g (n + 1) (N.step g) = _
    rw [e, h4]
    unfold NS.drop NS.dropL
    simp only [h3]
theorem steps_add (g : GS) : ∀ (m n : Nat) (N : NS), N.steps g (m + n) = (N.steps g m).steps g n
  | 0, n, N => by rw [Nat.zero_add]; rfl
  | m + 1, n, N => by
    rw [show m + 1 + n = (m + n) + 1 by omega]
    show NS.steps g (m + n) (N.step g) = _
    rw [steps_add g m n]
    rfl
theorem steps_full (g : GS) {mk' k : Nat} {bl' : List ByteArray} {N : NS} (h : N.im.work = some (mk', bl', k)) (hk : k ≤ 34) (n : Nat) (hn : 35 - k ≤ n) : ∃ S', N.steps g n = NS.drop { N with im := ⟨S', [], N.im.t + 1, mk', bl', none⟩, mark := 0 } g := by
  obtain ⟨S', e⟩ := steps_done g (34 - k) k h (by omega)
  refine ⟨S', ?_⟩
  rw [show n = (34 - k + 1) + (n - (35 - k)) by omega, steps_add, e, steps_idle _ _ (by rw [drop_im])]

section
variable {σ0 σ : St} {nd g m d : Nat} {a : Nat → Nat} {F : Nat → List Nat} {N : NS} {R : List (List Nat)} {c : Nat}

/-! Promote. -/
theorem cut_loop (L k : Nat) (hc : c ≤ 899) : ∀ (n v : Nat) (s : Int) (σ : St) (F : Nat → List Nat) (N : NS), v ≤ 4 → 4 - v < n → N.Inv c → 0 ≤ s → s ≤ 1000 * v → NdX σ0 σ nd g m d a F N R →
    ∃ F' σ', lpAt Tryz.prog env L (k + 1) 25 [true, true, true, true, false, true] [] n [(3, .int .i64 s), (18, .agg [ptr (a 0), ptr (a 1), ptr (a 2), ptr (a 3)].toArray), (19, .int .i64 v)] σ = some (.int .i64 (s + (((List.range 4).drop v).map fun v => ((N.st v).rs.length : Int)).sum), σ') ∧
      NdX σ0 σ' nd g m d a F' { N with st := fun u => if v ≤ u ∧ u < 4 then (N.st u).cut else N.st u } R ∧ Kp σ σ' R
  | 0, v, s, σ, F, N, _, hn, _, _, _, _ => by omega
  | n + 1, v, s, σ, F, N, hv, hn, hI, hs0, hs1, h => by
    have el := f25_l7 L (k + 1) n σ s (some ⟨a 0, 0, none⟩) (some ⟨a 1, 0, none⟩) (some ⟨a 2, 0, none⟩) (some ⟨a 3, 0, none⟩) (v : Int)
    by_cases hv4 : v = 4
    · subst hv4
      rw [decide_eq_false (by decide), br_false] at el
      have e0 : (List.range 4).drop 4 = [] := rfl
      refine ⟨F, σ, el.trans (by rw [e0]; simp), ?_, Kp.refl _ _⟩
      have : (fun u => if 4 ≤ u ∧ u < 4 then (N.st u).cut else N.st u) = N.st := by funext u; rw [if_neg (by omega)]
      rw [this]; exact h
    have hi := hI.st v (by omega)
    have hlen := hi.len
    have hf1 := hi.f1
    obtain ⟨σ1, g1, hS1, hT1⟩ := S.cut_spec (h.st v (by omega)) L k
    have hw : IntKind.wrap .i64 ((v : Int) + 1) = ((v + 1 : Nat) : Int) := by rw [wrap_in _ (by omega) (by omega)]; omega
    have hw2 : IntKind.wrap .i64 (s + ((N.st v).rs.length : Int)) = s + ((N.st v).rs.length : Int) := wrap_in _ (by omega) (by omega)
    rw [decide_eq_true (by omega), br_true, need_of (by simp [inRange]; omega), show ∀ K : Value → Res, nth [Value.pointer (some ⟨a 0, 0, none⟩), Value.pointer (some ⟨a 1, 0, none⟩), Value.pointer (some ⟨a 2, 0, none⟩), Value.pointer (some ⟨a 3, 0, none⟩)] (Int.toNat (v : Int) * 1) K = K (ptr (a v)) from fun K => ptr_nth a v (by omega) K, asP_p, g1, bnd_some, asI_i, hw, hw2] at el
    obtain ⟨h1, k1⟩ := h.turn v (by omega) hT1 (s := (N.st v).cut) hS1
    have hI1 : NS.Inv { N with st := upd N.st v (N.st v).cut } c := ⟨hI.im, hI.tc, fun u hu => by
      dsimp only
      by_cases e : u = v
      · subst e; rw [upd_same]; exact (hI.st u hu).cut
      · rw [upd_ne _ _ e]; exact hI.st u hu, hI.wk⟩
    obtain ⟨F', σ2, e2, h2, k2⟩ := cut_loop L k hc n (v + 1) (s + ((N.st v).rs.length : Int)) σ1 _ _ (by omega) (by omega) hI1 (by omega) (by omega) h1
    refine ⟨F', σ2, el.trans (e2.trans ?_), ?_, k1.trans k2⟩
    · rw [range_drop v (by omega), List.map_cons, List.sum_cons]
      have : (((List.range 4).drop (v + 1)).map fun u => ((upd N.st v (N.st v).cut u).rs.length : Int)) = (((List.range 4).drop (v + 1)).map fun u => ((N.st u).rs.length : Int)) := by
        apply List.map_congr_left
        intro u hu
        rw [upd_ne]
        intro e
        subst e
        have := List.mem_drop_iff_getElem.1 hu
        obtain ⟨i, hi, e⟩ := this
        simp at e
        omega
      dsimp only
      rw [this, Int.add_assoc]
    · have : (fun u => if v ≤ u ∧ u < 4 then (N.st u).cut else N.st u) = fun u => if v + 1 ≤ u ∧ u < 4 then (upd N.st v (N.st v).cut u).cut else upd N.st v (N.st v).cut u := by
        funext u
        by_cases e : u = v
        · subst e; rw [upd_same, if_pos (by omega), if_neg (by omega)]
        · rw [upd_ne _ _ e]
          by_cases h1 : v ≤ u ∧ u < 4
          · rw [if_pos h1, if_pos (by omega)]
          · rw [if_neg h1, if_neg (by omega)]
      rw [this]
      exact h2
/-- Behind a promotion: what was being applied is, the rest falls. -/
def NS.fin (N : NS) (g : GS) : NS := N.steps g 35
def NS.cut4 (N : NS) : NS := { N with st := fun u => if u < 4 then (N.st u).cut else N.st u }
def NS.promote (N : NS) (g : GS) : NS := (N.fin g).cut4
theorem NS.Inv.cut4 (hI : N.Inv c) : N.cut4.Inv c := ⟨hI.im, hI.tc, fun v hv => by
  unfold NS.cut4; dsimp only; rw [if_pos hv]; exact (hI.st v hv).cut, hI.wk⟩
theorem NS.Inv.promote (hI : N.Inv c) (hc : c ≤ 899) (gs : GS) : (N.promote gs).Inv c := (NS.Inv.steps hc gs 35 hI).cut4
theorem fin_mark (hI : N.Inv c) (gs : GS) : (N.fin gs).mark = 0 ∧ (N.fin gs).im.work = none := by
  rcases hI.wk with ⟨h1, h2⟩ | ⟨_, bl, k, h⟩
  · unfold NS.fin; rw [steps_idle gs 35 h2]; exact ⟨h1, h2⟩
  · obtain ⟨S', e⟩ := steps_full gs h (hI.im.ok.bw _ _ _ h).1 35 (by omega)
    unfold NS.fin
    rw [e]
    exact ⟨rfl, rfl⟩
theorem steps_loop (L k : Nat) (hL : 100000 < L) (hc : c ≤ 899) {G : List Nat} {gs : GS} (hGR : G ∈ R) : ∀ (r n : Nat) (σ : St) (F : Nat → List Nat) (N : NS), r < n → N.Inv c → (∀ mk' bl' j, N.im.work = some (mk', bl', j) → 35 - j ≤ r) → NdX σ0 σ nd g m d a F N R → Grp σ g G gs →
    ∃ F' n' σ', lpAt Tryz.prog env L (k + 9) 25 [true, true, false] [] n [(0, ptr nd)] σ = lpAt Tryz.prog env L (k + 9) 25 [true, true, false] [] (n' + 1) [(0, ptr nd)] σ' ∧ NdX σ0 σ' nd g m d a F' (N.steps gs r) R ∧ Kp σ σ' R ∧ (N.steps gs r).mark = 0
  | r, 0, σ, F, N, hn, _, _, _, _ => by omega
  | 0, n + 1, σ, F, N, hn, hI, hr, h, hG => by
    rcases hI.wk with ⟨h1, h2⟩ | ⟨_, bl, k, hw⟩
    · exact ⟨F, n, σ, rfl, h, Kp.refl _ _, h1⟩
    · have := hr _ _ _ hw
      have := (hI.im.ok.bw _ _ _ hw).1
      omega
  | r + 1, n + 1, σ, F, N, hn, hI, hr, h, hG => by
    by_cases h0 : N.mark = 0
    · have hw : N.im.work = none := by
        rcases hI.wk with ⟨_, h2⟩ | ⟨h1, _⟩
        · exact h2
        · omega
      refine ⟨F, n, σ, rfl, ?_, Kp.refl _ _, ?_⟩
      · rw [steps_idle gs _ hw]; exact h
      · rw [steps_idle gs _ hw]; exact h0
    · obtain ⟨v, F1, σ1, g1, k1, hor⟩ := nstep_spec L k hL hc h hI hG hGR
      rcases hor with ⟨hx, _⟩ | ⟨bl', j, _, hw, rfl, h1⟩
      · exact absurd hx h0
      have hj := (hI.im.ok.bw _ _ _ hw).1
      have hrj := hr _ _ _ hw
      obtain ⟨F2, n2, σ2, e2, h2, k2, hm2⟩ := steps_loop L k hL hc hGR r n σ1 F1 (N.step gs) (by omega) (hI.step hc gs) (fun mk' bl'' j' hw' => by
        by_cases hj34 : j = 34
        · subst hj34
          rw [step_last gs hw] at hw'
          cases hw'
        · have := (step_work gs hw (by omega)).1
          rw [this] at hw'
          cases hw'
          omega) h1 (hG.moved (fun q hq => k1 G hGR q hq) (h1.lt hGR))
      refine ⟨F2, n2, σ2, ?_, h2, k1.trans k2, hm2⟩
      rw [f25_l3, ld_at h.nd (0 + 7) (.int .i64 N.mark) rfl, asI_i, show (N.mark != 0) = true by simpa using h0, br_true, g1, bnd_some, asT_t, toList2, uncons_c, asB_b, uncons_c, endl_n]
      exact e2
theorem npromote_spec (L k : Nat) (hL : 100000 < L) (hc : c ≤ 899) (h : NdX σ0 σ nd g m d a F N R) (hI : N.Inv c) {G : List Nat} {gs : GS} (hG : Grp σ g G gs) (hGR : G ∈ R) :
    ∃ F' σ', evCall Tryz.prog env L (k + 10) 25 [ptr nd] σ = some (.int .i64 ((N.fin gs).held : Nat), σ') ∧ NdX σ0 σ' nd g m d a F' (N.promote gs) R ∧ Kp σ σ' R := by
  obtain ⟨F1, n1, σ1, e1, h1, k1, hm⟩ := steps_loop L k hL hc hGR 35 L σ F N (by omega) hI (fun _ _ _ _ => by omega) h hG
  have hI1 : (N.steps gs 35).Inv c := NS.Inv.steps hc gs 35 hI
  obtain ⟨F2, σ2, e2, h2, k2⟩ := cut_loop (a := a) L (k + 8) hc L 0 0 σ1 F1 (N.steps gs 35) (by omega) (by omega) hI1 (by omega) (by omega) h1
  refine ⟨F2, σ2, ?_, ?_, k1.trans k2⟩
  · rw [f25_eq, e1, f25_l3, ld_at h1.nd (0 + 7) (.int .i64 (N.steps gs 35).mark) rfl, asI_i, show ((N.steps gs 35).mark != 0) = false by rw [hm]; rfl, br_false, lds_own (n := 4) _ h1.nd (by simp [ndc])]
    show (uncons [ptr (a 0), ptr (a 1), ptr (a 2), ptr (a 3)] _) = _
    rw [uncons_c, asP_p, uncons_c, asP_p, uncons_c, asP_p, uncons_c, asP_p, endl_n]
    refine e2.trans ?_
    unfold NS.fin NS.held
    simp [List.range, List.range.loop]
    omega
  · have : (fun u => if 0 ≤ u ∧ u < 4 then ((N.steps gs 35).st u).cut else (N.steps gs 35).st u) = fun u => if u < 4 then ((N.steps gs 35).st u).cut else (N.steps gs 35).st u := by funext u; simp
    rw [this] at h2
    exact h2

/-! Image. -/
theorem nimage_spec (L k : Nat) (h : NdX σ0 σ nd g m d a F N R) : ∃ σ', evCall Tryz.prog env L (k + 2) 16 [ptr nd] σ = some (.tuple #[.agg (strs N.im.bl).toArray, .int .i64 (N.im.km : Nat)], σ') ∧ Same σ σ' [] := by
  rw [f16_eq]
  have s1 : Same σ (σ.new (.own (strs noBlocks) 45)) [] := Same.new _ _ _
  have g1 : (σ.new (.own (strs noBlocks) 45)).get σ.next = some (.own (strs noBlocks) 45) := get_new_same _ _
  have n1 : (σ.new (.own (strs noBlocks) 45)).next = σ.next + 1 := rfl
  have hlit : strs noBlocks = [Value.string ⟨#[]⟩, Value.string ⟨#[]⟩, Value.string ⟨#[]⟩, Value.string ⟨#[]⟩, Value.string ⟨#[]⟩, Value.string ⟨#[]⟩, Value.string ⟨#[]⟩, Value.string ⟨#[]⟩, Value.string ⟨#[]⟩, Value.string ⟨#[]⟩, Value.string ⟨#[]⟩, Value.string ⟨#[]⟩, Value.string ⟨#[]⟩, Value.string ⟨#[]⟩, Value.string ⟨#[]⟩, Value.string ⟨#[]⟩, Value.string ⟨#[]⟩, Value.string ⟨#[]⟩, Value.string ⟨#[]⟩, Value.string ⟨#[]⟩, Value.string ⟨#[]⟩, Value.string ⟨#[]⟩, Value.string ⟨#[]⟩, Value.string ⟨#[]⟩, Value.string ⟨#[]⟩, Value.string ⟨#[]⟩, Value.string ⟨#[]⟩, Value.string ⟨#[]⟩, Value.string ⟨#[]⟩, Value.string ⟨#[]⟩, Value.string ⟨#[]⟩, Value.string ⟨#[]⟩] := rfl
  rw [← hlit]
  generalize σ.new (.own (strs noBlocks) 45) = σ1 at s1 g1 n1
  have h1 := h.idle s1
  obtain ⟨σ2, g2, s2⟩ := blocksS h1.im L k
  have h2 := h1.idle s2
  have g12 : σ2.get σ.next = _ := (s2.2 σ.next (by omega) (by simp)).trans g1
  have hbl := h1.im.blen
  have e1 : (strs N.im.bl).toArray.toList = strs N.im.bl := rfl
  have hput := fun (K : St → Res) => put_all (ws := strs N.im.bl) g12 (by rw [strs_len, hbl]; rfl) (strs_one _) K
  have s3 := Same.set σ2 σ.next (.own (strs N.im.bl) 45)
  have g3 : (σ2.set σ.next (.own (strs N.im.bl) 45)).get σ.next = some (.own (strs N.im.bl) 45) := get_set_same _ _ _
  generalize σ2.set σ.next (.own (strs N.im.bl) 45) = σ3 at hput s3 g3
  rw [ld_at h1.nd 1 (ptr m) rfl, asP_p, g2, bnd_some, asAgL_a, e1, ld_at h2.nd 1 (ptr m) rfl, asP_p, ld_at h1.nd 1 (ptr m) rfl, asP_p, chk_same, markS h2.im L k, bnd_some, asI_i, need_of (by rw [strs_len, hbl]; rfl), hput, lds_all (n := 32) g3 (by rw [strs_len, hbl])]
  exact ⟨σ3, rfl, (s1.trans s2).fresh s3 (fun x hx => .inr (by simp at hx; omega))⟩

/-! Applied. -/
def NS.apl (N : NS) (v : Nat) : Int := (N.st v).first - 1
def apC (N : NS) (v : Nat) : List Value := [.int .i64 (if 0 < v then N.apl 0 else 0), .int .i64 (if 1 < v then N.apl 1 else 0), .int .i64 (if 2 < v then N.apl 2 else 0), .int .i64 (if 3 < v then N.apl 3 else 0)]
theorem apC_set (N : NS) (v : Nat) (hv : v < 4) : (apC N v).set (0 + Int.toNat (v : Int) * 1) (.int .i64 (N.apl v)) = apC N (v + 1) := by
  rcases (by omega : v = 0 ∨ v = 1 ∨ v = 2 ∨ v = 3) with rfl | rfl | rfl | rfl <;> rfl
def NS.apV (N : NS) : Value := .agg #[.int .i64 (N.apl 0), .int .i64 (N.apl 1), .int .i64 (N.apl 2), .int .i64 (N.apl 3)]
theorem napplied_loop (L k : Nat) (h : NdX σ0 σ nd g m d a F N R) (hI : N.Inv c) (hc : c ≤ 899) {t0 t1 : Nat} (ht0 : σ.next ≤ t0) (ht1 : σ.next ≤ t1) (h01 : t0 ≠ t1) : ∀ (n v : Nat) (σ' : St), v ≤ 4 → 4 - v < n → Same σ σ' [] → σ'.get t1 = some (.own (apC N v) 68) → (∃ x, σ'.get t0 = some (.own x 68) ∧ x.length = 4) → t0 < σ'.next → t1 < σ'.next →
    ∃ σ2, lpAt Tryz.prog env L (k + 1) 26 [true, true, true, false, true] [] n [(2, ptr t0), (3, ptr t1), (12, .agg [ptr (a 0), ptr (a 1), ptr (a 2), ptr (a 3)].toArray), (13, .int .i64 v)] σ' = some (N.apV, σ2) ∧ Same σ σ2 []
  | 0, v, σ', _, hn, _, _, _, _, _ => by omega
  | n + 1, v, σ', hv, hn, hs, g1, ⟨x, g0, hx⟩, l0, l1 => by
    have el := f26_l5 L (k + 1) n σ' t0 0 t1 0 (some ⟨a 0, 0, none⟩) (some ⟨a 1, 0, none⟩) (some ⟨a 2, 0, none⟩) (some ⟨a 3, 0, none⟩) (v : Int)
    by_cases hv4 : v = 4
    · subst hv4
      have hput := fun (K : St → Res) => put_all (ws := apC N 4) g0 (by rw [hx]; rfl) rfl K
      have s3 := Same.set σ' t0 (.own (apC N 4) 68)
      have g3 : (σ'.set t0 (.own (apC N 4) 68)).get t0 = some (.own (apC N 4) 68) := get_set_same _ _ _
      generalize σ'.set t0 (.own (apC N 4) 68) = σ3 at hput s3 g3
      have hA : apC N 4 = [Value.int .i64 (N.apl 0), .int .i64 (N.apl 1), .int .i64 (N.apl 2), .int .i64 (N.apl 3)] := rfl
      rw [hA] at g1 hput g3
      rw [decide_eq_false (by decide), br_false, lds_all (n := 4) g1 rfl, uncons_c, asI_i, uncons_c, asI_i, uncons_c, asI_i, uncons_c, asI_i, endl_n, hput, lds_all (n := 4) g3 rfl, uncons_c, asI_i, uncons_c, asI_i, uncons_c, asI_i, uncons_c, asI_i, endl_n] at el
      exact ⟨σ3, el, hs.fresh s3 (fun x hx => .inr (by simp at hx; omega))⟩
    have hi := hI.st v (by omega)
    have hlen := hi.len
    have hf1 := hi.f1
    have hw : IntKind.wrap .i64 ((v : Int) + 1) = ((v + 1 : Nat) : Int) := by rw [wrap_in _ (by omega) (by omega)]; omega
    have iv : inRange (v : Int) 4 = true := by simp [inRange]; omega
    rw [decide_eq_true (by omega), br_true, need_of iv, show ∀ K : Value → Res, nth [Value.pointer (some ⟨a 0, 0, none⟩), Value.pointer (some ⟨a 1, 0, none⟩), Value.pointer (some ⟨a 2, 0, none⟩), Value.pointer (some ⟨a 3, 0, none⟩)] (Int.toNat (v : Int) * 1) K = K (ptr (a v)) from fun K => ptr_nth a v (by omega) K, asP_p, S.dropped_spec ((h.idle hs).st v (by omega)) L k hf1 (by omega), bnd_some, asT_t, toList2, uncons_c, asI_i, uncons_c, asI_i, endl_n, need_of iv, put_int g1 _ _ _ (by simp [apC]; omega), hw, show (N.st v).first - 1 = N.apl v from rfl, apC_set N v (by omega)] at el
    have s2 := Same.set σ' t1 (.own (apC N (v + 1)) 68)
    obtain ⟨σ3, e3, s3⟩ := napplied_loop L k h hI hc ht0 ht1 h01 n (v + 1) _ (by omega) (by omega) (hs.fresh s2 (fun x hx => .inr (by simp at hx; omega))) (get_set_same _ _ _) ⟨x, (s2.2 t0 l0 (by simpa using h01)).trans g0, hx⟩ (by simpa using l0) (by simpa using l1)
    exact ⟨σ3, el.trans e3, s3⟩
theorem napplied_spec (L k : Nat) (hL : 100000 < L) (h : NdX σ0 σ nd g m d a F N R) (hI : N.Inv c) (hc : c ≤ 899) : ∃ σ', evCall Tryz.prog env L (k + 2) 26 [ptr nd] σ = some (N.apV, σ') ∧ Same σ σ' [] := by
  rw [f26_eq]
  have s1 : Same σ (σ.new (.own [.int .i64 0, .int .i64 0, .int .i64 0, .int .i64 0] 68)) [] := Same.new _ _ _
  have g1 : (σ.new (.own [.int .i64 0, .int .i64 0, .int .i64 0, .int .i64 0] 68)).get σ.next = some (.own [.int .i64 0, .int .i64 0, .int .i64 0, .int .i64 0] 68) := get_new_same _ _
  have n1 : (σ.new (.own [.int .i64 0, .int .i64 0, .int .i64 0, .int .i64 0] 68)).next = σ.next + 1 := rfl
  generalize σ.new (.own [.int .i64 0, .int .i64 0, .int .i64 0, .int .i64 0] 68) = σ1 at s1 g1 n1
  have s2 : Same σ1 (σ1.new (.own [.int .i64 0, .int .i64 0, .int .i64 0, .int .i64 0] 68)) [] := Same.new _ _ _
  have g2 : (σ1.new (.own [.int .i64 0, .int .i64 0, .int .i64 0, .int .i64 0] 68)).get σ1.next = some (.own [.int .i64 0, .int .i64 0, .int .i64 0, .int .i64 0] 68) := get_new_same _ _
  have n2 : (σ1.new (.own [.int .i64 0, .int .i64 0, .int .i64 0, .int .i64 0] 68)).next = σ1.next + 1 := rfl
  generalize σ1.new (.own [.int .i64 0, .int .i64 0, .int .i64 0, .int .i64 0] 68) = σ2 at s2 g2 n2
  have s02 := s1.trans s2
  rw [lds_own (n := 4) _ (h.idle s02).nd (by simp [ndc])]
  show ∃ σ', (uncons [ptr (a 0), ptr (a 1), ptr (a 2), ptr (a 3)] _) = _ ∧ _
  rw [uncons_c, asP_p, uncons_c, asP_p, uncons_c, asP_p, uncons_c, asP_p, endl_n]
  obtain ⟨σ3, e3, s3⟩ := napplied_loop L k h hI hc (t0 := σ.next) (t1 := σ1.next) (by omega) (by omega) (by omega) L 0 σ2 (by omega) (by omega) s02 g2 ⟨_, (s2.2 σ.next (by omega) (by simp)).trans g1, rfl⟩ (by omega) (by omega)
  exact ⟨σ3, e3, s3⟩
end
end Go.AM.Bk

/-
  THE GROUP, made of a list; the backup, made on a fresh disk.
-/
namespace Go.AM.Bk
open Go.Proofs

/-! A group of a list. -/
def OkG (l : List Int) : Prop := (∀ v ∈ l, 0 ≤ v ∧ v < 4) ∧ l.Nodup
def gOf (l : List Int) : GS := ⟨fun v => decide ((v : Int) ∈ l), []⟩
theorem wrong44 (L k : Nat) (σ : St) (at_ e : Int) (he : e ≠ 0) : ∃ v σ', evCall Tryz.prog env L (k + 2) 44 [.int .i64 at_, .int .i64 e] σ = some (v, σ') ∧ Same σ σ' [] := by
  rw [f44_eq, f42_eq, eqNil_iface, br_false]
  have hb : ∀ K : Res, eqErr (.iface 70 (.int .i64 e)) 70 .i64 0 (fun v2 => br v2 (some (Value.nilIface, σ)) K) = K := by
    intro K
    have : eqErr (.iface 70 (.int .i64 e)) 70 .i64 0 (fun v2 => br v2 (some (Value.nilIface, σ)) K) = br (e == 0) (some (Value.nilIface, σ)) K := by simp [eqErr]
    rw [this, show (e == 0) = false by simpa using he, br_false]
  rw [hb, need_true, need_of (show oneCell (Value.iface 70 (Value.int .i64 e)) = true from rfl), need_true, bnd_some]
  exact ⟨_, _, rfl, Same.new _ _ _⟩
theorem there43 (L k : Nat) (σ : St) (v : Int) : evCall Tryz.prog env L (k + 1) 43 [.int .i64 v] σ = some (.bool (decide (0 ≤ v ∧ v < 4)), σ) := by
  rw [f43_eq]
  by_cases h : v ≥ 0
  · rw [decide_eq_true h, br_true]
    by_cases h4 : v < 4
    · rw [decide_eq_true h4, decide_eq_true ⟨h, h4⟩]
    · rw [decide_eq_false h4, decide_eq_false (fun hx => h4 hx.2)]
  · rw [decide_eq_false h, br_false, decide_eq_false (fun hx => h hx.1)]
theorem gnew_loop (L k : Nat) {σ0 σ1 : St} {ad : Option Addr} {l : List Int} {z : Nat} (hl : l.length ≤ 1000) (hH : Holds σ0 1 c1 ad l) (h01 : σ0.next ≤ σ1.next) {g : Nat} (hg0 : σ1.next ≤ g) : ∀ (n i : Nat) (σ : St), i ≤ l.length → l.length - i < n → Same σ1 σ [] → Kept' σ0.next σ0 σ → σ.get g = some (.own (bv (gOf (l.take i)).f ++ [.slice none 0 0]) 111) → g < σ.next → OkG (l.take i) →
    (∃ e σ', ¬ OkG l ∧ lpAt Tryz.prog env L (k + 2) 12 [true, true, false, true] [] n [(4, ptr g), (9, .slice ad l.length z), (10, .int .i64 l.length), (11, .int .i64 i)] σ = some (.tuple #[.pointer none, e], σ') ∧ Same σ1 σ' []) ∨
    (∃ σ', OkG l ∧ lpAt Tryz.prog env L (k + 2) 12 [true, true, false, true] [] n [(4, ptr g), (9, .slice ad l.length z), (10, .int .i64 l.length), (11, .int .i64 i)] σ = some (.tuple #[ptr g, .nilIface], σ') ∧ σ'.get g = some (.own (bv (gOf l).f ++ [.slice none 0 0]) 111) ∧ Same σ1 σ' [] ∧ g < σ'.next)
  | 0, i, σ, _, hn, _, _, _, _, _ => by omega
  | n + 1, i, σ, hi, hn, hs, hk, hg, hgl, hok => by
    rw [f12_l3]
    by_cases hie : i = l.length
    · subst hie
      rw [List.take_length] at hg hok
      rw [decide_eq_false (by omega), br_false]
      exact .inr ⟨σ, hok, rfl, hg, hs, hgl⟩
    have hget : l[i]? = some l[i] := List.getElem?_eq_getElem (by omega)
    have htk : l.take (i + 1) = l.take i ++ [l[i]] := by rw [List.take_add_one, hget]; rfl
    have hdr : l = l.take i ++ l[i] :: l.drop (i + 1) := by rw [← List.drop_eq_getElem_cons (by omega), List.take_append_drop]
    obtain ⟨q, e, hat⟩ := hH.ld hk hget
    generalize l[i] = v at *
    have hw : IntKind.wrap .i64 ((i : Int) + 1) = ((i + 1 : Nat) : Int) := by rw [wrap_in _ (by omega) (by omega)]; omega
    subst e
    rw [decide_eq_true (by omega), br_true, need_of (by simp [inRange]; omega), adr_some, hat 0 (.int .i64 v) _ (by omega) rfl (by simp), asI_i, there43 L (k + 1), bnd_some, asB_b]
    by_cases hv : 0 ≤ v ∧ v < 4
    rotate_left
    · obtain ⟨e, σ2, g2, s2⟩ := wrong44 L k σ v 5 (by decide)
      rw [decide_eq_false hv, not_false, br_true, g2, bnd_some]
      refine .inl ⟨e, σ2, fun h => hv (h.1 v (by rw [hdr]; simp)), rfl, hs.trans s2⟩
    obtain ⟨u, hu⟩ : ∃ u : Nat, v = u := ⟨v.toNat, by omega⟩
    subst hu
    have hu4 : u < 4 := by omega
    rw [decide_eq_true hv, not_true, br_false, need_of (by simp [inRange]; omega), ld_at hg (0 + 0 + Int.toNat (u : Int) * 1) (.bool (decide ((u : Int) ∈ l.take i))) (by
      rcases (by omega : u = 0 ∨ u = 1 ∨ u = 2 ∨ u = 3) with rfl | rfl | rfl | rfl <;> rfl), asB_b]
    by_cases hm : (u : Int) ∈ l.take i
    · obtain ⟨e, σ2, g2, s2⟩ := wrong44 L k σ u 1 (by decide)
      rw [decide_eq_true hm, br_true, g2, bnd_some]
      refine .inl ⟨e, σ2, fun h => ?_, rfl, hs.trans s2⟩
      have hn := h.2
      rw [hdr, List.nodup_append] at hn
      exact hn.2.2 _ hm _ (by simp) rfl
    · rw [decide_eq_false hm, br_false, need_of (by simp [inRange]; omega), put_bool hg _ _ (by simp [bv]; omega), hw]
      have hset : (bv (gOf (l.take i)).f ++ [Value.slice none 0 0]).set (0 + 0 + Int.toNat (u : Int) * 1) (.bool true) = bv (gOf (l.take (i + 1))).f ++ [.slice none 0 0] := by
        rw [htk]
        unfold gOf bv
        dsimp only
        have hd : ∀ x : Nat, decide ((x : Int) ∈ l.take i ++ [(u : Int)]) = if x = u then true else decide ((x : Int) ∈ l.take i) := fun x => by
          by_cases hx : x = u
          · subst hx; simp
          · have : ¬ (x : Int) = (u : Int) := by omega
            simp [hx, this]
        rw [hd, hd, hd, hd]
        rcases (by omega : u = 0 ∨ u = 1 ∨ u = 2 ∨ u = 3) with rfl | rfl | rfl | rfl <;> rfl
      rw [hset]
      have s2 := Same.set σ g (.own (bv (gOf (l.take (i + 1))).f ++ [.slice none 0 0]) 111)
      have s12 : Same σ1 _ [] := hs.fresh s2 (fun x hx => .inr (by simp at hx; omega))
      refine gnew_loop L k hl hH h01 hg0 n (i + 1) _ (by omega) (by omega) s12 ?_ (get_set_same _ _ _) (by simpa using hgl) ?_
      · refine hk.step s2 (fun x hx => ?_)
        simp at hx
        subst hx
        have := hk.1
        have h1 := hs.1
        exact Nat.le_trans h01 hg0
      · rw [htk]
        refine ⟨fun x hx => ?_, ?_⟩
        · rcases List.mem_append.1 hx with hx | hx
          · exact hok.1 x hx
          · simp at hx; subst hx; exact hv
        · rw [List.nodup_append]
          exact ⟨hok.2, by simp, fun x hx y hy => by simp at hy; subst hy; rintro rfl; exact hm hx⟩
theorem gnew_spec (L k : Nat) (hL : 100000 < L) {σ0 σ : St} (hk : Kept' σ0.next σ0 σ) {ad : Option Addr} {l : List Int} (z : Nat) (hl : l.length ≤ 1000) (hH : Holds σ0 1 c1 ad l) :
    (∃ e σ', ¬ OkG l ∧ evCall Tryz.prog env L (k + 3) 12 [.slice ad l.length z] σ = some (.tuple #[.pointer none, e], σ') ∧ Same σ σ' []) ∨
    (∃ g σ', OkG l ∧ evCall Tryz.prog env L (k + 3) 12 [.slice ad l.length z] σ = some (.tuple #[ptr g, .nilIface], σ') ∧ Grp σ' g [g] (gOf l) ∧ Same σ σ' [] ∧ σ.next ≤ g) := by
  rw [f12_eq]
  have s1 : Same σ (σ.new (.own [.bool false, .bool false, .bool false, .bool false, .slice none 0 0] 111)) [] := Same.new _ _ _
  have g1 : (σ.new (.own [.bool false, .bool false, .bool false, .bool false, .slice none 0 0] 111)).get σ.next = some (.own [.bool false, .bool false, .bool false, .bool false, .slice none 0 0] 111) := get_new_same _ _
  have n1 : (σ.new (.own [.bool false, .bool false, .bool false, .bool false, .slice none 0 0] 111)).next = σ.next + 1 := rfl
  generalize σ.new (.own [.bool false, .bool false, .bool false, .bool false, .slice none 0 0] 111) = σ1 at s1 g1 n1
  rcases gnew_loop (z := z) L k hl hH hk.1 (g := σ.next) (Nat.le_refl _) L 0 σ1 (by omega) (by omega) s1 (hk.step s1 (by simp)) (by rw [List.take_zero]; exact g1) (by omega) ⟨by simp, by simp⟩ with ⟨e, σ2, hno, e2, s2⟩ | ⟨σ2, hok, e2, g2, s2, l2⟩
  · exact .inl ⟨e, σ2, hno, e2, s2⟩
  · exact .inr ⟨σ.next, σ2, hok, e2, ⟨⟨none, 0, [], rfl, by simp, g2, Row.nil _ _ _ _⟩, by simpa using l2, by simp [gOf], by simp [gOf]⟩, s2, Nat.le_refl _⟩
theorem gOf_at {l : List Int} (h : OkG l) (m : Int) (v : Nat) : v ∈ (gOf l).at_ m ↔ (v : Int) ∈ l := by
  unfold GS.at_ GS.has gOf beh
  simp only [List.take_nil, List.foldl_nil, List.mem_filter, List.mem_range, decide_eq_true_eq]
  exact ⟨fun h => h.2, fun hx => ⟨by have := h.1 _ hx; omega, hx⟩⟩

/-! A backup on a fresh disk. -/
theorem nnew_spec (L k : Nat) (hL : 100000 < L) {σ0 σ : St} {d g : Nat} {F : List Nat} {R : List (List Nat)} (hD : D.Disk σ d F fresh66 []) (hO : Owns σ0 σ (F :: R)) :
    ∃ nd m a F' σ', evCall Tryz.prog env L (k + 11) 13 [ptr d, ptr g] σ = some (.tuple #[ptr nd, .nilIface], σ') ∧ NdX σ0 σ' nd g m d a F' newN R ∧ Kp σ σ' R := by
  obtain ⟨nd, m, a0, a1, a2, a3, σ', e, hI, hn, h0, h1, h2, h3, hk⟩ := bnew_spec L k hL (g := g) hD hO
  refine ⟨nd, m, fun v => if v = 0 then a0 else if v = 1 then a1 else if v = 2 then a2 else a3, fun v => [if v = 0 then a0 else if v = 1 then a1 else if v = 2 then a2 else a3], σ', e, ⟨?_, hn, ?_⟩, hk⟩
  · refine hI.perm (fun i => if i < 4 then 3 - i else i) (fun i j e => ?_) (fun i H hH => ?_)
    · by_cases h1 : i < 4 <;> by_cases h2 : j < 4 <;> simp [h1, h2] at e <;> omega
    · match i, hH with
      | 0, hH => exact hH
      | 1, hH => exact hH
      | 2, hH => exact hH
      | 3, hH => exact hH
      | i + 4, hH => exact hH
  · exact four h0 h1 h2 h3
end Go.AM.Bk

/-
  BackupOpens.
-/
namespace Go.AM.Bk
open Go.Proofs

/-! Too few sectors. -/
theorem wrong_any (L k : Nat) (σ : St) (at_ e : Int) (he : e ≠ 0) : ∃ v σ', evCall Tryz.prog env L (k + 2) 87 [.int .i64 at_, .int .i64 e] σ = some (v, σ') ∧ Err σ' v e at_ ∧ Same σ σ' [] := by
  rw [f87_eq, f42_eq, eqNil_iface, br_false]
  have hb : ∀ K : Res, eqErr (.iface 70 (.int .i64 e)) 70 .i64 0 (fun v2 => br v2 (some (Value.nilIface, σ)) K) = K := by
    intro K
    have : eqErr (.iface 70 (.int .i64 e)) 70 .i64 0 (fun v2 => br v2 (some (Value.nilIface, σ)) K) = br (e == 0) (some (Value.nilIface, σ)) K := by simp [eqErr]
    rw [this, show (e == 0) = false by simpa using he, br_false]
  rw [hb, need_true, need_of (show oneCell (Value.iface 70 (Value.int .i64 e)) = true from rfl), need_true, bnd_some]
  exact ⟨_, _, rfl, ⟨σ.next, rfl, get_new_same _ _, by simp⟩, Same.new _ _ _⟩
theorem open_small (L k : Nat) {σ : St} {d : Nat} {F : List Nat} {S : List D.Sec} {W : List D.Lw} (hD : D.Disk σ d F S W) (hS : S.length < 66) :
    ∃ v σ', evCall Tryz.prog env L (k + 10) 45 [ptr d] σ = some (.tuple #[.pointer none, v], σ') ∧ Err σ' v 1 0 ∧ Same σ σ' [] := by
  obtain ⟨v, σ', g, hE, hs⟩ := wrong_any L (k + 7) σ 0 1 (by decide)
  rw [f45_eq, D.len_spec hD L (k + 8), bnd_some, asI_i, f86_eq, bnd_some, asI_i, decide_eq_true (by omega), br_true, g, bnd_some]
  exact ⟨v, σ', rfl, hE, hs⟩
theorem dopen_small (L k : Nat) {σ : St} {a : Nat} {F : List Nat} {S : List D.Sec} {W : List D.Lw} (hR : D.Ref σ a F S W) (hS : S.length < 66) :
    evCall Tryz.prog env L (k + 1) 14 [ptr a] σ = some (.tuple #[.pointer none, .int .i64 1], σ) := by
  obtain ⟨q1, q2, ad1, z1, ad2, z2, _, h1, _⟩ := hR.ex
  rw [f14_eq, ld_at h1 0 _ rfl, asSl_s, decide_eq_true (by omega), br_true]

section
variable {σ0 : St} {d a : Nat}
theorem opens_loop (L k : Nat) (hL : 100000 < L) {S : List D.Sec} {ad0 : Option Addr} {sc : List ByteArray} (hlen : sc.length ≤ S.length) (hS : S.length ≤ 70) (hH : Holds σ0 1 cS ad0 sc)
    (hend : ∀ (n : Nat) (σ : St) (F F2 : List Nat) (W : List D.Lw), D.Disk σ d F S W → D.Ref σ a F2 S W → Owns σ0 σ [F, F2] → W.length ≤ 70 → ∃ σ', lpAt Tryz.prog env L (k + 12) 3 [true, true, true, false, true] [] (n + 1) [(0, .slice ad0 sc.length 0), (3, ptr d), (4, ptr a), (29, .int .i64 sc.length), (30, .int .i64 sc.length)] σ = some (.bool true, σ')) : ∀ (n i : Nat) (σ : St) (F F2 : List Nat) (W : List D.Lw), i ≤ sc.length → sc.length - i < n → D.Disk σ d F S W → D.Ref σ a F2 S W → Owns σ0 σ [F, F2] → W.length ≤ i →
    ∃ σ', lpAt Tryz.prog env L (k + 12) 3 [true, true, true, false, true] [] n [(0, .slice ad0 sc.length 0), (3, ptr d), (4, ptr a), (29, .int .i64 sc.length), (30, .int .i64 i)] σ = some (.bool true, σ')
  | 0, i, σ, F, F2, W, _, h, _, _, _, _ => by omega
  | n + 1, i, σ, F, F2, W, hi, hn, hD, hR, hO, hW => by
    by_cases hie : i = sc.length
    · subst hie; exact hend n σ F F2 W hD hR hO (by omega)
    have hget : sc[i]? = some sc[i] := List.getElem?_eq_getElem (by omega)
    have hld := fun {σ' : St} (hk : Kept' σ0.next σ0 σ') => hH.ld hk hget
    generalize sc[i] = s at hld
    obtain ⟨q, e, hat⟩ := hld hO.kept
    subst e
    have rd : ∀ {σ' : St}, Kept' σ0.next σ0 σ' → ∀ K : Value → Res, σ'.ld q (0 + Int.toNat (i : Int) * 1) K = K (.string s) := fun hk => by
      obtain ⟨q1, e1, g⟩ := hld hk
      cases e1
      exact fun K => g 0 (.string s) _ (by omega) rfl (by simp) K
    have hw : IntKind.wrap .i64 ((i : Int) + 1) = ((i + 1 : Nat) : Int) := by rw [wrap_in _ (by omega) (by omega)]; omega
    have ni : inRange (i : Int) (sc.length : Int) = true := by simp [inRange]; omega
    rw [f3_l5, decide_eq_true (by omega), br_true, need_of ni, adr_some, rd hO.kept, asS_s]
    by_cases h200 : ((s.size : Nat) : Int) > 200
    · rw [decide_eq_true h200, br_true]; exact ⟨σ, rfl⟩
    rw [decide_eq_false h200, br_false, need_of ni, adr_some, rd hO.kept, asS_s, need_of (by rw [decide_eq_true_eq]; omega), byteCells_by8]
    have hsz := size_list s
    have s1 : Same σ (σ.new (.ro (by8 s.data.toList))) [] := Same.new _ _ _
    have hB : Bytes (σ.new (.ro (by8 s.data.toList))) (some ⟨σ.next, 0, none⟩) s.data.toList [σ.next] := Bytes.ro (get_new_same _ _) (by simp)
    generalize σ.new (.ro (by8 s.data.toList)) = σ1 at s1 hB
    obtain ⟨v, σ2, g2, hor⟩ := D.write_spec (hD.idle s1) L (k + 9) hB (z := 0) (by omega) (i : Int)
    rw [hsz] at g2
    rw [g2, bnd_some]
    have hO1 := hO.idle s1
    rcases hor with ⟨F', hl, _, _, _, hD2, hT⟩ | ⟨hno, _⟩ | ⟨_, hl, _, s2⟩
    · have hO2 : Owns σ0 σ2 [F', F2] := hO1.turned 0 rfl hT
      have hR2 := (hR.idle s1).same hT.same (hO1.off 1 0 (by omega) rfl rfl)
      obtain ⟨c, σ3, g3, hor3⟩ := D.rwrite_spec hR2 L (k + 11) (by omega) (i : Int) s
      rw [need_of ni, adr_some, rd hO2.kept, asS_s, g3, bnd_some, asI_i, hw]
      rcases hor3 with ⟨F2', hl3, _, _, _, hR3, hT3⟩ | ⟨hno, _⟩ | ⟨_, hno, _⟩
      · have hO3 : Owns σ0 σ3 [F', F2'] := hO2.turned 1 rfl hT3
        exact opens_loop L k hL hlen hS hH hend n (i + 1) σ3 F' F2' _ (by omega) (by omega) (hD2.same hT3.same (hO2.off 0 1 (by omega) rfl rfl)) hR3 hO3 (by rw [List.length_append]; simp; omega)
      · exact absurd ⟨by omega, by omega⟩ hno
      · exact absurd hl hno
    · exact absurd ⟨by omega, by omega⟩ hno
    · have hR2 := (hR.idle s1).idle s2
      have hO2 := hO1.idle s2
      obtain ⟨c, σ3, g3, hor3⟩ := D.rwrite_spec hR2 L (k + 11) (by omega) (i : Int) s
      rw [need_of ni, adr_some, rd hO2.kept, asS_s, g3, bnd_some, asI_i, hw]
      rcases hor3 with ⟨F2', hl3, _⟩ | ⟨hno, _⟩ | ⟨_, _, _, rfl⟩
      · exact absurd hl3 hl
      · exact absurd ⟨by omega, by omega⟩ hno
      · exact opens_loop L k hL hlen hS hH hend n (i + 1) _ F F2 _ (by omega) (by omega) ((hD.idle s1).idle s2) hR2 hO2 (by omega)
end


/-! What follows the loop. -/
def bakW : ByteArray := ⟨#[98, 97, 99, 107, 117, 112]⟩
theorem wrong46_err (L k : Nat) {σ : St} {v : Value} {c at_ : Int} (h : Err σ v c at_) : ∃ w σ', evCall Tryz.prog env L (k + 2) 46 [.int .i64 0, v] σ = some (w, σ') ∧ E2.Err2 σ' w bakW 0 c ∧ Same σ σ' [] := by
  obtain ⟨q, rfl, hg, hq⟩ := h
  rw [f46_eq, f42_eq, eqNil_iface, br_false]
  have hb : ∀ K : Res, eqErr (.iface 162 (.pointer (some ⟨q, 0, none⟩))) 70 .i64 0 (fun v2 => br v2 (some (Value.nilIface, σ)) K) = K := fun K => rfl
  rw [hb, need_true, need_of (show oneCell (Value.iface 162 (Value.pointer (some ⟨q, 0, none⟩))) = true from rfl), need_true, bnd_some]
  have s1 : Same σ (σ.new (.own [.string bakW, .int .i64 0, .iface 162 (.pointer (some ⟨q, 0, none⟩))] 164)) [] := Same.new _ _ _
  refine ⟨_, _, rfl, ⟨σ.next, q, _, _, rfl, ⟨get_new_same _ _, by simp⟩, ⟨(s1.2 q hq (by simp)).trans hg, by simp; omega⟩⟩, s1⟩
theorem place2_ok (L k : Nat) (hL : 4 < L) {σ : St} {v : Value} {c : Int} (h : E2.Err2 σ v bakW 0 c) (hc : c ≠ 0) : ∃ σ', evCall Tryz.prog env L (k + 4) 15 [v, .int .i64 0, .int .i64 c] σ = some (.bool true, σ') ∧ Same σ σ' [] := by
  rw [f15_eq]
  obtain ⟨σ1, g1, s1⟩ := E2.first2_spec L k hL h
  have h1 : E2.Err2 σ1 v bakW 0 c := by
    obtain ⟨q, q1, w1, a1, e, hF, hF1⟩ := h
    exact ⟨q, q1, w1, a1, e, hF.same s1 (by simp), hF1.same s1 (by simp)⟩
  obtain ⟨σ2, g2, s2⟩ := E2.code2_spec L (k + 1) h1
  have g1' : evCall Tryz.prog env L (k + 3) 54 [v, .string ⟨#[98, 97, 99, 107, 117, 112]⟩] σ = _ := g1
  rw [g1', bnd_some, asT_t, toList2, uncons_c, asI_i, uncons_c, asB_b, endl_n, g2, bnd_some, asI_i, show (c == c) = true by simp, br_true, show (c != 0) = true by simpa using hc, show (true == true) = true from rfl, br_true, not_true, br_false]
  exact ⟨σ2, rfl, s1.trans s2⟩
section
variable {σ0 : St} {d a : Nat}
theorem opens_end (L k n : Nat) (hL : 100000 < L) {σ : St} {F F2 : List Nat} {S : List D.Sec} {W : List D.Lw} (hD : D.Disk σ d F S W) (hR : D.Ref σ a F2 S W) (hO : Owns σ0 σ [F, F2]) (hS : S.length ≤ 70) (hW : W.length ≤ 70) (s0 : Option Addr) (s0n s0z : Nat) {i l : Int} (hil : ¬ i < l) :
    ∃ σ', lpAt Tryz.prog env L (k + 13) 3 [true, true, true, false, true] [] (n + 1) [(0, .slice s0 s0n s0z), (3, ptr d), (4, ptr a), (29, .int .i64 l), (30, .int .i64 i)] σ = some (.bool true, σ') := by
  rw [f3_l5, decide_eq_false hil, br_false]
  have hkk := hO.kept
  rcases gnew_spec (σ0 := σ0) L (k + 10) hL hkk (ad := none) (l := []) 0 (by simp) (fun h => absurd rfl h) with ⟨_, _, hno, _⟩ | ⟨g, σ1, _, g1, hG, s1, hg⟩
  · exact absurd ⟨by simp, by simp⟩ hno
  have hO1 : Owns σ0 σ1 [[g], F, F2] := hO.more s1 (fun q hq => by have := hG.lt q hq; simp at hq; subst hq; omega)
  have hD1 := hD.idle s1
  have hR1 := hR.idle s1
  have hO1' : Owns σ0 σ1 [F, [g], F2] := hO1.flip
  have g1' : evCall Tryz.prog env L (k + 13) 12 [.slice none 0 0] σ = some (.tuple #[ptr g, .nilIface], σ1) := g1
  rw [g1', bnd_some, asT_t, toList2, uncons_c, asP_p, uncons_c, endl_n]
  -- an error: the same at both
  have bad : ∀ {σ3 σ4 : St} {v : Value} {c : Int}, c ≠ 0 → E2.Err2 σ3 v bakW 0 c → Same σ3 σ4 [] → ∃ σ', (∀ K : Value → St → Res, K (.bool true) σ' = bnd (evCall Tryz.prog env L (k + 13) 15 [v, .int .i64 0, .int .i64 c] σ4) K) := by
    intro σ3 σ4 v c hc hE s4
    have hE4 : E2.Err2 σ4 v bakW 0 c := by
      obtain ⟨q, q1, w1, a1, e, hF, hF1⟩ := hE
      exact ⟨q, q1, w1, a1, e, hF.same s4 (by simp), hF1.same s4 (by simp)⟩
    obtain ⟨σ5, g5, _⟩ := place2_ok L (k + 9) (by omega) hE4 hc
    exact ⟨σ5, fun K => by rw [g5, bnd_some]⟩
  by_cases h66 : S.length < 66
  · obtain ⟨v, σ2, g2, hE, s2⟩ := open_small L (k + 2) hD1 h66
    obtain ⟨w, σ3, g3, hE3, s3⟩ := wrong46_err L (k + 10) hE
    have g4 : evCall Tryz.prog env L (k + 13) 14 [ptr a] σ3 = _ := dopen_small L (k + 12) ((hR1.idle s2).idle s3) h66
    obtain ⟨σ5, g5⟩ := bad (σ4 := σ3) (by decide) hE3 (Same.refl _ _)
    rw [f13_eq, g2, bnd_some, asT_t, toList2, uncons_c, asP_p, uncons_c, endl_n, hE.nil, not_false, br_true, g3, bnd_some, bnd_some, asT_t, toList2, uncons_c, asP_p, uncons_c, endl_n, g4, bnd_some, asT_t, toList2, uncons_c, asP_p, uncons_c, asI_i, endl_n, ← g5, asB_b, not_true, br_false, show (!(Option.isNone (none : Option Addr)) == ((1 : Int) != 0)) = false from rfl, br_false, show ((1 : Int) != 0) = true from rfl, br_true]
    exact ⟨σ5, rfl⟩
  rcases openS hD1 hO1' (by omega) (by omega) L (k + 2) hL with ⟨t, mk, bl, m, σ2, ho, g2, hI2, k2⟩ | ⟨e, σ2, ho, g2, hE2, hD2, hO2, k2⟩
  · obtain ⟨nd, a0, a1, a2, a3, σ3, e3, hI3, hn3, h0, h1, h2, h3, k3⟩ := bnew_img L (k + 2) hL (g := g) rfl g2 hI2 k2
    obtain ⟨FF, GG, ww, _, hImg, hO3, _⟩ := hI3.ex
    have hF23 : ∀ x ∈ F2, σ3.get x = σ1.get x := k3 F2 (by simp)
    have hF2l : ∀ x ∈ F2, x < σ3.next := hI3.lt (H := F2) (by simp)
    have hR3 : D.Ref σ3 a F2 S W := by
      obtain ⟨q1, q2, ad1, z1, ad2, z2, e, h1, h2, h3⟩ := hR1.ex
      subst e
      exact ⟨⟨q1, q2, ad1, z1, ad2, z2, rfl, by rw [hF23 a (by simp)]; exact h1, h2.moved (fun x hx => hF23 x (by simp [hx])) (fun x hx => hF2l x (by simp [hx])), h3.1.moved (fun x hx => hF23 x (by simp [hx])) (fun x hx => hF2l x (by simp [hx])), h3.2⟩, hF2l⟩
    obtain ⟨σ4, s4, hor⟩ := dopen_spec L (k + 7) hL (by omega) (by omega) hR3
    rcases hor with ⟨t', mk', bl', w, G', e, g4, hDI, hfr⟩ | ⟨e, _⟩
    rotate_left
    · rw [ho] at e; cases e
    rw [ho] at e
    cases e
    obtain ⟨σ5, g5, s5⟩ := E.place_ok L (k + 9) (by omega) (σ := σ4) (v := .nilIface) (c := 0) (a := 0) (.inl ⟨rfl, rfl⟩)
    have s35 := s4.trans s5
    have hX : NdX σ0 σ5 nd g m d (fun v => if v = 0 then a0 else if v = 1 then a1 else if v = 2 then a2 else a3) (fun v => [if v = 0 then a0 else if v = 1 then a1 else if v = 2 then a2 else a3]) ⟨⟨S, W, t, mk, bl, none⟩, fun _ => ⟨1, 0, []⟩, 0⟩ [[g], F2] := by
      have hX3 : NdX σ0 σ3 nd g m d (fun v => if v = 0 then a0 else if v = 1 then a1 else if v = 2 then a2 else a3) (fun v => [if v = 0 then a0 else if v = 1 then a1 else if v = 2 then a2 else a3]) ⟨⟨S, W, t, mk, bl, none⟩, fun _ => ⟨1, 0, []⟩, 0⟩ [[g], F2] := by
        refine ⟨?_, hn3, four h0 h1 h2 h3⟩
        refine hI3.perm (fun i => if i < 4 then 3 - i else i) (fun i j e => ?_) (fun i H hH => ?_)
        · by_cases h1 : i < 4 <;> by_cases h2 : j < 4 <;> simp [h1, h2] at e <;> omega
        · match i, hH with
          | 0, hH => exact hH
          | 1, hH => exact hH
          | 2, hH => exact hH
          | 3, hH => exact hH
          | i + 4, hH => exact hH
      exact hX3.idle s35
    obtain ⟨σ6, g6, s6⟩ := nimage_spec L (k + 11) hX
    have hbl : bl.length = 32 := hX.im.blen
    have ht : ∀ b : List ByteArray, (strs b).toArray.toList = strs b := fun _ => rfl
    have s7 : Same σ6 (σ6.new (.own (strs bl) 45)) [] := Same.new _ _ _
    have g7 : (σ6.new (.own (strs bl) 45)).get σ6.next = some (.own (strs bl) 45) := get_new_same _ _
    have hDI4 := hDI
    obtain ⟨gq, gad, gz, hGe, hw1, _, hr1, _⟩ := hDI4.ex
    have hwl : w < σ4.next := hDI4.lt w (by rw [hGe]; simp)
    have s47 := (s5.trans s6).trans s7
    have s57 := s6.trans s7
    generalize h7 : σ6.new (.own (strs bl) 45) = σ7 at s7 g7 s47 s57
    have e7 : σ7.get w = _ := (s47.2 w hwl (by simp)).trans hw1
    obtain ⟨ad, z, q, σ8, g8, hrow, _, s8⟩ := flat_spec L (k + 12) (by omega) σ7 hbl
    have s48 := s47.trans s8
    have e8 : σ8.get w = _ := (s48.2 w hwl (by simp)).trans hw1
    have gs := same_spec L (k + 12) (by omega) hrow (hr1.same s48 (by simp)) hbl
    have hX8 := hX.idle (s57.trans s8)
    obtain ⟨σ9, e9, s9⟩ : ∃ σ', evCall Tryz.prog env L (k + 13) 19 [ptr nd] σ8 = some (.int .i64 0, σ') ∧ Same σ8 σ' [] := by
      obtain ⟨L', rfl⟩ : ∃ L', L = L' + 5 := ⟨L - 5, by omega⟩
      rw [f19_eq, lds_own (n := 4) _ hX8.nd (by simp [ndc])]
      show ∃ σ', (uncons [ptr a0, ptr a1, ptr a2, ptr a3] _) = _ ∧ _
      rw [uncons_c, asP_p, uncons_c, asP_p, uncons_c, asP_p, uncons_c, asP_p, endl_n]
      obtain ⟨σa, ea, sa⟩ := ready_none (L' + 5) (k + 10) (L' + 4) (by omega) (nd := nd) (s3 := 0) (p0 := some ⟨a0, 0, none⟩) (p1 := some ⟨a1, 0, none⟩) (p2 := some ⟨a2, 0, none⟩) (p3 := some ⟨a3, 0, none⟩) (i := 0) (by omega) (fun _ => rfl) (hX8.st 0 (by omega))
      obtain ⟨σb, eb, sb⟩ := ready_none (L' + 5) (k + 10) (L' + 3) (by omega) (nd := nd) (s3 := 0) (p0 := some ⟨a0, 0, none⟩) (p1 := some ⟨a1, 0, none⟩) (p2 := some ⟨a2, 0, none⟩) (p3 := some ⟨a3, 0, none⟩) (i := 0 + 1) (by omega) (fun _ => rfl) ((hX8.idle sa).st 1 (by omega))
      obtain ⟨σc, ec, sc⟩ := ready_none (L' + 5) (k + 10) (L' + 2) (by omega) (nd := nd) (s3 := 0) (p0 := some ⟨a0, 0, none⟩) (p1 := some ⟨a1, 0, none⟩) (p2 := some ⟨a2, 0, none⟩) (p3 := some ⟨a3, 0, none⟩) (i := 0 + 1 + 1) (by omega) (fun _ => rfl) ((hX8.idle (sa.trans sb)).st 2 (by omega))
      obtain ⟨σe, ee, se⟩ := ready_none (L' + 5) (k + 10) (L' + 1) (by omega) (nd := nd) (s3 := 0) (p0 := some ⟨a0, 0, none⟩) (p1 := some ⟨a1, 0, none⟩) (p2 := some ⟨a2, 0, none⟩) (p3 := some ⟨a3, 0, none⟩) (i := 0 + 1 + 1 + 1) (by omega) (fun _ => rfl) ((hX8.idle ((sa.trans sb).trans sc)).st 3 (by omega))
      have l3 := f19_l5 (L' + 5) (k + 12) L' σe nd 0 0 (some ⟨a0, 0, none⟩) (some ⟨a1, 0, none⟩) (some ⟨a2, 0, none⟩) (some ⟨a3, 0, none⟩) (0 + 1 + 1 + 1 + 1)
      rw [decide_eq_false (by decide), br_false] at l3
      exact ⟨σe, ea.trans (eb.trans (ec.trans (ee.trans l3))), ((sa.trans sb).trans sc).trans se⟩
    have e3'' : evCall Tryz.prog env L (k + 13) 13 [ptr d, ptr g] σ1 = some (.tuple #[ptr nd, .nilIface], σ3) := e3
    rw [e3'', bnd_some, asT_t, toList2, uncons_c, asP_p, uncons_c, endl_n, g4, bnd_some, asT_t, toList2, uncons_c, asP_p, uncons_c, asI_i, endl_n, g5, bnd_some, asB_b, not_true, br_false, show (!(Option.isNone (some (⟨nd, 0, none⟩ : Addr))) == ((0 : Int) != 0)) = false from rfl, br_false, show ((0 : Int) != 0) = false from rfl, br_false, g6, bnd_some, asT_t, toList2, uncons_c, asAgL_a, ht, uncons_c, asI_i, endl_n, need_of (by rw [strs_len, hbl]; rfl), tmp_put2 σ6 _ (strs bl) 45 (by rw [strs_len, hbl]; rfl) (strs_one _)]
    rw [show σ6.new (.own (strs bl) 45) = σ7 from h7, show σ6.next = σ6.next from rfl, adr_some, ld_at e7 (0 + 2) _ rfl, asI_i, show (((mk : Nat) : Int) == (mk : Nat)) = true by simp, br_true, lds_all (n := 32) g7 (by rw [strs_len, hbl]), g8, bnd_some, asSl_s, adr_some, ld_at e8 (0 + 3) _ rfl, asSl_s, ld_at e7 (0 + 3) _ rfl, asSl_s, chk_same, gs, bnd_some, asB_b, br_true, e9, bnd_some, asI_i]
    exact ⟨σ9, rfl⟩
  · obtain ⟨w, σ3, g3, hE3, s3⟩ := wrong46_err L (k + 10) hE2
    have hF21 : ∀ x ∈ F2, σ2.get x = σ1.get x := k2 F2 (by simp)
    have hF2l : ∀ x ∈ F2, x < σ2.next := hO2.lt 2 rfl
    have hR2 : D.Ref σ2 a F2 S W := by
      obtain ⟨q1, q2, ad1, z1, ad2, z2, e, h1, h2, h3⟩ := hR1.ex
      subst e
      exact ⟨⟨q1, q2, ad1, z1, ad2, z2, rfl, by rw [hF21 a (by simp)]; exact h1, h2.moved (fun x hx => hF21 x (by simp [hx])) (fun x hx => hF2l x (by simp [hx])), h3.1.moved (fun x hx => hF21 x (by simp [hx])) (fun x hx => hF2l x (by simp [hx])), h3.2⟩, hF2l⟩
    obtain ⟨σ4, s4, hor⟩ := dopen_spec L (k + 7) hL (by omega) (by omega) (hR2.idle s3)
    rcases hor with ⟨t', mk', bl', w', G', e', _⟩ | ⟨_, g4⟩
    · rw [ho] at e'; cases e'
    obtain ⟨σ5, g5⟩ := bad (by decide) hE3 s4
    rw [f13_eq, g2, bnd_some, asT_t, toList2, uncons_c, asP_p, uncons_c, endl_n, hE2.nil, not_false, br_true, g3, bnd_some, bnd_some, asT_t, toList2, uncons_c, asP_p, uncons_c, endl_n, g4, bnd_some, asT_t, toList2, uncons_c, asP_p, uncons_c, asI_i, endl_n, ← g5, asB_b, not_true, br_false, show (!(Option.isNone (none : Option Addr)) == ((4 : Int) != 0)) = false from rfl, br_false, show ((4 : Int) != 0) = true from rfl, br_true]
    exact ⟨σ5, rfl⟩
end
theorem bopens_holds (L k : Nat) (hL : 100000 < L) {σ0 : St} {ad0 : Option Addr} {sc : List ByteArray} (hH : Holds σ0 1 cS ad0 sc) : ∃ σ', evCall Tryz.prog env L (k + 14) 3 [.slice ad0 sc.length 0] σ0 = some (.bool true, σ') := by
  rw [f3_eq]
  obtain ⟨σ1, g1, s1⟩ := awake_spec L (k + 1) hL σ0
  have hO1 := (Owns.start σ0).idle s1
  rw [g1, bnd_some, asB_b, not_true, br_false]
  by_cases h70 : ((sc.length : Nat) : Int) > 70
  · obtain ⟨σ3, g3, _⟩ := awake_spec L (k + 1) hL σ1
    rw [decide_eq_true h70, br_true, g3, bnd_some, asB_b]; exact ⟨σ3, rfl⟩
  rw [decide_eq_false h70, br_false]
  obtain ⟨d, F, σ2, g2, hD2, s2, hf2⟩ := D.new_spec L (k + 12) σ1 (sc.length : Int)
  have hmx : (mx 0 (mn (sc.length : Int) 1024)).toNat = sc.length := by unfold mx mn; repeat' split <;> omega
  rw [hmx] at hD2
  have hO2 : Owns σ0 σ2 [F] := hO1.more s2 (fun q hq => ⟨hf2 q hq, hD2.lt q hq⟩)
  obtain ⟨a, F2, σ3, g3, hR3, s3, hf3⟩ := D.rnew_spec L (k + 12) (by omega) σ2 sc.length (by omega)
  have hO3 : Owns σ0 σ3 [F, F2] := (hO2.more s3 (F := F2) (fun q hq => ⟨hf3 q hq, hR3.lt q hq⟩)).flip
  rw [g2, bnd_some, asP_p, g3, bnd_some, asP_p]
  refine opens_loop L (k + 1) hL (by rw [List.length_replicate]; exact Nat.le_refl _) (by rw [List.length_replicate]; omega) hH (fun n σ F F2 W hD hR hO hW => ?_) L 0 σ3 F F2 [] (by omega) (by omega) (hD2.idle s3) hR3 hO3 (by simp)
  exact opens_end L k n hL hD hR hO (by rw [List.length_replicate]; omega) hW ad0 sc.length 0 (by omega)
end Go.AM.Bk
