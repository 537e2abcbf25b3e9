/-
  Texts laid together: BdZd, BdZe, BdZf, BdZg, BdZh, BdWa.
-/
import Derived.Test.YtnihjgamfnabnaaDoorAm22g
import Derived.Test.YtnihjgamfnabnaaDoorAm13g
set_option linter.unusedVariables false
set_option linter.unusedSimpArgs false
set_option linter.unusedSectionVars false
/-
  THE NODE: Begin, Step, Crash, Promote, Image, Applied.
-/
namespace Go.AM.Bd
open Go.Proofs

theorem strs_set32 (b : List ByteArray) (v : Nat) (x : Int) (hx : 0 ≤ x) (s : ByteArray) : (strs b).set (0 + Int.toNat (v : Int) * 8 + Int.toNat x * 1) (.string s) = strs (b.set (8 * v + x.toNat) s) := by
  rw [strs_set]; congr 2; simp; omega
theorem replay_snoc (b : List ByteArray) (v : Nat) (l : List S.Rec) (r : S.Rec) : replay b v (l ++ [r]) = if r.kind = 1 then (replay b v l).set (8 * v + r.block.toNat) r.data else replay b v l := by
  unfold replay; rw [List.foldl_append]; rfl

section
variable {σ0 σ : St} {nd g m d : Nat} {a : Nat → Nat} {F : Nat → List Nat} {N : NS} {R : List (List Nat)} {c : Nat}

/-! Begin. -/
theorem nbegin_inner (L k m0 : Nat) {p : Nat} {mk : Int} {ad1 : Option Addr} {n1 z1 : Nat} {s43 : Int} {i1 : Nat} (hi1 : i1 ≤ 10) {v : Nat} (hv : v < 4) {b : List ByteArray} (hb : b.length = 32) {l : List S.Rec} (hl : l.length ≤ 1000) (hcan : ∀ r ∈ l, S.Can r) {ad : Option Addr} {z : Nat} {q : List Nat} (hp : p ∉ q) : ∀ (n i : Nat) (σ : St), i ≤ l.length → l.length - i < n → Row S.c5 5 36 σ ad z q l → σ.get p = some (.own (strs (replay b v (l.take i))) 68) → p < σ.next →
    ∃ σ2, lpAt Tryd.prog env L k 10 [true, true, true, true, true, false, true, false, true, true, false, true, true, true] [m0] n [(0, ptr nd), (4, .int .i64 mk), (5, ptr p), (7, .int .i64 v), (42, .slice ad1 n1 z1), (43, .int .i64 s43), (44, .int .i64 i1), (59, .slice ad l.length z), (60, .int .i64 l.length), (61, .int .i64 i)] σ =
      lpAt Tryd.prog env L k 10 [true, true, true, true, true, false, true] [] m0 [(0, ptr nd), (4, .int .i64 mk), (5, ptr p), (42, .slice ad1 n1 z1), (43, .int .i64 s43), (44, .int .i64 ((i1 + 1 : Nat) : Int))] σ2 ∧ σ2.get p = some (.own (strs (replay b v l)) 68) ∧ Same σ σ2 [p]
  | 0, i, σ, _, hn, _, _, _ => by omega
  | n + 1, i, σ, hi, hn, hR, hg, hpl => by
    rw [f10_l14]
    by_cases hie : i = l.length
    · subst hie
      have hw : IntKind.wrap .i64 ((i1 : Int) + 1) = ((i1 + 1 : Nat) : Int) := by rw [wrap_in _ (by omega) (by omega)]; omega
      rw [decide_eq_false (by omega), br_false, hw]
      rw [List.take_length] at hg
      exact ⟨σ, rfl, hg, Same.refl _ _⟩
    have hget : l[i]? = some l[i] := List.getElem?_eq_getElem (by omega)
    have hri := hcan l[i] (List.getElem_mem _)
    have htk : l.take (i + 1) = l.take i ++ [l[i]] := by rw [List.take_add_one, hget]; rfl
    obtain ⟨w, e, hld⟩ := hR.lds (fun _ => rfl) hget
    generalize l[i] = r at *
    subst e
    have hw : IntKind.wrap .i64 ((i : Int) + 1) = ((i + 1 : Nat) : Int) := by rw [wrap_in _ (by omega) (by omega)]; omega
    rw [decide_eq_true (by omega), br_true, need_of (by simp [inRange]; omega), adr_some, hld _ (by simp)]
    unfold S.c5
    rw [uncons_c, asI_i, uncons_c, asI_i, uncons_c, asI_i, uncons_c, asS_s, uncons_c, asI_i, endl_n]
    obtain ⟨σ1, hput, g1, s1, n1'⟩ := tmp_put σ [.int .i64 0, .int .i64 0, .int .i64 0, .string ⟨#[]⟩, .int .i64 0] [.int .i64 r.seq, .int .i64 r.kind, .int .i64 r.block, .string r.data, .int .i64 r.number] 36 rfl rfl
    have hg1 : σ1.get p = _ := (s1.2 p hpl (by simp)).trans hg
    rw [hput, ld_at g1 1 _ rfl, asI_i, hw]
    have hrl := replay_len v (l.take i) b
    by_cases hk : r.kind = 1
    · obtain ⟨_, hc1 | hc1⟩ := hri
      rotate_left
      · omega
      obtain ⟨_, hb0, hb7, _⟩ := hc1
      rw [show (r.kind == 1) = true by simpa using hk, br_true, ld_at g1 2 _ rfl, asI_i, ld_at g1 3 _ rfl, asS_s, need_of (by simp [inRange]; omega), need_of (by simp [inRange]; omega), put_at hg1 _ (.string r.data) (by rw [strs_len, hrl, hb]; simp; omega) rfl, strs_set32 _ _ _ hb0]
      have s2 := Same.set σ1 p (.own (strs ((replay b v (l.take i)).set (8 * v + r.block.toNat) r.data)) 68)
      have hrs := replay_snoc b v (l.take i) r
      rw [if_pos hk, ← htk] at hrs
      rw [← hrs] at s2 ⊢
      have s02 : Same σ _ [p] := (s1.mono (by simp)).trans s2
      obtain ⟨σ3, e3, g3, s3⟩ := nbegin_inner L k m0 hi1 hv hb hl hcan hp n (i + 1) _ (by omega) (by omega) (hR.same s02 (fun x hx => by simp; rintro rfl; exact hp hx)) (get_set_same _ _ _) (by simp; omega)
      exact ⟨σ3, e3, g3, s02.trans s3⟩
    · rw [show (r.kind == 1) = false by simpa using hk, br_false]
      have hrs := replay_snoc b v (l.take i) r
      rw [if_neg hk, ← htk] at hrs
      rw [← hrs] at hg1
      obtain ⟨σ3, e3, g3, s3⟩ := nbegin_inner L k m0 hi1 hv hb hl hcan hp n (i + 1) σ1 (by omega) (by omega) (hR.same s1 (by simp)) hg1 (by omega)
      exact ⟨σ3, e3, g3, (s1.mono (by simp)).trans s3⟩
theorem foldl_drop {α β : Type} (f : β → α → β) (x : β) (l : List α) (i : Nat) (y : α) (h : l[i]? = some y) : (l.take (i + 1)).foldl f x = f ((l.take i).foldl f x) y := by
  rw [List.take_add_one, h, List.foldl_append]; rfl
theorem nbegin_outer (L k : Nat) (hL : 100000 < L) (h : NdX σ0 σ nd g m d a F N R) (hI : N.Inv c) (hc : c ≤ 899) {mk : Int} {p : Nat} (hpn : σ.next ≤ p) {l : List Nat} (hl : ∀ v ∈ l, v < 4) (hl4 : l.length ≤ 4) {ad : Option Addr} {z : Nat} {q : List Nat} (hpq : p ∉ q) {b : List ByteArray} (hb : b.length = 32) : ∀ (n i : Nat) (σ' : St), i ≤ l.length → l.length - i < n → Same σ σ' [] → Row c1 1 3 σ' ad z q (ints l) → σ'.get p = some (.own (strs ((l.take i).foldl (N.layOne mk) b)) 68) → p < σ'.next →
    ∃ n' σ2, lpAt Tryd.prog env L (k + 3) 10 [true, true, true, true, true, false, true] [] n [(0, ptr nd), (4, .int .i64 mk), (5, ptr p), (42, .slice ad l.length z), (43, .int .i64 l.length), (44, .int .i64 i)] σ' =
      lpAt Tryd.prog env L (k + 3) 10 [true, true, true, true, true, false, true] [] (n' + 1) [(0, ptr nd), (4, .int .i64 mk), (5, ptr p), (42, .slice ad l.length z), (43, .int .i64 l.length), (44, .int .i64 l.length)] σ2 ∧ Same σ σ2 [] ∧ σ2.get p = some (.own (strs (l.foldl (N.layOne mk) b)) 68) ∧ p < σ2.next
  | 0, i, σ', _, hn, _, _, _, _ => by omega
  | n + 1, i, σ', hi, hn, hs, hR, hg, hpl => by
    by_cases hie : i = l.length
    · subst hie
      rw [List.take_length] at hg
      exact ⟨n, σ', rfl, hs, hg, hpl⟩
    rw [f10_l10]
    have h' := h.idle hs
    have hget : l[i]? = some l[i] := List.getElem?_eq_getElem (by omega)
    have hlv := hl l[i] (List.getElem_mem _)
    have hfd := foldl_drop (N.layOne mk) b l i _ hget
    have hbl := lay_len N mk (l.take i) b
    generalize l[i] = v at *
    obtain ⟨w, e, hat⟩ := hR.at (fun _ => rfl) (i := i) (a := (v : Int)) (by unfold ints; rw [List.getElem?_map, hget]; rfl)
    subst e
    have hv4 := hI.st v hlv
    have hlen := hv4.len
    have hf1 := hv4.f1
    rw [decide_eq_true (by omega), br_true, need_of (by simp [inRange]; omega), adr_some, hat 0 (.int .i64 v) _ (by omega) rfl (by simp), asI_i, need_of (by simp [inRange]; omega), show 0 + 2 + Int.toNat (v : Int) * 1 = 2 + v by simp, h'.stg v hlv, asP_p]
    have step : ∀ {σ2 : St} {ad' : Option Addr} {z' : Nat} {q' : List Nat} {l' : List S.Rec}, Same σ' σ2 [] → Row S.c5 5 36 σ2 ad' z' q' l' → p ∉ q' → l'.length ≤ 1000 → (∀ r ∈ l', S.Can r) → replay ((l.take i).foldl (N.layOne mk) b) v l' = N.layOne mk ((l.take i).foldl (N.layOne mk) b) v →
        ∃ n' σ3, lpAt Tryd.prog env L (k + 3) 10 [true, true, true, true, true, false, true, false, true, true, false, true, true, true] [n] L [(0, ptr nd), (4, .int .i64 mk), (5, ptr p), (7, .int .i64 v), (42, .slice (some ⟨w, 0, none⟩) l.length z), (43, .int .i64 l.length), (44, .int .i64 i), (59, .slice ad' l'.length z'), (60, .int .i64 l'.length), (61, .int .i64 0)] σ2 =
          lpAt Tryd.prog env L (k + 3) 10 [true, true, true, true, true, false, true] [] (n' + 1) [(0, ptr nd), (4, .int .i64 mk), (5, ptr p), (42, .slice (some ⟨w, 0, none⟩) l.length z), (43, .int .i64 l.length), (44, .int .i64 l.length)] σ3 ∧ Same σ σ3 [] ∧ σ3.get p = some (.own (strs (l.foldl (N.layOne mk) b)) 68) ∧ p < σ3.next := by
      intro σ2 ad' z' q' l' s2 hR2 hpq' hl' hcan hrep
      have n2 := s2.1
      obtain ⟨σ3, e3, g3, s3⟩ := nbegin_inner (nd := nd) L (k + 3) n (mk := mk) (ad1 := some ⟨w, 0, none⟩) (n1 := l.length) (z1 := z) (s43 := l.length) (i1 := i) (by omega) hlv (hbl.trans hb) hl' hcan hpq' L 0 σ2 (by omega) (by omega) hR2 (by rw [List.take_zero]; exact (s2.2 p hpl (by simp)).trans hg) (by omega)
      rw [hrep, ← hfd] at g3
      have n3 := s3.1
      have s03 : Same σ σ3 [] := (hs.trans s2).fresh s3 (fun x hx => .inr (by simp at hx; omega))
      obtain ⟨n', σ4, e4, h4⟩ := nbegin_outer L k hL h hI hc hpn hl hl4 hpq hb n (i + 1) σ3 (by omega) (by omega) s03 ((hR.same s2 (by simp)).same s3 (fun x hx => by simp; rintro rfl; exact hpq hx)) g3 (by omega)
      exact ⟨n', σ4, e3.trans e4, h4⟩
    rcases S.upto_spec (h'.st v hlv) L k (by omega) (by omega) (Nat.le_refl _) mk with ⟨j, r, ad', z', q', σ2, g2, hR2, s2, hq2, hjl, hj, hh, hno⟩ | ⟨σ2, g2, s2, hno⟩
    · have htl : ((N.st v).rs.take (j + 1)).length = j + 1 := by rw [List.length_take]; omega
      obtain ⟨n', σ3, e3, h3⟩ := step s2 hR2 (fun hx => by have := hq2 p hx; omega) (by omega) (fun r hr => by
        obtain ⟨i, hi⟩ := List.mem_iff_getElem?.1 (List.mem_of_mem_take hr)
        exact (hv4.seq i r hi).1) (by unfold NS.layOne; rw [upTo_some hj hh hno])
      rw [htl] at e3
      rw [g2, bnd_some, asT_t, toList2, uncons_c, asSl_s, uncons_c, asB_b, endl_n]
      exact ⟨n', σ3, e3, h3⟩
    · obtain ⟨n', σ3, e3, h3⟩ := step (l' := []) s2 (Row.nil _ _ _ _) (by simp) (by simp) (by simp) (by unfold NS.layOne; rw [upTo_none (rs := (N.st v).rs) (m := mk) (fun r hr => hno r (by rw [List.take_length]; exact hr))]; rfl)
      rw [g2, bnd_some, asT_t, toList2, uncons_c, asSl_s, uncons_c, asB_b, endl_n]
      exact ⟨n', σ3, e3, h3⟩

theorem NS.Inv.begun (hI : N.Inv c) (h0 : N.mark = 0) {gs : GS} (hr : N.ready gs ≠ 0) : (N.begun gs (N.ready gs)).Inv (c + 1) ∧ long (N.lay gs (N.ready gs)) = false ∧ N.ready gs ≤ top ∧ (N.im.km : Int) < N.ready gs ∧ 0 < N.ready gs := by
  obtain ⟨hcan, hpos⟩ := ready_can hr
  obtain ⟨_, htop⟩ := can_top hI hcan
  obtain ⟨_, hkm, _⟩ := can_inv hcan
  have hw : N.im.work = none := by
    rcases hI.wk with ⟨_, h⟩ | ⟨h, _⟩
    · exact h
    · omega
  have hbl : long N.im.bl = false := by
    by_cases h0 : N.im.t = 0
    · rw [(hI.im.good.zero h0).2.2.2]; exact long_none
    · rw [long_false]
      intro s hs
      obtain ⟨i, hi⟩ := List.mem_iff_getElem?.1 hs
      exact (hI.im.good.blocks (by omega) i s hi).2
  have hlg := lay_long hI (N.ready gs) (gs.at_ (N.ready gs)) N.im.bl (fun v hv => at_lt hv) hbl
  have hll : (N.lay gs (N.ready gs)).length = 32 := (lay_len N _ _ _).trans hI.im.good.len
  refine ⟨⟨hI.im.begin hw hll hlg htop hkm, ?_, fun v hv => (hI.st v hv).mono (by omega), .inr ⟨hpos, _, 0, rfl⟩⟩, hlg, htop, hkm, hpos⟩
  have := hI.tc
  unfold NS.begun
  dsimp only
  simp
  split at this <;> omega
theorem nbegin_spec (L k : Nat) (hL : 100000 < L) (h : NdX σ0 σ nd g m d a F N R) (hI : N.Inv c) (hc : c ≤ 899) {G : List Nat} {gs : GS} (hG : Grp σ g G gs) :
    ∃ v σ', evCall Tryd.prog env L (k + 6) 10 [ptr nd] σ = some (v, σ') ∧ Kp σ σ' R ∧
      ((N.mark ≠ 0 ∧ (∃ e, v = .tuple #[.int .i64 0, e] ∧ Fr σ σ' e 9 0) ∧ Same σ σ' []) ∨ (N.mark = 0 ∧ N.ready gs = 0 ∧ (∃ e, v = .tuple #[.int .i64 0, e] ∧ Fr σ σ' e 8 0) ∧ Same σ σ' []) ∨
       (N.mark = 0 ∧ N.ready gs ≠ 0 ∧ v = .tuple #[.int .i64 (N.ready gs), .nilIface] ∧ NdX σ0 σ' nd g m d a F (N.begun gs (N.ready gs)) R)) := by
  rw [f10_eq, ld_at h.nd 7 (.int .i64 N.mark) rfl, asI_i]
  by_cases h0 : N.mark = 0
  rotate_left
  · obtain ⟨e, σ1, g1, hE, s1⟩ := wrong46 L (k + 3) σ 0 9 (by decide)
    rw [show (N.mark != 0) = true by simpa using h0, br_true, g1, bnd_some]
    exact ⟨_, σ1, rfl, h.kept s1, .inl ⟨h0, ⟨e, rfl, hE⟩, s1⟩⟩
  obtain ⟨σ1, g1, s1⟩ := nready_spec L k hL h hI hc hG
  rw [show (N.mark != 0) = false by simpa using h0, br_false, g1, bnd_some, asI_i]
  by_cases hr : N.ready gs = 0
  · obtain ⟨e, σ2, g2, hE, s2⟩ := wrong46 L (k + 3) σ1 0 8 (by decide)
    have s02 := s1.trans s2
    rw [show (N.ready gs == 0) = true by simpa using hr, br_true, g2, bnd_some]
    exact ⟨_, σ2, rfl, h.kept s02, .inr (.inl ⟨h0, hr, ⟨e, rfl, hE.before s1.1⟩, s02⟩)⟩
  have h1 := h.idle s1
  obtain ⟨σ2, g2, s2⟩ := blocksS h1.im L (k + 4)
  have hbl := h1.im.blen
  have e1 : (strs N.im.bl).toArray.toList = strs N.im.bl := rfl
  rw [show (N.ready gs == 0) = false by simpa using hr, br_false, ld_at h1.nd 1 (ptr m) rfl, asP_p, g2, bnd_some, asAgL_a, e1, need_of (by rw [strs_len, hbl]; rfl), tmp_put2 σ2 _ (strs N.im.bl) 68 (by rw [strs_len, hbl]; rfl) (strs_one _)]
  have s3 : Same σ2 (σ2.new (.own (strs N.im.bl) 68)) [] := Same.new _ _ _
  have g3 : (σ2.new (.own (strs N.im.bl) 68)).get σ2.next = some (.own (strs N.im.bl) 68) := get_new_same _ _
  have n3 : (σ2.new (.own (strs N.im.bl) 68)).next = σ2.next + 1 := rfl
  generalize σ2.new (.own (strs N.im.bl) 68) = σ3 at s3 g3 n3
  have s03 := (s1.trans s2).trans s3
  have h3 := h.idle s03
  obtain ⟨ad, z, q, σ4, g4, hR4, s4, hq4⟩ := atg_spec L (k + 3) (by omega) (hG.idle s03) (N.ready gs)
  rw [ld_at h3.nd 6 (ptr g) rfl, asP_p, g4, bnd_some, asSl_s]
  have s04 := s03.trans s4
  have n02 := (s1.trans s2).1
  have n4 := s4.1
  have hal := at_len gs (N.ready gs)
  obtain ⟨n', σ5, e5, s05, g5, l5⟩ := nbegin_outer L (k + 2) hL h hI hc (mk := N.ready gs) (p := σ2.next) (by omega) (l := gs.at_ (N.ready gs)) (fun v hv => at_lt hv) hal (fun hx => by have := hq4 _ hx; omega) hbl L 0 σ4 (by omega) (by omega) s04 hR4 (by rw [List.take_zero]; exact (s4.2 _ (by omega) (by simp)).trans g3) (by omega)
  have e5' := e5
  rw [f10_l10, decide_eq_false (by omega), br_false] at e5
  have h5 := h.idle s05
  obtain ⟨hI', hlg, htop, hkm, hpos⟩ := hI.begun h0 hr
  have hll : (N.lay gs (N.ready gs)).length = 32 := (lay_len N _ _ _).trans hbl
  have hw : N.im.work = none := by
    rcases hI.wk with ⟨_, h⟩ | ⟨h, _⟩
    · exact h
    · omega
  obtain ⟨v, σ6, g6, k6, hor⟩ := begin_spec h5.im L (k + 1) hL hI.im.ok hll (N.ready gs)
  rw [ld_at h5.nd (0 + 1) (ptr m) rfl, asP_p, lds_all (n := 32) g5 (by rw [strs_len]; exact hll.symm)] at e5
  have g6' : evCall Tryd.prog env L (k + 5) 24 [ptr m, .agg (strs ((gs.at_ (N.ready gs)).foldl (N.layOne (N.ready gs)) N.im.bl)).toArray, .int .i64 (N.ready gs)] σ5 = some (v, σ6) := g6
  rw [g6', bnd_some] at e5
  rcases hor with ⟨hx, _⟩ | ⟨_, hx | hx, _⟩ | ⟨_, _, _, hx, _⟩ | ⟨_, _, _, _, rfl, hI6⟩
  · exact absurd hw hx
  · rw [hlg] at hx; cases hx
  · omega
  · omega
  obtain ⟨h6, kp6⟩ := h5.image hI6 k6
  obtain ⟨σ7, g7, h7, kp7⟩ := h6.own (N.ready gs)
  rw [eqNil_nil, not_true, br_false, g7] at e5
  refine ⟨_, σ7, e5, ((h.kept s05).trans kp6).trans kp7, .inr (.inr ⟨h0, hr, rfl, h7⟩)⟩
end
end Go.AM.Bd

/-
  THE NODE: drop, Step, Crash.
-/
namespace Go.AM.Bd
open Go.Proofs

theorem ImS.perm {σ0 σ : St} {m d : Nat} {s : IS} {Rs Gs : List (List Nat)} (h : ImS σ0 σ m d s Rs) (f : Nat → Nat) (hf : ∀ i j, f i = f j → i = j) (hg : ∀ i G, Gs[i]? = some G → Rs[f i]? = some G) : ImS σ0 σ m d s Gs := by
  obtain ⟨F, G, w, a1, a2, a3, a4, a5⟩ := h.ex
  refine ⟨F, G, w, a1, a2, a3.map (fun i => if i < 2 then i else f (i - 2) + 2) (fun i j e => ?_) (fun i H hH => ?_), a4, a5⟩
  · by_cases hi : i < 2 <;> by_cases hj : j < 2 <;> simp [hi, hj] at e <;> first | omega | (have := hf _ _ e; omega)
  · match i, hH with
    | 0, hH => exact hH
    | 1, hH => exact hH
    | i + 2, hH => exact hg i H hH
section
variable {σ0 σ : St} {nd g m d : Nat} {a : Nat → Nat} {F : Nat → List Nat} {N : NS} {R : List (List Nat)} {c : Nat}
/-- One more thing beside the node. -/
theorem NdX.push (h : NdX σ0 σ nd g m d a F N R) {σ' : St} (hs : Same σ σ' []) {X : List Nat} (hX : ∀ q ∈ X, σ.next ≤ q ∧ q < σ'.next) : NdX σ0 σ' nd g m d a F N (X :: R) := by
  have hi := h.idle hs
  refine ⟨(h.im.push2 hs hX).perm (fun i => if i < 5 then i + 1 else if i = 5 then 0 else i) (fun i j e => ?_) (fun i H hH => ?_), hi.nd, hi.st⟩
  · by_cases h1 : i < 5 <;> by_cases h2 : j < 5 <;> by_cases h3 : i = 5 <;> by_cases h4 : j = 5 <;> simp [h1, h2, h3, h4] at e <;> omega
  · match i, hH with
    | 0, hH => exact hH
    | 1, hH => exact hH
    | 2, hH => exact hH
    | 3, hH => exact hH
    | 4, hH => exact hH
    | 5, hH => exact hH
    | i + 6, hH => exact hH
theorem NdX.pop {X : List Nat} (h : NdX σ0 σ nd g m d a F N (X :: R)) : NdX σ0 σ nd g m d a F N R := by
  refine ⟨h.im.perm (fun i => if i < 5 then i else i + 1) (fun i j e => ?_) (fun i H hH => ?_), h.nd, h.st⟩
  · by_cases h1 : i < 5 <;> by_cases h2 : j < 5 <;> simp [h1, h2] at e <;> omega
  · match i, hH with
    | 0, hH => exact hH
    | 1, hH => exact hH
    | 2, hH => exact hH
    | 3, hH => exact hH
    | 4, hH => exact hH
    | i + 5, hH => exact hH

/-! drop. -/
theorem dropL_snoc (N : NS) (mk : Int) (l : List Nat) (v : Nat) (hv : v ∉ l) : N.dropL mk (l ++ [v]) = { N.dropL mk l with st := upd (N.dropL mk l).st v (if (N.st v).mark ≠ mk then (N.st v).drop mk else N.st v) } := by
  unfold NS.dropL
  simp only [NS.mk.injEq, true_and, and_true]
  funext u
  unfold upd
  by_cases hu : u = v
  · subst hu; simp
  · simp [hu]
/-! Step. -/
theorem NS.Inv.step (hI : N.Inv c) (hc : c ≤ 899) (gs : GS) : (N.step gs).Inv c := by
  unfold NS.step
  cases hw : N.im.work with
  | none => exact hI
  | some p =>
    obtain ⟨mk', bl', k⟩ := p
    have htc := hI.tc
    rw [hw] at htc
    simp at htc
    have hinv := hI.im.step (by omega) hw
    obtain ⟨hm0, bl, k', hwk⟩ : 0 < N.mark ∧ ∃ bl k, N.im.work = some (N.mark.toNat, bl, k) := by
      rcases hI.wk with ⟨_, h⟩ | h
      · rw [hw] at h; cases h
      · exact h
    rw [hw] at hwk
    cases hwk
    have hok := (hI.im.ok.bw _ _ _ hw).1
    dsimp only
    by_cases hk : k = 34
    · rw [if_pos hk]
      subst hk
      refine NS.Inv.dropL (N := { N with im := stepS N.im N.mark.toNat bl' 34, mark := 0 }) ⟨hinv, ?_, hI.st, .inl ⟨rfl, rfl⟩⟩ _ _
      show N.im.t + 1 + 0 ≤ c
      omega
    · rw [if_neg hk]
      refine ⟨hinv, ?_, hI.st, .inr ⟨hm0, ?_⟩⟩
      · unfold stepS
        dsimp only
        split
        · dsimp only; simp; omega
        · split
          · dsimp only; simp; omega
          · split
            · dsimp only; simp; omega
            · omega
      · unfold stepS
        dsimp only
        split
        · exact ⟨_, _, rfl⟩
        · split
          · exact ⟨_, _, rfl⟩
          · split
            · exact ⟨_, _, rfl⟩
            · omega
/-! Crash. -/
def NS.crashed (N : NS) (keep : Int) : NS :=
  match opn (rd (D.lay (D.bit keep) 0 N.im.S N.im.W)) with
  | some (t, km, bl) => { N with im := ⟨D.lay (D.bit keep) 0 N.im.S N.im.W, [], t, km, bl, none⟩, mark := 0 }
  | none => N
def NS.crash (N : NS) (keep : Int) (gs : GS) : NS := (N.crashed keep).drop gs
theorem crashed_is (hI : N.Inv c) (hc : c ≤ 899) (keep : Int) : ∃ t km bl, Good (rd (D.lay (D.bit keep) 0 N.im.S N.im.W)) t km bl ∧ t ≤ c ∧ N.crashed keep = { N with im := ⟨D.lay (D.bit keep) 0 N.im.S N.im.W, [], t, km, bl, none⟩, mark := 0 } ∧
    ((t = N.im.t ∧ km = N.im.km ∧ bl = N.im.bl) ∨ (t = N.im.t + 1 ∧ N.im.work = some (km, bl, 34) ∧ D.bit keep 0 = true)) := by
  have htc := hI.tc
  rcases hI.im.crash (D.bit keep) with hg | ⟨mk', bl', hw, hb, hg⟩
  · exact ⟨_, _, _, hg, by split at htc <;> omega, by unfold NS.crashed; rw [hg.opn], .inl ⟨rfl, rfl, rfl⟩⟩
  · rw [hw] at htc; simp at htc
    exact ⟨_, _, _, hg, htc, by unfold NS.crashed; rw [hg.opn], .inr ⟨rfl, hw, hb⟩⟩
theorem NS.Inv.crashed (hI : N.Inv c) (hc : c ≤ 899) (keep : Int) : (N.crashed keep).Inv c := by
  obtain ⟨t, km, bl, hg, ht, e, _⟩ := crashed_is hI hc keep
  rw [e]
  exact ⟨⟨(D.lay_len _ _ _ _).trans hI.im.sl, by show t ≤ 900; omega, hg, rfl⟩, ht, hI.st, .inl ⟨rfl, rfl⟩⟩
theorem NS.Inv.crash (hI : N.Inv c) (hc : c ≤ 899) (keep : Int) (gs : GS) : (N.crash keep gs).Inv c := (hI.crashed hc keep).dropL _ _
end
end Go.AM.Bd

/-
  THE NODE: Promote, Image, Applied; steps in a row.
-/
namespace Go.AM.Bd
open Go.Proofs

def NS.steps (g : GS) : Nat → NS → NS
  | 0, N => N
  | n + 1, N => NS.steps g n (N.step g)
theorem step_idle {N : NS} (g : GS) (h : N.im.work = none) : N.step g = N := by unfold NS.step; rw [h]
theorem steps_idle (g : GS) : ∀ (n : Nat) {N : NS}, N.im.work = none → N.steps g n = N
  | 0, N, h => rfl
  | n + 1, N, h => by unfold NS.steps; rw [step_idle g h]; exact steps_idle g n h
theorem NS.Inv.steps {c : Nat} (hc : c ≤ 899) (g : GS) : ∀ (n : Nat) {N : NS}, N.Inv c → (N.steps g n).Inv c
  | 0, N, h => h
  | n + 1, N, h => NS.Inv.steps hc g n (h.step hc g)
theorem step_work {N : NS} (g : GS) {mk' k : Nat} {bl' : List ByteArray} (h : N.im.work = some (mk', bl', k)) (hk : k < 34) : (N.step g).im.work = some (mk', bl', k + 1) ∧ (N.step g).mark = N.mark ∧ (N.step g).st = N.st ∧ (N.step g).im.t = N.im.t ∧ (N.step g).im.km = N.im.km ∧ (N.step g).im.bl = N.im.bl := by
  unfold NS.step
  rw [h]
  dsimp only
  rw [if_neg (by omega)]
  unfold stepS
  dsimp only
  split
  · exact ⟨rfl, rfl, rfl, rfl, rfl, rfl⟩
  · split
    · rename_i h32; subst h32; exact ⟨rfl, rfl, rfl, rfl, rfl, rfl⟩
    · split
      · rename_i h33; subst h33; exact ⟨rfl, rfl, rfl, rfl, rfl, rfl⟩
      · omega
theorem step_last {N : NS} (g : GS) {mk' : Nat} {bl' : List ByteArray} (h : N.im.work = some (mk', bl', 34)) : N.step g = NS.drop { N with im := ⟨D.lay (fun _ => true) 0 N.im.S N.im.W, [], N.im.t + 1, mk', bl', none⟩, mark := 0 } g := by
  unfold NS.step
  rw [h]
  dsimp only
  rw [if_pos rfl]
  unfold stepS
  rw [if_neg (by omega), if_neg (by omega), if_neg (by omega)]
theorem drop_im (N : NS) (g : GS) : (N.drop g).im = N.im := rfl
theorem drop_mark (N : NS) (g : GS) : (N.drop g).mark = N.mark := rfl
/-- All that is left. -/
theorem steps_done (g : GS) {mk' : Nat} {bl' : List ByteArray} : ∀ (n k : Nat) {N : NS}, N.im.work = some (mk', bl', k) → k + n = 34 →
    ∃ S', N.steps g (n + 1) = NS.drop { N with im := ⟨S', [], N.im.t + 1, mk', bl', none⟩, mark := 0 } g
  | 0, k, N, h, hk => by
    have : k = 34 := by omega
    subst this
    exact ⟨_, step_last g h⟩
  | n + 1, k, N, h, hk => by
    obtain ⟨h1, h2, h3, h4, h5, h6⟩ := step_work g h (by omega)
    obtain ⟨S', e⟩ := steps_done g n (k + 1) h1 (by omega)
    refine ⟨S', ?_⟩
    show NS.steps g (n + 1) (N.step g) = _
    rw [e, h4]
    unfold NS.drop NS.dropL
    simp only [h3]
theorem steps_add (g : GS) : ∀ (m n : Nat) (N : NS), N.steps g (m + n) = (N.steps g m).steps g n
  | 0, n, N => by rw [Nat.zero_add]; rfl
  | m + 1, n, N => by
    rw [show m + 1 + n = (m + n) + 1 by omega]
    show NS.steps g (m + n) (N.step g) = _
    rw [steps_add g m n]
    rfl
theorem steps_full (g : GS) {mk' k : Nat} {bl' : List ByteArray} {N : NS} (h : N.im.work = some (mk', bl', k)) (hk : k ≤ 34) (n : Nat) (hn : 35 - k ≤ n) : ∃ S', N.steps g n = NS.drop { N with im := ⟨S', [], N.im.t + 1, mk', bl', none⟩, mark := 0 } g := by
  obtain ⟨S', e⟩ := steps_done g (34 - k) k h (by omega)
  refine ⟨S', ?_⟩
  rw [show n = (34 - k + 1) + (n - (35 - k)) by omega, steps_add, e, steps_idle _ _ (by rw [drop_im])]

section
variable {σ0 σ : St} {nd g m d : Nat} {a : Nat → Nat} {F : Nat → List Nat} {N : NS} {R : List (List Nat)} {c : Nat}

/-! Promote. -/
/-- Behind a promotion: what was being applied is, the rest falls. -/
def NS.fin (N : NS) (g : GS) : NS := N.steps g 35
def NS.cut4 (N : NS) : NS := { N with st := fun u => if u < 4 then (N.st u).cut else N.st u }
def NS.promote (N : NS) (g : GS) : NS := (N.fin g).cut4
theorem NS.Inv.cut4 (hI : N.Inv c) : N.cut4.Inv c := ⟨hI.im, hI.tc, fun v hv => by
  unfold NS.cut4; dsimp only; rw [if_pos hv]; exact (hI.st v hv).cut, hI.wk⟩
theorem NS.Inv.promote (hI : N.Inv c) (hc : c ≤ 899) (gs : GS) : (N.promote gs).Inv c := (NS.Inv.steps hc gs 35 hI).cut4
theorem fin_mark (hI : N.Inv c) (gs : GS) : (N.fin gs).mark = 0 ∧ (N.fin gs).im.work = none := by
  rcases hI.wk with ⟨h1, h2⟩ | ⟨_, bl, k, h⟩
  · unfold NS.fin; rw [steps_idle gs 35 h2]; exact ⟨h1, h2⟩
  · obtain ⟨S', e⟩ := steps_full gs h (hI.im.ok.bw _ _ _ h).1 35 (by omega)
    unfold NS.fin
    rw [e]
    exact ⟨rfl, rfl⟩
/-! Image. -/
/-! Applied. -/
def NS.apl (N : NS) (v : Nat) : Int := (N.st v).first - 1
def apC (N : NS) (v : Nat) : List Value := [.int .i64 (if 0 < v then N.apl 0 else 0), .int .i64 (if 1 < v then N.apl 1 else 0), .int .i64 (if 2 < v then N.apl 2 else 0), .int .i64 (if 3 < v then N.apl 3 else 0)]
theorem apC_set (N : NS) (v : Nat) (hv : v < 4) : (apC N v).set (0 + Int.toNat (v : Int) * 1) (.int .i64 (N.apl v)) = apC N (v + 1) := by
  rcases (by omega : v = 0 ∨ v = 1 ∨ v = 2 ∨ v = 3) with rfl | rfl | rfl | rfl <;> rfl
def NS.apV (N : NS) : Value := .agg #[.int .i64 (N.apl 0), .int .i64 (N.apl 1), .int .i64 (N.apl 2), .int .i64 (N.apl 3)]
end
end Go.AM.Bd

/-
  THE GROUP, made of a list; the backup, made on a fresh disk.
-/
namespace Go.AM.Bd
open Go.Proofs

/-! A group of a list. -/
def OkG (l : List Int) : Prop := (∀ v ∈ l, 0 ≤ v ∧ v < 4) ∧ l.Nodup
def gOf (l : List Int) : GS := ⟨fun v => decide ((v : Int) ∈ l), []⟩
theorem wrong44 (L k : Nat) (σ : St) (at_ e : Int) (he : e ≠ 0) : ∃ v σ', evCall Tryd.prog env L (k + 2) 13 [.int .i64 at_, .int .i64 e] σ = some (v, σ') ∧ Same σ σ' [] := by
  rw [f13_eq, f26_eq, eqNil_iface, br_false]
  have hb : ∀ K : Res, eqErr (.iface 41 (.int .i64 e)) 41 .i64 0 (fun v2 => br v2 (some (Value.nilIface, σ)) K) = K := by
    intro K
    have : eqErr (.iface 41 (.int .i64 e)) 41 .i64 0 (fun v2 => br v2 (some (Value.nilIface, σ)) K) = br (e == 0) (some (Value.nilIface, σ)) K := by simp [eqErr]
    rw [this, show (e == 0) = false by simpa using he, br_false]
  rw [hb, need_true, need_of (show oneCell (Value.iface 41 (Value.int .i64 e)) = true from rfl), need_true, bnd_some]
  exact ⟨_, _, rfl, Same.new _ _ _⟩
theorem there43 (L k : Nat) (σ : St) (v : Int) : evCall Tryd.prog env L (k + 1) 12 [.int .i64 v] σ = some (.bool (decide (0 ≤ v ∧ v < 4)), σ) := by
  rw [f12_eq]
  by_cases h : v ≥ 0
  · rw [decide_eq_true h, br_true]
    by_cases h4 : v < 4
    · rw [decide_eq_true h4, decide_eq_true ⟨h, h4⟩]
    · rw [decide_eq_false h4, decide_eq_false (fun hx => h4 hx.2)]
  · rw [decide_eq_false h, br_false, decide_eq_false (fun hx => h hx.1)]
theorem gnew_loop (L k : Nat) {σ0 σ1 : St} {ad : Option Addr} {l : List Int} {z : Nat} (hl : l.length ≤ 1000) (hH : Holds σ0 1 c1 ad l) (h01 : σ0.next ≤ σ1.next) {g : Nat} (hg0 : σ1.next ≤ g) : ∀ (n i : Nat) (σ : St), i ≤ l.length → l.length - i < n → Same σ1 σ [] → Kept' σ0.next σ0 σ → σ.get g = some (.own (bv (gOf (l.take i)).f ++ [.slice none 0 0]) 48) → g < σ.next → OkG (l.take i) →
    (∃ e σ', ¬ OkG l ∧ lpAt Tryd.prog env L (k + 2) 5 [true, true, false, true] [] n [(4, ptr g), (9, .slice ad l.length z), (10, .int .i64 l.length), (11, .int .i64 i)] σ = some (.tuple #[.pointer none, e], σ') ∧ Same σ1 σ' []) ∨
    (∃ σ', OkG l ∧ lpAt Tryd.prog env L (k + 2) 5 [true, true, false, true] [] n [(4, ptr g), (9, .slice ad l.length z), (10, .int .i64 l.length), (11, .int .i64 i)] σ = some (.tuple #[ptr g, .nilIface], σ') ∧ σ'.get g = some (.own (bv (gOf l).f ++ [.slice none 0 0]) 48) ∧ Same σ1 σ' [] ∧ g < σ'.next)
  | 0, i, σ, _, hn, _, _, _, _, _ => by omega
  | n + 1, i, σ, hi, hn, hs, hk, hg, hgl, hok => by
    rw [f5_l3]
    by_cases hie : i = l.length
    · subst hie
      rw [List.take_length] at hg hok
      rw [decide_eq_false (by omega), br_false]
      exact .inr ⟨σ, hok, rfl, hg, hs, hgl⟩
    have hget : l[i]? = some l[i] := List.getElem?_eq_getElem (by omega)
    have htk : l.take (i + 1) = l.take i ++ [l[i]] := by rw [List.take_add_one, hget]; rfl
    have hdr : l = l.take i ++ l[i] :: l.drop (i + 1) := by rw [← List.drop_eq_getElem_cons (by omega), List.take_append_drop]
    obtain ⟨q, e, hat⟩ := hH.ld hk hget
    generalize l[i] = v at *
    have hw : IntKind.wrap .i64 ((i : Int) + 1) = ((i + 1 : Nat) : Int) := by rw [wrap_in _ (by omega) (by omega)]; omega
    subst e
    rw [decide_eq_true (by omega), br_true, need_of (by simp [inRange]; omega), adr_some, hat 0 (.int .i64 v) _ (by omega) rfl (by simp), asI_i, there43 L (k + 1), bnd_some, asB_b]
    by_cases hv : 0 ≤ v ∧ v < 4
    rotate_left
    · obtain ⟨e, σ2, g2, s2⟩ := wrong44 L k σ v 5 (by decide)
      rw [decide_eq_false hv, not_false, br_true, g2, bnd_some]
      refine .inl ⟨e, σ2, fun h => hv (h.1 v (by rw [hdr]; simp)), rfl, hs.trans s2⟩
    obtain ⟨u, hu⟩ : ∃ u : Nat, v = u := ⟨v.toNat, by omega⟩
    subst hu
    have hu4 : u < 4 := by omega
    rw [decide_eq_true hv, not_true, br_false, need_of (by simp [inRange]; omega), ld_at hg (0 + 0 + Int.toNat (u : Int) * 1) (.bool (decide ((u : Int) ∈ l.take i))) (by
      rcases (by omega : u = 0 ∨ u = 1 ∨ u = 2 ∨ u = 3) with rfl | rfl | rfl | rfl <;> rfl), asB_b]
    by_cases hm : (u : Int) ∈ l.take i
    · obtain ⟨e, σ2, g2, s2⟩ := wrong44 L k σ u 1 (by decide)
      rw [decide_eq_true hm, br_true, g2, bnd_some]
      refine .inl ⟨e, σ2, fun h => ?_, rfl, hs.trans s2⟩
      have hn := h.2
      rw [hdr, List.nodup_append] at hn
      exact hn.2.2 _ hm _ (by simp) rfl
    · rw [decide_eq_false hm, br_false, need_of (by simp [inRange]; omega), put_bool hg _ _ (by simp [bv]; omega), hw]
      have hset : (bv (gOf (l.take i)).f ++ [Value.slice none 0 0]).set (0 + 0 + Int.toNat (u : Int) * 1) (.bool true) = bv (gOf (l.take (i + 1))).f ++ [.slice none 0 0] := by
        rw [htk]
        unfold gOf bv
        dsimp only
        have hd : ∀ x : Nat, decide ((x : Int) ∈ l.take i ++ [(u : Int)]) = if x = u then true else decide ((x : Int) ∈ l.take i) := fun x => by
          by_cases hx : x = u
          · subst hx; simp
          · have : ¬ (x : Int) = (u : Int) := by omega
            simp [hx, this]
        rw [hd, hd, hd, hd]
        rcases (by omega : u = 0 ∨ u = 1 ∨ u = 2 ∨ u = 3) with rfl | rfl | rfl | rfl <;> rfl
      rw [hset]
      have s2 := Same.set σ g (.own (bv (gOf (l.take (i + 1))).f ++ [.slice none 0 0]) 48)
      have s12 : Same σ1 _ [] := hs.fresh s2 (fun x hx => .inr (by simp at hx; omega))
      refine gnew_loop L k hl hH h01 hg0 n (i + 1) _ (by omega) (by omega) s12 ?_ (get_set_same _ _ _) (by simpa using hgl) ?_
      · refine hk.step s2 (fun x hx => ?_)
        simp at hx
        subst hx
        have := hk.1
        have h1 := hs.1
        exact Nat.le_trans h01 hg0
      · rw [htk]
        refine ⟨fun x hx => ?_, ?_⟩
        · rcases List.mem_append.1 hx with hx | hx
          · exact hok.1 x hx
          · simp at hx; subst hx; exact hv
        · rw [List.nodup_append]
          exact ⟨hok.2, by simp, fun x hx y hy => by simp at hy; subst hy; rintro rfl; exact hm hx⟩
theorem gnew_spec (L k : Nat) (hL : 100000 < L) {σ0 σ : St} (hk : Kept' σ0.next σ0 σ) {ad : Option Addr} {l : List Int} (z : Nat) (hl : l.length ≤ 1000) (hH : Holds σ0 1 c1 ad l) :
    (∃ e σ', ¬ OkG l ∧ evCall Tryd.prog env L (k + 3) 5 [.slice ad l.length z] σ = some (.tuple #[.pointer none, e], σ') ∧ Same σ σ' []) ∨
    (∃ g σ', OkG l ∧ evCall Tryd.prog env L (k + 3) 5 [.slice ad l.length z] σ = some (.tuple #[ptr g, .nilIface], σ') ∧ Grp σ' g [g] (gOf l) ∧ Same σ σ' [] ∧ σ.next ≤ g) := by
  rw [f5_eq]
  have s1 : Same σ (σ.new (.own [.bool false, .bool false, .bool false, .bool false, .slice none 0 0] 48)) [] := Same.new _ _ _
  have g1 : (σ.new (.own [.bool false, .bool false, .bool false, .bool false, .slice none 0 0] 48)).get σ.next = some (.own [.bool false, .bool false, .bool false, .bool false, .slice none 0 0] 48) := get_new_same _ _
  have n1 : (σ.new (.own [.bool false, .bool false, .bool false, .bool false, .slice none 0 0] 48)).next = σ.next + 1 := rfl
  generalize σ.new (.own [.bool false, .bool false, .bool false, .bool false, .slice none 0 0] 48) = σ1 at s1 g1 n1
  rcases gnew_loop (z := z) L k hl hH hk.1 (g := σ.next) (Nat.le_refl _) L 0 σ1 (by omega) (by omega) s1 (hk.step s1 (by simp)) (by rw [List.take_zero]; exact g1) (by omega) ⟨by simp, by simp⟩ with ⟨e, σ2, hno, e2, s2⟩ | ⟨σ2, hok, e2, g2, s2, l2⟩
  · exact .inl ⟨e, σ2, hno, e2, s2⟩
  · exact .inr ⟨σ.next, σ2, hok, e2, ⟨⟨none, 0, [], rfl, by simp, g2, Row.nil _ _ _ _⟩, by simpa using l2, by simp [gOf], by simp [gOf]⟩, s2, Nat.le_refl _⟩
theorem gOf_at {l : List Int} (h : OkG l) (m : Int) (v : Nat) : v ∈ (gOf l).at_ m ↔ (v : Int) ∈ l := by
  unfold GS.at_ GS.has gOf beh
  simp only [List.take_nil, List.foldl_nil, List.mem_filter, List.mem_range, decide_eq_true_eq]
  exact ⟨fun h => h.2, fun hx => ⟨by have := h.1 _ hx; omega, hx⟩⟩

/-! A backup on a fresh disk. -/
theorem nnew_spec (L k : Nat) (hL : 100000 < L) {σ0 σ : St} {d g : Nat} {F : List Nat} {R : List (List Nat)} (hD : D.Disk σ d F fresh66 []) (hO : Owns σ0 σ (F :: R)) :
    ∃ nd m a F' σ', evCall Tryd.prog env L (k + 11) 6 [ptr d, ptr g] σ = some (.tuple #[ptr nd, .nilIface], σ') ∧ NdX σ0 σ' nd g m d a F' newN R ∧ Kp σ σ' R := by
  obtain ⟨nd, m, a0, a1, a2, a3, σ', e, hI, hn, h0, h1, h2, h3, hk⟩ := bnew_spec L k hL (g := g) hD hO
  refine ⟨nd, m, fun v => if v = 0 then a0 else if v = 1 then a1 else if v = 2 then a2 else a3, fun v => [if v = 0 then a0 else if v = 1 then a1 else if v = 2 then a2 else a3], σ', e, ⟨?_, hn, ?_⟩, hk⟩
  · refine hI.perm (fun i => if i < 4 then 3 - i else i) (fun i j e => ?_) (fun i H hH => ?_)
    · by_cases h1 : i < 4 <;> by_cases h2 : j < 4 <;> simp [h1, h2] at e <;> omega
    · match i, hH with
      | 0, hH => exact hH
      | 1, hH => exact hH
      | 2, hH => exact hH
      | 3, hH => exact hH
      | i + 4, hH => exact hH
  · exact four h0 h1 h2 h3
end Go.AM.Bd

/-
  A GROUP of a list, and its backup on a fresh disk: how the laws begin.
-/
namespace Go.AM.Bd
open Go.Proofs

theorem begun (L k : Nat) (hL : 100000 < L) {σ0 σ : St} (hs : Same σ0 σ []) {ad : Option Addr} {l : List Int} (z : Nat) (hl : l.length ≤ 1000) (hH : Holds σ0 1 c1 ad l) :
    (∃ e σ', ¬ OkG l ∧ evCall Tryd.prog env L (k + 12) 5 [.slice ad l.length z] σ = some (.tuple #[.pointer none, e], σ') ∧ Same σ σ' []) ∨
    (∃ g σ1 d σ2 nd m a F σ3, OkG l ∧ evCall Tryd.prog env L (k + 12) 5 [.slice ad l.length z] σ = some (.tuple #[ptr g, .nilIface], σ1) ∧ evCall Tryd.prog env L (k + 12) 7 [.int .i64 66] σ1 = some (ptr d, σ2) ∧
      evCall Tryd.prog env L (k + 12) 6 [ptr d, ptr g] σ2 = some (.tuple #[ptr nd, .nilIface], σ3) ∧ NdX σ0 σ3 nd g m d a F newN [[g]] ∧ Grp σ3 g [g] (gOf l)) := by
  have hk : Kept' σ0.next σ0 σ := ⟨hs.1, fun k hk => hs.2 k hk (by simp)⟩
  rcases gnew_spec L (k + 9) hL hk z hl hH with ⟨e, σ1, hno, e1, s1⟩ | ⟨g, σ1, hok, e1, hG, s1, hg⟩
  · exact .inl ⟨e, σ1, hno, e1, s1⟩
  have hO1 : Owns σ0 σ1 [[g]] := ((Owns.start σ0).idle hs).more s1 (fun q hq => by have := hG.lt q hq; simp at hq; subst hq; omega)
  obtain ⟨d, F, σ2, e2, hD2, hO2, s2⟩ := new66 L (k + 11) hO1
  obtain ⟨nd, m, a, F', σ3, e3, h3, k3⟩ := nnew_spec L (k + 1) hL (g := g) hD2 hO2
  exact .inr ⟨g, σ1, d, σ2, nd, m, a, F', σ3, hok, e1, e2, e3, h3, (hG.idle s2).moved (fun q hq => k3 [g] (by simp) q hq) (h3.lt (by simp))⟩
end Go.AM.Bd

/-
  BackupWaits.
-/
namespace Go.AM.Bd
open Go.Proofs

section
variable {σ0 : St} {nd g d : Nat} {gs : GS}
def mrec (s m : Int) : S.Rec := ⟨s, 2, 0, ⟨#[]⟩, m⟩
def xrec (i : Nat) : S.Rec := ⟨(i : Int) + 1, 1, 0, ⟨#[120]⟩, 0⟩
theorem wa_others (L k : Nat) {s2 s3 : Int} {kk : Nat} {p : Nat} {mk : Int} (hm1 : 1 ≤ mk) (hm2 : mk ≤ 65536) : ∀ (n v : Nat) (σ : St) (m : Nat) (a : Nat → Nat) (F : Nat → List Nat) (N : NS), v ≤ 4 → 4 - v < n → NdX σ0 σ nd g m d a F N ([p] :: [[g]]) → N.Inv v → Grp σ g [g] gs → σ.get p = some (.own (S.c5 (mrec 1 mk)) 36) → N.mark = 0 → N.im.km = 0 →
    (∀ u, u < 4 → N.st u = if u < v ∧ u ≠ kk then ⟨1, 0, [mrec 1 mk]⟩ else ⟨1, 0, []⟩) →
    ∃ n' σ' F' N', lpAt Tryd.prog env L (k + 4) 3 [true, true, true, true, true, true, true, true, false, true] [] n [(2, .int .u16 s2), (3, .int .u8 s3), (11, ptr nd), (13, .int .i64 kk), (14, ptr p), (61, .int .i64 v)] σ =
      lpAt Tryd.prog env L (k + 4) 3 [true, true, true, true, true, true, true, true, false, true] [] (n' + 1) [(2, .int .u16 s2), (3, .int .u8 s3), (11, ptr nd), (13, .int .i64 kk), (14, ptr p), (61, .int .i64 ((4 : Nat) : Int))] σ' ∧
      NdX σ0 σ' nd g m d a F' N' ([p] :: [[g]]) ∧ N'.Inv 4 ∧ Grp σ' g [g] gs ∧ σ'.get p = some (.own (S.c5 (mrec 1 mk)) 36) ∧ N'.mark = 0 ∧ N'.im.km = 0 ∧ (∀ u, u < 4 → N'.st u = if u ≠ kk then ⟨1, 0, [mrec 1 mk]⟩ else ⟨1, 0, []⟩)
  | 0, v, σ, m, a, F, N, _, hn, _, _, _, _, _, _, _ => by omega
  | n + 1, v, σ, m, a, F, N, hv, hn, h, hI, hG, hp, hm0, hkm, hst => by
    by_cases hv4 : v = 4
    · subst hv4
      refine ⟨n, σ, F, N, rfl, h, hI, hG, hp, hm0, hkm, fun u hu => ?_⟩
      rw [hst u hu]
      by_cases e : u ≠ kk
      · rw [if_pos ⟨hu, e⟩, if_pos e]
      · rw [if_neg (fun h => e h.2), if_neg e]
    rw [f3_l12]
    have hw : IntKind.wrap .i64 ((v : Int) + 1) = ((v + 1 : Nat) : Int) := by rw [wrap_in _ (by omega) (by omega)]; omega
    rw [decide_eq_true (by omega), br_true, hw]
    by_cases e : v = kk
    · rw [show (((v : Nat) : Int) != ((kk : Nat) : Int)) = false by subst e; simp, br_false]
      refine wa_others L k hm1 hm2 n (v + 1) σ m a F N (by omega) (by omega) h (hI.mono (by omega)) hG hp hm0 hkm (fun u hu => ?_)
      rw [hst u hu]
      by_cases h1 : u < v ∧ u ≠ kk
      · rw [if_pos h1, if_pos ⟨by omega, h1.2⟩]
      · rw [if_neg h1, if_neg (by rintro ⟨h2, h3⟩; exact h1 ⟨by omega, h3⟩)]
    · obtain ⟨F', σ2, g2, h2, k2⟩ := ntake_spec L k h hI (by omega) v (by omega) (mrec 1 mk)
      rw [show (((v : Nat) : Int) != ((kk : Nat) : Int)) = true by simpa using (by omega : ¬ (v : Int) = (kk : Int)), br_true, asP_p, adr_some, lds_all (n := 5) hp rfl]
      unfold S.c5
      have g2' : evCall Tryd.prog env L (k + 4) 8 [ptr nd, .int .i64 v, .agg #[.int .i64 (mrec 1 mk).seq, .int .i64 (mrec 1 mk).kind, .int .i64 (mrec 1 mk).block, .string (mrec 1 mk).data, .int .i64 (mrec 1 mk).number]] σ = _ := g2
      rw [uncons_c, asI_i, uncons_c, asI_i, uncons_c, asI_i, uncons_c, asS_s, uncons_c, asI_i, endl_n, g2', bnd_some, asT_t, toList2, uncons_c, asI_i, uncons_c, endl_n]
      have hN : N.st v = ⟨1, 0, []⟩ := by rw [hst v (by omega), if_neg (by omega)]
      refine wa_others L k hm1 hm2 n (v + 1) σ2 m a F' _ (by omega) (by omega) h2 (hI.take v _) (hG.moved (fun q hq => k2 [g] (by simp) q hq) (h2.lt (by simp))) ((k2 [p] (by simp) p (by simp)).trans hp) hm0 hkm (fun u hu => ?_)
      unfold NS.take
      dsimp only
      by_cases eu : u = v
      · subst eu
        rw [upd_same, if_pos ⟨by omega, e⟩, hN]
        unfold SS.take
        rw [if_pos ⟨rfl, ⟨by show (1 : Int) ≤ 1; decide, by show (1 : Int) ≤ 1152921504606846975; decide⟩, .inr ⟨rfl, rfl, rfl, hm1, by show mk ≤ _; omega⟩⟩]
        rfl
      · rw [upd_ne _ _ eu, hst u hu]
        by_cases h1 : u < v ∧ u ≠ kk
        · rw [if_pos h1, if_pos ⟨by omega, h1.2⟩]
        · rw [if_neg h1, if_neg (by rintro ⟨h2, h3⟩; exact h1 ⟨by omega, h3⟩)]

theorem wa_last (L k : Nat) (hL : 100000 < L) {s2 s3 : Int} {kk : Nat} (hk4 : kk < 4) {p qf M : Nat} (hM : M ≤ 9) {mk : Int} (hm1 : 1 ≤ mk) (hm2 : mk ≤ 65536) (hms : mk = IntKind.wrap .i64 (1 + IntKind.wrap .i64 s2)) (hMs : Int.tmod (IntKind.wrap .i64 s3) 10 = M) (hgk : ∀ m, kk ∈ gs.at_ m) : ∀ (n i : Nat) (σ : St) (m : Nat) (a : Nat → Nat) (F : Nat → List Nat) (N : NS), i ≤ M → M - i < n → NdX σ0 σ nd g m d a F N ([qf] :: [p] :: [[g]]) → N.Inv (4 + i) → Grp σ g [g] gs → σ.get p = some (.own (S.c5 (mrec 1 mk)) 36) → E.Err σ (.iface 113 (ptr qf)) 8 0 → N.im.km = 0 →
    (∀ u, u < 4 → N.st u = if u ≠ kk then ⟨1, 0, [mrec 1 mk]⟩ else ⟨1, 0, (List.range i).map xrec⟩) →
    ∃ σ', lpAt Tryd.prog env L (k + 6) 3 [true, true, true, true, true, true, true, true, true, true, true, false, true] [] n [(2, .int .u16 s2), (3, .int .u8 s3), (11, ptr nd), (13, .int .i64 kk), (14, ptr p), (17, .iface 113 (ptr qf)), (82, .int .i64 (M : Nat)), (83, .int .i64 i)] σ = some (.bool true, σ')
  | 0, i, σ, m, a, F, N, _, hn, _, _, _, _, _, _, _ => by omega
  | n + 1, i, σ, m, a, F, N, hi, hn, h, hI, hG, hp, hf, hkm, hst => by
    rw [f3_l21]
    have hNk : N.st kk = ⟨1, 0, (List.range i).map xrec⟩ := by rw [hst kk hk4, if_neg (by simp)]
    have hlen : ((List.range i).map xrec).length = i := by simp
    by_cases hie : i = M
    · subst hie
      have hw1 : IntKind.wrap .i64 (1 + (i : Int)) = ((i + 1 : Nat) : Int) := by rw [wrap_in _ (by omega) (by omega)]; omega
      rw [decide_eq_false (by omega), br_false, asP_p, adr_some, hMs, hw1]
      have hplt := h.lt (H := [p]) (by simp) p (by simp)
      have hput := fun (K : St → Res) => put_int hp (0 + 0) .i64 ((i + 1 : Nat) : Int) (by simp [S.c5]) K
      have s1 := Same.set σ p (.own ((S.c5 (mrec 1 mk)).set (0 + 0) (.int .i64 ((i + 1 : Nat) : Int))) 36)
      have g1 : (σ.set p (.own ((S.c5 (mrec 1 mk)).set (0 + 0) (.int .i64 ((i + 1 : Nat) : Int))) 36)).get p = some (.own (S.c5 (mrec ((i + 1 : Nat) : Int) mk)) 36) := get_set_same _ _ _
      have n1 : (σ.set p (.own ((S.c5 (mrec 1 mk)).set (0 + 0) (.int .i64 ((i + 1 : Nat) : Int))) 36)).next = σ.next := rfl
      generalize σ.set p (.own ((S.c5 (mrec 1 mk)).set (0 + 0) (.int .i64 ((i + 1 : Nat) : Int))) 36) = σ1 at hput s1 g1 n1
      have hT : Turn σ σ1 [p] [p] := ⟨s1, fun q hq => ⟨.inl hq, by simp at hq; omega⟩⟩
      have h1 := h.turned 1 rfl hT
      have h1' : NdX σ0 σ1 nd g m d a F N ([qf] :: [p] :: [[g]]) := h1
      have hG1 := hG.same s1 (h.im.dis 7 6 (by omega) rfl rfl)
      have hqf : qf ∉ [p] := h.im.dis 5 6 (by omega) rfl rfl qf (by simp)
      have hf1 : E.Err σ1 (.iface 113 (ptr qf)) 8 0 := hf.moved (s1.2 qf (h.lt (H := [qf]) (by simp) qf (by simp)) hqf) (h1'.lt (H := [qf]) (by simp) qf (by simp))
      obtain ⟨F2, σ2, g2, h2, k2⟩ := ntake_spec L (k + 2) h1' hI (by omega) kk hk4 (mrec ((i + 1 : Nat) : Int) mk)
      have htk : (N.take kk (mrec ((i + 1 : Nat) : Int) mk)).st kk = ⟨1, 0, (List.range i).map xrec ++ [mrec ((i + 1 : Nat) : Int) mk]⟩ := by
        unfold NS.take; dsimp only; rw [upd_same, hNk]
        unfold SS.take
        rw [if_pos ⟨by rw [hlen]; show ((i + 1 : Nat) : Int) = 1 + (i : Int); omega, ⟨by show (1 : Int) ≤ ((i + 1 : Nat) : Int); omega, by show ((i + 1 : Nat) : Int) ≤ 1152921504606846975; omega⟩, .inr ⟨rfl, rfl, rfl, hm1, by show mk ≤ _; omega⟩⟩]
      have hlast : ((N.take kk (mrec ((i + 1 : Nat) : Int) mk)).st kk).last = ((i + 1 : Nat) : Int) := by
        rw [htk]; unfold SS.last; dsimp only; rw [List.length_append, hlen]; simp; omega
      rw [hlast] at g2
      have hI2 : (N.take kk (mrec ((i + 1 : Nat) : Int) mk)).Inv (4 + i + 1) := hI.take _ _
      have hothers : ∀ u, u < 4 → u ≠ kk → (N.take kk (mrec ((i + 1 : Nat) : Int) mk)).st u = ⟨1, 0, [mrec 1 mk]⟩ := fun u hu hne => by
        unfold NS.take; dsimp only; rw [upd_ne _ _ hne, hst u hu, if_pos hne]
      have hkm2 : (N.take kk (mrec ((i + 1 : Nat) : Int) mk)).im.km = 0 := hkm
      generalize N.take kk (mrec ((i + 1 : Nat) : Int) mk) = N2 at *
      have hp2 := (k2 [p] (by simp) p (by simp)).trans g1
      have hf2 := hf1.moved (k2 [qf] (by simp) qf (by simp)) (h2.lt (H := [qf]) (by simp) qf (by simp))
      have hG2 : Grp σ2 g [g] gs := hG1.moved (fun q hq => k2 [g] (by simp) q hq) (h2.lt (by simp))
      obtain ⟨σ3, g3, s3⟩ := E.code_spec L (k + 4) hf2
      have hp3 := (s3.2 p (h2.lt (H := [p]) (by simp) p (by simp)) (by simp)).trans hp2
      obtain ⟨σ4, g4, _⟩ := nready_spec L (k + 1) hL (h2.idle s3) hI2 (by omega) (hG2.idle s3)
      -- what is ready
      have hmk : S.marksOf ((List.range i).map xrec ++ [mrec ((i + 1 : Nat) : Int) mk]) = [mk] := by
        rw [S.marksOf_snoc, if_pos (show (mrec ((i + 1 : Nat) : Int) mk).kind = 2 from rfl)]
        have : S.marksOf ((List.range i).map xrec) = [] := by
          unfold S.marksOf; rw [List.filterMap_eq_nil_iff]; intro r hr
          obtain ⟨j, _, rfl⟩ := List.mem_map.1 hr
          rfl
        rw [this]; rfl
      have hcan : N2.can gs mk = true := can_of (fun v hv => by
        have hv4 := at_lt hv
        refine Option.isSome_iff_exists.1 (upTo_marks.2 ?_)
        by_cases e : v = kk
        · subst e; rw [htk]; dsimp only; rw [hmk]; simp
        · rw [hothers v hv4 e]; show mk ∈ [mk]; simp) (by rw [hkm2]; show ((0 : Nat) : Int) < mk; omega) (List.ne_nil_of_mem (hgk mk))
      have hrd : N2.ready gs = mk := ready_eq hcan (fun m' hm' => by
        obtain ⟨h1, _, _⟩ := can_inv hm'
        have := upTo_marks.1 (Option.isSome_iff_exists.2 (h1 kk (hgk m')))
        rw [htk] at this
        dsimp only at this
        rw [hmk] at this
        simp at this
        omega)
      rw [hrd] at g4
      rw [hput, asP_p, adr_some, lds_all (n := 5) g1 rfl]
      unfold S.c5 at hp3 ⊢
      have g2' : evCall Tryd.prog env L (k + 6) 8 [ptr nd, .int .i64 kk, .agg #[.int .i64 (mrec ((i + 1 : Nat) : Int) mk).seq, .int .i64 (mrec ((i + 1 : Nat) : Int) mk).kind, .int .i64 (mrec ((i + 1 : Nat) : Int) mk).block, .string (mrec ((i + 1 : Nat) : Int) mk).data, .int .i64 (mrec ((i + 1 : Nat) : Int) mk).number]] σ1 = _ := g2
      rw [uncons_c, asI_i, uncons_c, asI_i, uncons_c, asI_i, uncons_c, asS_s, uncons_c, asI_i, endl_n, g2', bnd_some, asT_t, toList2, uncons_c, asI_i, uncons_c, endl_n, g3, bnd_some, asI_i, show ((8 : Int) == 8) = true from rfl, br_true, asP_p, adr_some, ld_at hp3 (0 + 0) _ rfl, asI_i, show (((i + 1 : Nat) : Int) == (mrec ((i + 1 : Nat) : Int) mk).seq) = true by simp [mrec], br_true, g4, bnd_some, asI_i, ← hms, show (mk == mk) = true by simp]
      exact ⟨σ4, rfl⟩
    have hw : IntKind.wrap .i64 ((i : Int) + 1) = ((i + 1 : Nat) : Int) := by rw [wrap_in _ (by omega) (by omega)]; omega
    obtain ⟨F2, σ2, g2, h2, k2⟩ := ntake_spec L (k + 2) h hI (by omega) kk hk4 (xrec i)
    have g2' : evCall Tryd.prog env L (k + 6) 8 [ptr nd, .int .i64 kk, .agg #[.int .i64 ((i + 1 : Nat) : Int), .int .i64 1, .int .i64 0, .string ⟨#[120]⟩, .int .i64 0]] σ = _ := g2
    rw [decide_eq_true (by omega), br_true, need_true, need_true, hw, g2', bnd_some, asT_t, toList2, uncons_c, asI_i, uncons_c, endl_n]
    refine wa_last L k hL hk4 hM hm1 hm2 hms hMs hgk n (i + 1) σ2 m a F2 _ (by omega) (by omega) h2 (hI.take kk _) (hG.moved (fun q hq => k2 [g] (by simp) q hq) (h2.lt (by simp))) ((k2 [p] (by simp) p (by simp)).trans hp) (hf.moved (k2 [qf] (by simp) qf (by simp)) (h2.lt (H := [qf]) (by simp) qf (by simp))) hkm (fun u hu => ?_)
    unfold NS.take
    dsimp only
    by_cases eu : u = kk
    · subst eu
      rw [upd_same, if_neg (by simp), hNk, List.range_succ, List.map_append]
      unfold SS.take
      rw [if_pos ⟨by rw [hlen]; show (i : Int) + 1 = 1 + (i : Int); omega, ⟨by show (1 : Int) ≤ (i : Int) + 1; omega, by show (i : Int) + 1 ≤ 1152921504606846975; omega⟩, .inl ⟨rfl, by show (0 : Int) ≤ 0; decide, by show (0 : Int) ≤ 7; decide, by show (1 : Nat) ≤ 16; decide, rfl⟩⟩]
      rfl
    · rw [upd_ne _ _ eu, hst u hu, if_pos eu, if_pos eu]
end

theorem waits_holds (L k : Nat) (hL : 100000 < L) {σ0 : St} {ad0 : Option Addr} {l0 : List Int} (h0 : Holds σ0 1 c1 ad0 l0) (x1 x2 x3 : Int) (w1 : 0 ≤ x1 ∧ x1 ≤ 255) (w2 : 0 ≤ x2 ∧ x2 ≤ 65535) (w3 : 0 ≤ x3 ∧ x3 ≤ 255) :
    ∃ σ', evCall Tryd.prog env L (k + 14) 3 [.slice ad0 l0.length 0, .int .u8 x1, .int .u16 x2, .int .u8 x3] σ0 = some (.bool true, σ') := by
  rw [f3_eq]
  obtain ⟨σ1, g1, s1⟩ := awake_spec L (k + 1) hL σ0
  obtain ⟨σ9, g9, _⟩ := awake_spec L (k + 1) hL σ1
  rw [g1, bnd_some, asB_b, not_true, br_false]
  by_cases h4 : ((l0.length : Nat) : Int) > 4
  · rw [decide_eq_true h4, br_true, g9, bnd_some, asB_b]; exact ⟨σ9, rfl⟩
  rw [decide_eq_false h4, br_false]
  by_cases hz : l0.length = 0
  · rw [show (((l0.length : Nat) : Int) == 0) = true by simpa using hz, br_true, g9, bnd_some, asB_b]; exact ⟨σ9, rfl⟩
  rw [show (((l0.length : Nat) : Int) == 0) = false by simpa using hz, br_false]
  rcases begun L (k + 1) hL s1 0 (by omega) h0 with ⟨e, σ2, _, e2, _⟩ | ⟨g, σ2, d, σ3, nd, m, a, F, σ4, hok, e2, e3, e4, hX, hG⟩
  · rw [e2, bnd_some, asT_t, toList2, uncons_c, asP_p, uncons_c, endl_n]
    exact ⟨σ2, rfl⟩
  have hw1 : IntKind.wrap .i64 x1 = x1 := wrap_in _ (by omega) (by omega)
  have hw2 : IntKind.wrap .i64 x2 = x2 := wrap_in _ (by omega) (by omega)
  have hw3 : IntKind.wrap .i64 x3 = x3 := wrap_in _ (by omega) (by omega)
  have hw4 : IntKind.wrap .i64 (1 + x2) = 1 + x2 := wrap_in _ (by omega) (by omega)
  obtain ⟨j, hj, hjl⟩ : ∃ j : Nat, Int.tmod x1 (l0.length : Int) = j ∧ j < l0.length := by
    have e : Int.tmod x1 (l0.length : Int) = x1 % (l0.length : Int) := Int.tmod_eq_emod_of_nonneg w1.1
    have h1 := Int.emod_nonneg x1 (show (l0.length : Int) ≠ 0 by omega)
    have h2 := Int.emod_lt_of_pos x1 (show (0 : Int) < (l0.length : Int) by omega)
    exact ⟨(x1 % (l0.length : Int)).toNat, by omega, by omega⟩
  have hget : l0[j]? = some l0[j] := List.getElem?_eq_getElem hjl
  have hvj := hok.1 l0[j] (List.getElem_mem _)
  have hmem : l0[j] ∈ l0 := List.getElem_mem _
  obtain ⟨q, e, hat⟩ := h0.ld hX.im.kept hget
  generalize l0[j] = x at *
  obtain ⟨kk, rfl⟩ : ∃ kk : Nat, x = kk := ⟨x.toNat, by omega⟩
  subst e
  rw [e2, bnd_some, asT_t, toList2, uncons_c, asP_p, uncons_c, endl_n, show (Option.isNone (some (⟨g, 0, none⟩ : Addr))) = false from rfl, br_false, e3, bnd_some, asP_p, e4, bnd_some, asT_t, toList2, uncons_c, asP_p, uncons_c, endl_n, eqNil_nil, not_true, br_false, need_of (by simpa using hz), hw1, hj, need_of (by simp [inRange]; omega), adr_some, hat 0 (.int .i64 kk) _ (by omega) rfl (by simp), asI_i, need_true]
  obtain ⟨σ5, hput, g5, s5, n5⟩ := tmp_put σ4 [.int .i64 0, .int .i64 0, .int .i64 0, .string ⟨#[]⟩, .int .i64 0] (S.c5 (mrec 1 (1 + x2))) 36 rfl rfl
  have hput' : ∀ K : St → Res, (σ4.new (.own [.int .i64 0, .int .i64 0, .int .i64 0, .string ⟨#[]⟩, .int .i64 0] 36)).put σ4.next 0 [.int .i64 1, .int .i64 2, .int .i64 0, .string ⟨#[]⟩, .int .i64 (1 + x2)] K = K σ5 := hput
  rw [hw2, hw4, hput']
  have h5 := hX.push s5 (X := [σ4.next]) (by simp; omega)
  generalize σ4.next = p at *
  have hgk : ∀ m, kk ∈ (gOf l0).at_ m := fun m => (gOf_at hok m kk).2 hmem
  have hkk4 : kk < 4 := by omega
  obtain ⟨n', σ6, F6, N6, e6, h6, hI6, hG6, hp6, hm6, hkm6, hst6⟩ := wa_others L (k + 9) (s2 := x2) (s3 := x3) (kk := kk) (p := p) (mk := 1 + x2) (by omega) (by omega) L 0 σ5 m a F newN (by omega) (by omega) h5 newN_inv (hG.idle s5) g5 rfl rfl (fun u _ => by rw [if_neg (by omega)]; rfl)
  have e6' : lpAt Tryd.prog env L (k + 13) 3 [true, true, true, true, true, true, true, true, false, true] [] L [(2, .int .u16 x2), (3, .int .u8 x3), (11, ptr nd), (13, .int .i64 kk), (14, ptr p), (61, .int .i64 0)] σ5 = _ := e6
  have hcn : ∀ m', N6.can (gOf l0) m' = false := fun m' => by
    cases hc : N6.can (gOf l0) m' with
    | false => rfl
    | true =>
      obtain ⟨j, hj⟩ := (can_inv hc).1 kk (hgk m')
      rw [hst6 kk hkk4, if_neg (by simp)] at hj
      cases hj
  have hr6 := ready_zero hcn
  obtain ⟨σ7, g7, s7⟩ := nready_spec L (k + 8) hL h6 hI6 (by omega) hG6
  rw [hr6] at g7
  have h7 := h6.idle s7
  obtain ⟨v8, σ8, g8, k8, hor⟩ := nbegin_spec L (k + 7) hL h7 hI6 (by omega) (hG6.idle s7)
  rw [f3_l12, decide_eq_false (by decide), br_false, g7, bnd_some, asI_i, show ((0 : Int) != 0) = false from rfl, br_false, g8, bnd_some] at e6'
  rcases hor with ⟨hx, _⟩ | ⟨_, _, ⟨e8, rfl, hfr⟩, s8⟩ | ⟨_, hx, _⟩
  · exact absurd hm6 hx
  rotate_left
  · exact absurd hr6 hx
  obtain ⟨qf, rfl, hf, hq1, hq2⟩ := hfr
  have h8 := h7.push s8 (X := [qf]) (by simp; omega)
  obtain ⟨M, hM, hM9⟩ : ∃ M : Nat, Int.tmod x3 10 = M ∧ M ≤ 9 := by
    have e : Int.tmod x3 10 = x3 % 10 := Int.tmod_eq_emod_of_nonneg w3.1
    exact ⟨(x3 % 10).toNat, by omega, by omega⟩
  rw [asT_t, toList2, uncons_c, asI_i, uncons_c, endl_n, hw3, hM] at e6'
  have hplt := h6.lt (H := [p]) (by simp) p (by simp)
  obtain ⟨σA, eA⟩ := wa_last L (k + 7) hL (s2 := x2) (s3 := x3) hkk4 (p := p) (qf := qf) (M := M) hM9 (mk := 1 + x2) (by omega) (by omega) (by rw [hw2, hw4]) (by rw [hw3]; exact hM) hgk L 0 σ8 m a F6 N6 (by omega) (by omega) h8 hI6 ((hG6.idle s7).idle s8) (((s7.trans s8).2 p hplt (by simp)).trans hp6) hf hkm6 (fun u hu => hst6 u hu)
  exact ⟨σA, e6'.trans eA⟩
end Go.AM.Bd
