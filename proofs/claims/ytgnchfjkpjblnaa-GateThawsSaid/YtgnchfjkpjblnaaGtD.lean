/-
  GateThaws, in plain words: a gate that is frozen thaws within its ticks.
-/
import Derived.Test.YtgnchfjkpjblnaaGtC
set_option linter.unusedVariables false
set_option linter.unusedSimpArgs false
namespace Go.AM.Gt
open Go.Proofs

theorem thaw_loop (L k : Nat) {σ0 : St} {ad1 : Option Addr} {calls : List Cal} (hlen : calls.length ≤ 40) (hH : Holds σ0 3 c3 ad1 calls) {a : Nat} {s1 r : Int} (hr : IntKind.wrap .i64 ((1 : Int) + IntKind.wrap .i64 s1) = r) (hr1 : 1 ≤ r) {N : Nat} (hN : N ≤ 300) : ∀ (n i : Nat) (σ : St) (F : List Nat) (g : GS),
    i ≤ N → N - i < n → Gate σ a F g → g.Ok → Owns σ0 σ [F] → (i < N → g.round = r ∧ g.left = ((N - i : Nat) : Int)) → (i = N → g.round = 0) →
    ∃ σ9, lpAt Try.prog env L (k + 4) 3 [true, true, true, true, true, true, true, false, true] [] n [(1, .int .u16 s1), (3, .slice ad1 calls.length 0), (9, .pointer (some ⟨a, 0, none⟩)), (90, .int .i64 N), (91, .int .i64 i)] σ = some (.bool true, σ9)
  | 0, i, σ, F, g, _, h, _, _, _, _, _ => by omega
  | n + 1, i, σ, F, g, hi, h, hG, hok, hO, hlt, heq => by
    rw [f3_l19]
    by_cases hie : i = N
    · rw [decide_eq_false (by omega), br_false, frozen_spec hG, bnd_some, asI_i, heq hie, show ((0 : Int) == 0) = true from rfl, br_true, waiting_spec hG, bnd_some, asI_i, hok.idle (heq hie)]
      exact ⟨σ, rfl⟩
    · obtain ⟨hgr, hgl⟩ := hlt (by omega)
      have h0 : g.round ≠ 0 := by omega
      have hw : IntKind.wrap .i64 ((i : Int) + 1) = ((i + 1 : Nat) : Int) := by rw [wrap_in _ (by omega) (by omega)]; omega
      rw [decide_eq_true (by omega), br_true, frozen_spec hG, bnd_some, asI_i, hr, hgr, show (r != r) = false by simp, br_false]
      have go : ∀ (σ' : St) (F' : List Nat) (w : List Cal), Gate σ' a F' ⟨g.round, g.left, g.latest, w⟩ → w.length ≤ 4 → Owns σ0 σ' [F'] →
          ∃ σ9, (bnd (evCall Try.prog env L (k + 4) 10 [Value.pointer (some { block := a, off := 0 })] σ') fun v38 v39 => asSl v38 fun v40 v41 v42 => lpAt Try.prog env L (k + 4) 3 [true, true, true, true, true, true, true, false, true] [] n [(1, Value.int .u16 s1), (3, Value.slice ad1 calls.length 0), (9, Value.pointer (some { block := a, off := 0 })), (90, Value.int .i64 N), (91, Value.int .i64 (IntKind.wrap .i64 ((i : Int) + 1)))] v39) = some (.bool true, σ9) := by
        intro σ' F' w hG' hw4 hO'
        have hok' : GS.Ok ⟨g.round, g.left, g.latest, w⟩ := ⟨fun h => absurd h h0, hw4, hok.left, hok.left1, hok.round, hok.late, hok.latest⟩
        obtain ⟨ad, z, qo, σ1, F1, g1, hG1, hR1, hT1⟩ := tick_spec hG' L (k + 2) hok'
        rw [g1, bnd_some, asSl_s, hw]
        refine thaw_loop L k hlen hH hr hr1 hN n (i + 1) σ1 F1 _ (by omega) (by omega) hG1 hok'.tick (hO'.turned 0 rfl hT1) (fun hi1 => ?_) (fun hi1 => ?_)
        · unfold GS.tick
          rw [if_neg (by simpa using h0), if_pos (by simp only; omega)]
          exact ⟨hgr, by simp only; omega⟩
        · unfold GS.tick
          rw [if_neg (by simpa using h0), if_neg (by simp only; omega)]
          rfl
      by_cases hc : i < calls.length
      · have hget : calls[i]? = some calls[i] := List.getElem?_eq_getElem hc
        obtain ⟨q0, e0, hat⟩ := hH.lds hO.kept c3_len hget
        obtain ⟨q0', e0', hat1⟩ := hH.ld hO.kept hget
        have : q0' = q0 := by rw [e0] at e0'; cases e0'; rfl
        subst this
        generalize calls[i] = c at hat hat1
        rw [decide_eq_true (by omega), br_true, need_of (by simp [inRange]; omega), e0, adr_some, hat1 2 (.string c.data) _ (by omega) rfl (by omega), asS_s]
        rw [e0] at go
        by_cases hd : (c.data.size : Int) < 200
        · rw [decide_eq_true hd, br_true, need_of (by simp [inRange]; omega), adr_some, hat 0 3 _ (by omega) (by omega), show ((c3 c).drop 0).take 3 = [.int .i64 c.id, .int .i64 c.block, .string c.data] from rfl, uncons_c, asI_i, uncons_c, asI_i, uncons_c, asS_s, endl_n, show Value.agg #[Value.int .i64 c.id, .int .i64 c.block, .string c.data] = c.agg from rfl]
          rcases enter_spec hG L (k + 1) hok c with ⟨h0', _⟩ | ⟨_, h4, v, σ1, g1, hs1⟩ | ⟨_, h4, σ1, F1, g1, hG1, hT1⟩
          · exact absurd h0' h0
          · rw [g1, bnd_some, asT_t, toList2, uncons_c, asB_b, uncons_c, endl_n]
            exact go σ1 F g.w (hG.idle hs1) hok.few (hO.idle hs1)
          · rw [g1, bnd_some, asT_t, toList2, uncons_c, asB_b, uncons_c, endl_n]
            exact go σ1 F1 _ hG1 (by simp; omega) (hO.turned 0 rfl hT1)
        · rw [decide_eq_false hd, br_false]
          exact go σ F g.w hG hok.few hO
      · rw [decide_eq_false (by omega), br_false]
        exact go σ F g.w hG hok.few hO

theorem late_loop (L k : Nat) (hL : 400 < L) {σ0 : St} {ad0 ad1 : Option Addr} {sc : List Op} {calls : List Cal} (hlen : sc.length ≤ 300) (hH : Holds σ0 6 c6 ad0 sc) (hlen1 : calls.length ≤ 40) (hH1 : Holds σ0 3 c3 ad1 calls) {a : Nat} {s1 s2 : Int} (h1 : 0 ≤ s1 ∧ s1 ≤ 65535) (h2 : 0 ≤ s2 ∧ s2 ≤ 255) : ∀ (n i : Nat) (σ : St) (F : List Nat) (g : GS),
    i ≤ sc.length → sc.length - i < n → Gate σ a F g → g.Ok → Owns σ0 σ [F] →
    ∃ σ9, lpAt Try.prog env L (k + 4) 3 [true, true, true, true, false, true] [] n [(0, .slice ad0 sc.length 0), (1, .int .u16 s1), (2, .int .u8 s2), (3, .slice ad1 calls.length 0), (9, .pointer (some ⟨a, 0, none⟩)), (10, .int .i64 g.latest), (29, .int .i64 sc.length), (30, .int .i64 i)] σ = some (.bool true, σ9)
  | 0, i, σ, F, g, _, h, _, _, _ => by omega
  | n + 1, i, σ, F, g, hi, h, hG, hok, hO => by
    rw [f3_l6]
    by_cases hie : i = sc.length
    · have e1 : IntKind.wrap .i64 ((1 : Int) + IntKind.wrap .i64 s1) = 1 + s1 := by rw [wrap_in s1 (by omega) (by omega), wrap_in _ (by omega) (by omega)]
      have e2 : IntKind.wrap .i64 ((1 : Int) + IntKind.wrap .i64 s2) = 1 + s2 := by rw [wrap_in s2 (by omega) (by omega), wrap_in _ (by omega) (by omega)]
      rw [decide_eq_false (by omega), br_false]
      rcases freeze_spec hG L (k + 1) (1 + s1) (1 + s2) with ⟨g', σ1, f1, g1, hG1, hT1⟩ | ⟨v, σ1, f1, g1, hs1⟩
      · obtain ⟨hok', hg', _⟩ := hok.freeze (by omega) f1
        rw [e1, e2, g1, bnd_some, eqNil_nil, not_true, br_false]
        obtain ⟨N, hN⟩ : ∃ N : Nat, 1 + s2 = N := Int.eq_ofNat_of_zero_le (by omega)
        rw [hN]
        have := thaw_loop L k hlen1 hH1 (s1 := s1) e1 (by omega) (N := N) (by omega) L 0 σ1 F g' (by omega) (by omega) hG1 hok' (hO.turned 0 rfl hT1) (fun _ => by rw [hg']; exact ⟨rfl, by simp only; omega⟩) (fun _ => by omega)
        exact this
      · rw [e1, e2, g1, bnd_some, eqNil_iface, not_false, br_true]
        have : 1 + s1 ≤ g.latest := by
          unfold GS.freeze at f1
          rw [if_neg (by omega), if_neg (by omega)] at f1
          split at f1
          · omega
          · cases f1
        rw [decide_eq_true (by omega)]
        exact ⟨σ1, rfl⟩
    · have hget : sc[i]? = some sc[i] := List.getElem?_eq_getElem (by omega)
      obtain ⟨q0, e0, hat0⟩ := hH.ld (σ := σ) hO.kept hget
      have hat : ∀ σ', Kept' σ0.next σ0 σ' → ∀ (j : Nat) (v : Value) (o : Nat), j < 6 → (c6 sc[i])[j]? = some v → o = i * 6 + j → ∀ K : Value → Res, σ'.ld q0 o K = K v := by
        intro σ' hk
        obtain ⟨q', e', h'⟩ := hH.ld hk hget
        have : q' = q0 := by rw [e0] at e'; cases e'; rfl
        subst this; exact h'
      have ht := sc[i].ticks.2
      have hw : IntKind.wrap .i64 ((i : Int) + 1) = ((i + 1 : Nat) : Int) := by rw [wrap_in _ (by omega) (by omega)]; omega
      have hk0 := fun σ' (hk : Kept' σ0.next σ0 σ') => hat σ' hk 0 (.int .i64 sc[i].kind.1) (0 + (i : Int).toNat * 6 + 0) (by omega) rfl (by omega)
      have hk1 := fun σ' (hk : Kept' σ0.next σ0 σ') => hat σ' hk 1 (.int .i64 sc[i].round.1) (0 + (i : Int).toNat * 6 + 1) (by omega) rfl (by omega)
      have hk2 := fun σ' (hk : Kept' σ0.next σ0 σ') => hat σ' hk 2 (.int .i64 sc[i].ticks.1) (0 + (i : Int).toNat * 6 + 2) (by omega) rfl (by omega)
      generalize sc[i].kind.1 = kd at hk0
      generalize sc[i].round.1 = r at hk1
      generalize sc[i].ticks.1 = tk at hk2 ht
      have next : ∀ (σ' : St) (F' : List Nat) (g' : GS), Gate σ' a F' g' → g'.Ok → Owns σ0 σ' [F'] →
          ∃ σ9, lpAt Try.prog env L (k + 4) 3 [true, true, true, true, false, true] [] n [(0, .slice ad0 sc.length 0), (1, .int .u16 s1), (2, .int .u8 s2), (3, .slice ad1 calls.length 0), (9, .pointer (some ⟨a, 0, none⟩)), (10, .int .i64 g'.latest), (29, .int .i64 sc.length), (30, .int .i64 (IntKind.wrap .i64 ((i : Int) + 1)))] σ' = some (.bool true, σ9) := fun σ' F' g' h1' h2' h3' => by
        rw [hw]; exact late_loop L k hL hlen hH hlen1 hH1 h1 h2 n (i + 1) σ' F' g' (by omega) (by omega) h1' h2' h3'
      have tick : ∀ (σ' : St) (F' : List Nat) (g' : GS), Gate σ' a F' g' → g'.Ok → Owns σ0 σ' [F'] →
          ∃ σ9, (bnd (evCall Try.prog env L (k + 4) 10 [Value.pointer (some { block := a, off := 0 })] σ') fun v46 v47 => asSl v46 fun v48 v49 v50 => lpAt Try.prog env L (k + 4) 3 [true, true, true, true, false, true] [] n [(0, .slice ad0 sc.length 0), (1, .int .u16 s1), (2, .int .u8 s2), (3, .slice ad1 calls.length 0), (9, .pointer (some ⟨a, 0, none⟩)), (10, .int .i64 g'.latest), (29, .int .i64 sc.length), (30, .int .i64 (IntKind.wrap .i64 ((i : Int) + 1)))] v47) = some (.bool true, σ9) := by
        intro σ' F' g' h1' h2' h3'
        obtain ⟨ad, z, qo, σ1, F1, g1, hG1, hR1, hT1⟩ := tick_spec h1' L (k + 2) h2'
        have hl : g'.tick.1.latest = g'.latest := by unfold GS.tick; split; rfl; split <;> rfl
        rw [g1, bnd_some, asSl_s, ← hl]
        exact next σ1 F1 _ hG1 h2'.tick (h3'.turned 0 rfl hT1)
      rw [e0] at next tick
      rw [decide_eq_true (by omega), br_true, need_of (by simp [inRange]; omega), e0, adr_some, hk0 σ hO.kept, asI_i]
      have rest : ∀ (σ' : St) (F' : List Nat) (g' : GS), Gate σ' a F' g' → g'.Ok → Owns σ0 σ' [F'] →
          ∃ σ9, (br (kd == 4) (bnd (evCall Try.prog env L (k + 4) 10 [Value.pointer (some { block := a, off := 0 })] σ') fun v46 v47 => asSl v46 fun v48 v49 v50 => lpAt Try.prog env L (k + 4) 3 [true, true, true, true, false, true] [] n [(0, .slice (some ⟨q0, 0, none⟩) sc.length 0), (1, .int .u16 s1), (2, .int .u8 s2), (3, .slice ad1 calls.length 0), (9, .pointer (some ⟨a, 0, none⟩)), (10, .int .i64 g'.latest), (29, .int .i64 sc.length), (30, .int .i64 (IntKind.wrap .i64 ((i : Int) + 1)))] v47)
            (lpAt Try.prog env L (k + 4) 3 [true, true, true, true, false, true] [] n [(0, .slice (some ⟨q0, 0, none⟩) sc.length 0), (1, .int .u16 s1), (2, .int .u8 s2), (3, .slice ad1 calls.length 0), (9, .pointer (some ⟨a, 0, none⟩)), (10, .int .i64 g'.latest), (29, .int .i64 sc.length), (30, .int .i64 (IntKind.wrap .i64 ((i : Int) + 1)))] σ')) = some (.bool true, σ9) := by
        intro σ' F' g' h1' h2' h3'
        by_cases hd4 : kd = 4
        · rw [show (kd == 4) = true by simpa using hd4, br_true]; exact tick σ' F' g' h1' h2' h3'
        · rw [show (kd == 4) = false by simpa using hd4, br_false]; exact next σ' F' g' h1' h2' h3'
      by_cases hd1 : kd = 1
      · rw [show (kd == 1) = true by simpa using hd1, br_true, need_of (by simp [inRange]; omega), adr_some, hk1 σ hO.kept, asI_i, need_of (by simp [inRange]; omega), adr_some, hk2 σ hO.kept, asI_i]
        rcases freeze_spec hG L (k + 1) r tk with ⟨g', σ1, f1, g1, hG1, hT1⟩ | ⟨v, σ1, f1, g1, hs1⟩
        · obtain ⟨hok', hg', hr1, ht1, hor⟩ := hok.freeze ht.2 f1
          have hO1 : Owns σ0 σ1 [F] := hO.turned 0 rfl hT1
          have hge : ¬ r < g.latest := by
            rcases hor with h | h
            · have := hok.late (by omega); omega
            · omega
          rw [g1, bnd_some, eqNil_nil, br_true, need_of (by simp [inRange]; omega), adr_some, hk1 σ1 hO1.kept, asI_i, decide_eq_false hge, br_false, need_of (by simp [inRange]; omega), adr_some, hk1 σ1 hO1.kept, asI_i, need_of (by simp [inRange]; omega), adr_some, hk0 σ1 hO1.kept, asI_i]
          have := rest σ1 F g' hG1 hok' hO1
          rw [show g'.latest = r by rw [hg']] at this
          exact this
        · have hO1 := hO.idle hs1
          rw [g1, bnd_some, eqNil_iface, br_false, need_of (by simp [inRange]; omega), adr_some, hk0 σ1 hO1.kept, asI_i]
          exact rest σ1 F g (hG.idle hs1) hok hO1
      · rw [show (kd == 1) = false by simpa using hd1, br_false, need_of (by simp [inRange]; omega), adr_some, hk0 σ hO.kept, asI_i]
        exact rest σ F g hG hok hO

theorem thaws {σ0 : St} {ad0 ad1 : Option Addr} {sc : List Op} {calls : List Cal} (hH : Holds σ0 6 c6 ad0 sc) (hH1 : Holds σ0 3 c3 ad1 calls) (r t : Int) (h1 : 0 ≤ r ∧ r ≤ 65535) (h2 : 0 ≤ t ∧ t ≤ 255) : ∃ σ', evCall Try.prog env 10000 12 3 [.slice ad0 sc.length 0, .int .u16 r, .int .u8 t, .slice ad1 calls.length 0] σ0 = some (.bool true, σ') := by
  rw [f3_eq]
  obtain ⟨σ2, g2, hs2⟩ := awake_spec 10000 7 σ0
  have hO2 : Owns σ0 σ2 [] := (Owns.start σ0).idle hs2
  have hend : ∃ σ', (bnd (evCall Try.prog env 10000 11 6 [] σ2) fun v10 v11 => asB v10 fun v12 => some (Value.bool v12, v11)) = some (.bool true, σ') := by
    obtain ⟨σ3, g3, _⟩ := awake_spec 10000 7 σ2
    rw [g3, bnd_some, asB_b]; exact ⟨σ3, rfl⟩
  rw [g2, bnd_some, asB_b, not_true, br_false]
  obtain ⟨b, g3, hb⟩ := few_spec 10000 10 (by omega) hH hO2.kept
  rw [g3, bnd_some, asB_b]
  cases b with
  | false => rw [not_false, br_true]; exact hend
  | true =>
  rw [not_true, br_false]
  by_cases hc : (calls.length : Int) > 40
  · rw [decide_eq_true hc, br_true]; exact hend
  obtain ⟨σ3, g4, hG3, hs3⟩ := new_spec 10000 10 σ2
  rw [decide_eq_false hc, br_false, g4, bnd_some, asP_p]
  have hO3 : Owns σ0 σ3 [[σ2.next]] := hO2.more hs3 (fun q hq => by simp at hq; subst hq; exact ⟨Nat.le_refl _, hG3.lt _ (by simp)⟩)
  exact late_loop 10000 7 (by omega) (hb rfl) hH (by omega) hH1 h1 h2 10000 0 σ3 [σ2.next] ⟨0, 0, 0, []⟩ (by omega) (by have := hb rfl; omega) hG3 ⟨fun _ => rfl, by simp, by simp, by simp, by simp, by simp, by simp⟩ hO3

end Go.AM.Gt
