/-
  GateKeeps, in plain words: no call is lost.
-/
import Derived.Test.YtgnchfjkpjblnaaGtB
set_option linter.unusedVariables false
set_option linter.unusedSimpArgs false
namespace Go.AM.Gt
open Go.Proofs

/-- Calls are numbered from a number on. -/
def Ids (t : Nat) (l : List Cal) : Prop := ∀ (j : Nat) (c : Cal), l[j]? = some c → c.id = ((t + j : Nat) : Int)
theorem Ids.nil (t : Nat) : Ids t [] := fun j c h => by simp at h
theorem Ids.snoc {t : Nat} {l : List Cal} (h : Ids t l) (c : Cal) (hc : c.id = ((t + l.length : Nat) : Int)) : Ids t (l ++ [c]) := by
  intro j d hj
  by_cases hjl : j < l.length
  · rw [List.getElem?_append_left hjl] at hj; exact h j d hj
  · rw [List.getElem?_append_right (by omega)] at hj
    obtain ⟨hj2, rfl⟩ := List.getElem?_eq_some_iff.1 hj
    simp only [List.length_singleton] at hj2
    have : j = l.length := by omega
    subst this
    simpa using hc

theorem keep_inner (L k m0 : Nat) {s0 : Option Addr} {s0n s0z : Nat} {N i : Nat} {σ : St} {a : Nat} {F : List Nat} {g : GS} (hG : Gate σ a F g) (hok : g.Ok) {ad : Option Addr} {z : Nat} {qo : List Nat} {out : List Cal} (hR : Row c3 3 41 σ ad z qo out) {e t : Nat} (he : e = t + out.length + g.w.length) (he3 : e ≤ 301) (hI : Ids t out)
    (go : ∃ σ9, lpAt Try.prog env L (k + 1) 4 [true, true, true, true, false, true] [] m0 [(0, .slice s0 s0n s0z), (3, .pointer (some ⟨a, 0, none⟩)), (4, .int .i64 e), (5, .int .i64 ((t + out.length : Nat) : Int)), (21, .int .i64 N), (22, .int .i64 (IntKind.wrap .i64 ((i : Int) + 1)))] σ = some (.bool true, σ9)) : ∀ (n j : Nat), j ≤ out.length → out.length - j < n →
    ∃ σ9, lpAt Try.prog env L (k + 1) 4 [true, true, true, true, false, true, false, true, true, false, true, true, true, false, true] [m0] n [(0, .slice s0 s0n s0z), (3, .pointer (some ⟨a, 0, none⟩)), (4, .int .i64 e), (5, .int .i64 ((t + j : Nat) : Int)), (7, .slice ad out.length z), (21, .int .i64 N), (22, .int .i64 i), (96, .int .i64 out.length), (97, .int .i64 j)] σ = some (.bool true, σ9)
  | 0, j, _, h => by omega
  | n + 1, j, hj, h => by
    rw [f4_l25]
    by_cases hje : j = out.length
    · subst hje
      rw [decide_eq_false (by omega), br_false, waiting_spec hG, bnd_some, asI_i, wrap_in ((e : Int) - ((t + out.length : Nat) : Int)) (by omega) (by omega), show ((g.w.length : Int) != (e : Int) - ((t + out.length : Nat) : Int)) = false by simp; omega, br_false, waiting_spec hG, bnd_some, asI_i, decide_eq_false (by have := hok.few; omega), br_false, frozen_spec hG, bnd_some, asI_i]
      by_cases h0 : g.round = 0
      · rw [show (g.round == 0) = true by simpa using h0, br_true, waiting_spec hG, bnd_some, asI_i, hok.idle h0, show (((([] : List Cal).length : Nat) : Int) != 0) = false from rfl, br_false]
        exact go
      · rw [show (g.round == 0) = false by simpa using h0, br_false]
        exact go
    · have hget : out[j]? = some out[j] := List.getElem?_eq_getElem (by omega)
      obtain ⟨q, eq, hat⟩ := hR.at c3_len hget
      have hid := hI j _ hget
      rw [decide_eq_true (by omega), br_true, need_of (by simp [inRange]; omega), eq, adr_some, hat 0 (.int .i64 out[j].id) _ (by omega) rfl (by omega), asI_i, hid, show ((((t + j : Nat) : Int)) != ((t + j : Nat) : Int)) = false by simp, br_false, wrap_in (((t + j : Nat) : Int) + 1) (by omega) (by omega), wrap_in ((j : Int) + 1) (by omega) (by omega), show ((t + j : Nat) : Int) + 1 = ((t + (j + 1) : Nat) : Int) by omega, ← eq]
      exact keep_inner L k m0 hG hok hR he he3 hI go n (j + 1) (by omega) (by omega)

theorem keep_loop (L k : Nat) (hL : 10 < L) {σ0 : St} {ad0 : Option Addr} {sc : List Op} (hlen : sc.length ≤ 300) (hH : Holds σ0 6 c6 ad0 sc) {a : Nat} : ∀ (n i : Nat) (σ : St) (F : List Nat) (g : GS) (e t : Nat),
    i ≤ sc.length → sc.length - i < n → Gate σ a F g → g.Ok → Owns σ0 σ [F] → e = t + g.w.length → Ids t g.w → e ≤ i →
    ∃ σ9, lpAt Try.prog env L (k + 4) 4 [true, true, true, true, false, true] [] n [(0, .slice ad0 sc.length 0), (3, .pointer (some ⟨a, 0, none⟩)), (4, .int .i64 e), (5, .int .i64 t), (21, .int .i64 sc.length), (22, .int .i64 i)] σ = some (.bool true, σ9)
  | 0, i, σ, F, g, e, t, _, h, _, _, _, _, _, _ => by omega
  | n + 1, i, σ, F, g, e, t, hi, h, hG, hok, hO, he, hI, hei => by
    rw [f4_l6]
    by_cases hie : i = sc.length
    · rw [decide_eq_false (by omega), br_false]; exact ⟨σ, rfl⟩
    · have hget : sc[i]? = some sc[i] := List.getElem?_eq_getElem (by omega)
      obtain ⟨q0, e0, hat⟩ := hH.ld hO.kept hget
      generalize sc[i] = o at hat
      have hk0 := hat 0 (.int .i64 o.kind.1) (0 + (i : Int).toNat * 6 + 0) (by omega) rfl (by omega)
      have hk1 := hat 1 (.int .i64 o.round.1) (0 + (i : Int).toNat * 6 + 1) (by omega) rfl (by omega)
      have hk2 := hat 2 (.int .i64 o.ticks.1) (0 + (i : Int).toNat * 6 + 2) (by omega) rfl (by omega)
      have ht := o.ticks.2
      generalize o.kind.1 = kd at hk0
      generalize o.round.1 = r at hk1
      generalize o.ticks.1 = tk at hk2 ht
      have hw : IntKind.wrap .i64 ((i : Int) + 1) = ((i + 1 : Nat) : Int) := by rw [wrap_in _ (by omega) (by omega)]; omega
      have hwe : IntKind.wrap .i64 ((e : Int) + 1) = ((e + 1 : Nat) : Int) := by rw [wrap_in _ (by omega) (by omega)]; omega
      have hwt : IntKind.wrap .i64 ((t : Int) + 1) = ((t + 1 : Nat) : Int) := by rw [wrap_in _ (by omega) (by omega)]; omega
      have hfew := hok.few
      have inner : ∀ (σ' : St) (F' : List Nat) (g' : GS) (ad : Option Addr) (z : Nat) (qo : List Nat) (out : List Cal) (e' t' : Nat), Gate σ' a F' g' → g'.Ok → Owns σ0 σ' [F'] → Row c3 3 41 σ' ad z qo out → e' = t' + out.length + g'.w.length → e' ≤ i + 1 → Ids t' out → Ids (t' + out.length) g'.w → out.length < L →
          ∃ σ9, lpAt Try.prog env L (k + 4) 4 [true, true, true, true, false, true, false, true, true, false, true, true, true, false, true] [n] L [(0, .slice ad0 sc.length 0), (3, .pointer (some ⟨a, 0, none⟩)), (4, .int .i64 e'), (5, .int .i64 t'), (7, .slice ad out.length z), (21, .int .i64 sc.length), (22, .int .i64 i), (96, .int .i64 out.length), (97, .int .i64 (0 : Int))] σ' = some (.bool true, σ9) := by
        intro σ' F' g' ad z qo out e' t' h1 h2 h3 h4 h5 h6 h7 h8 h9
        have := keep_inner L (k + 3) n h1 h2 h4 h5 (by omega) h7 (N := sc.length) (i := i) (s0 := ad0) (s0n := sc.length) (s0z := 0) (by
          rw [hw]; exact keep_loop L k hL hlen hH n (i + 1) σ' F' g' e' (t' + out.length) (by omega) (by omega) h1 h2 h3 (by omega) h8 (by omega)) L 0 (by omega) (by omega)
        simpa using this
      have stay : ∀ (σ' : St) (F' : List Nat) (g' : GS) (e' t' : Nat), Gate σ' a F' g' → g'.Ok → Owns σ0 σ' [F'] → e' = t' + g'.w.length → e' ≤ i + 1 → Ids t' g'.w →
          ∃ σ9, lpAt Try.prog env L (k + 4) 4 [true, true, true, true, false, true, false, true, true, false, true, true, true, false, true] [n] L [(0, .slice ad0 sc.length 0), (3, .pointer (some ⟨a, 0, none⟩)), (4, .int .i64 e'), (5, .int .i64 t'), (7, .slice none 0 0), (21, .int .i64 sc.length), (22, .int .i64 i), (96, .int .i64 (0 : Int)), (97, .int .i64 (0 : Int))] σ' = some (.bool true, σ9) := by
        intro σ' F' g' e' t' h1 h2 h3 h4 h5 h6
        exact inner σ' F' g' none 0 [] [] e' t' h1 h2 h3 (Row.nil _ _ _ _) (by simpa using h4) h5 (Ids.nil _) (by simpa using h6) (by simp; omega)
      rw [e0] at inner stay
      rw [decide_eq_true (by omega), br_true, need_of (by simp [inRange]; omega), e0, adr_some, hk0, asI_i]
      by_cases hd1 : kd = 1
      · subst hd1
        rw [show ((1 : Int) == 1) = true from rfl, br_true, need_of (by simp [inRange]; omega), adr_some, hk1, asI_i, need_of (by simp [inRange]; omega), adr_some, hk2, asI_i]
        rcases freeze_spec hG L (k + 1) r tk with ⟨g', σ1, e1, g1, hG1, hT1⟩ | ⟨v, σ1, e1, g1, hs1⟩
        · obtain ⟨hok', rfl, _⟩ := hok.freeze ht.2 e1
          rw [g1, bnd_some]
          exact stay σ1 F _ e t hG1 hok' (hO.turned 0 rfl hT1) he (by omega) hI
        · rw [g1, bnd_some]
          exact stay σ1 F g e t (hG.idle hs1) hok (hO.idle hs1) he (by omega) hI
      rw [show (kd == 1) = false by simpa using hd1, br_false]
      by_cases hd2 : kd = 2
      · subst hd2
        rw [show ((2 : Int) == 2) = true from rfl, br_true, need_of (by simp [inRange]; omega), adr_some, hk1, asI_i]
        rcases thaw_spec hG L (k + 1) r with ⟨ad, z, qo, σ1, e1, g1, hG1, hR1, hT1⟩ | ⟨v, σ1, e1, g1, hs1⟩
        · rw [g1, bnd_some, asT_t, toList2, uncons_c, asSl_s, uncons_c, endl_n]
          exact inner σ1 _ _ ad z qo g.w e t hG1 hok.open (hO.turned 0 rfl hT1) hR1 (by simp [GS.open]; omega) (by omega) hI (Ids.nil _) (by omega)
        · rw [g1, bnd_some, asT_t, toList2, uncons_c, asSl_s, uncons_c, endl_n]
          exact stay σ1 F g e t (hG.idle hs1) hok (hO.idle hs1) he (by omega) hI
      rw [show (kd == 2) = false by simpa using hd2, br_false]
      by_cases hd3 : kd = 3
      · subst hd3
        rw [show ((3 : Int) == 3) = true from rfl, br_true, show Value.agg #[Value.int .i64 (e : Int), .int .i64 0, .string ⟨#[]⟩] = Cal.agg ⟨e, 0, ⟨#[]⟩⟩ from rfl]
        rcases enter_spec hG L (k + 1) hok ⟨e, 0, ⟨#[]⟩⟩ with ⟨h0, σ1, g1, hs1⟩ | ⟨h0, h4, v, σ1, g1, hs1⟩ | ⟨h0, h4, σ1, F1, g1, hG1, hT1⟩
        · have hw0 := hok.idle h0
          have het : e = t := by rw [hw0] at he; simpa using he
          rw [g1]
          simp only [bnd_some, asT_t, toList2, uncons_c, asB_b, endl_n, not_false, not_true, br_true, br_false, eqNil_nil, eqNil_iface]
          rw [show ((e : Int) != (t : Int)) = false by simp [het], br_false, hwe, hwt]
          exact stay σ1 F g (e + 1) (t + 1) (hG.idle hs1) hok (hO.idle hs1) (by rw [hw0]; simp [het]) (by omega) (by rw [hw0]; exact Ids.nil _)
        · rw [g1]
          simp only [bnd_some, asT_t, toList2, uncons_c, asB_b, endl_n, not_false, not_true, br_true, br_false, eqNil_nil, eqNil_iface]
          exact stay σ1 F g e t (hG.idle hs1) hok (hO.idle hs1) he (by omega) hI
        · rw [g1]
          simp only [bnd_some, asT_t, toList2, uncons_c, asB_b, endl_n, not_false, not_true, br_true, br_false, eqNil_nil, eqNil_iface]
          rw [frozen_spec hG1, bnd_some, asI_i, show (g.round == 0) = false by simpa using h0, br_false, hwe]
          exact stay σ1 F1 _ (e + 1) t hG1 ⟨fun h => absurd h h0, by simp; omega, hok.left, hok.left1, hok.round, hok.late, hok.latest⟩ (hO.turned 0 rfl hT1) (by simp; omega) (by omega) (hI.snoc _ (by simp only; omega))
      rw [show (kd == 3) = false by simpa using hd3, br_false]
      by_cases hd4 : kd = 4
      · subst hd4
        rw [show ((4 : Int) == 4) = true from rfl, br_true]
        obtain ⟨ad, z, qo, σ1, F1, g1, hG1, hR1, hT1⟩ := tick_spec hG L (k + 2) hok
        rw [g1, bnd_some, asSl_s]
        have hcase : (g.tick.2 = [] ∧ g.tick.1.w = g.w) ∨ (g.tick.2 = g.w ∧ g.tick.1.w = []) := by
          unfold GS.tick; split
          · exact .inl ⟨rfl, rfl⟩
          split
          · exact .inl ⟨rfl, rfl⟩
          · exact .inr ⟨rfl, rfl⟩
        rcases hcase with ⟨c1, c2⟩ | ⟨c1, c2⟩
        · exact inner σ1 _ _ ad z qo g.tick.2 e t hG1 hok.tick (hO.turned 0 rfl hT1) hR1 (by rw [c1, c2]; simpa using he) (by omega) (by rw [c1]; exact Ids.nil _) (by rw [c1, c2]; simpa using hI) (by rw [c1]; simp; omega)
        · exact inner σ1 _ _ ad z qo g.tick.2 e t hG1 hok.tick (hO.turned 0 rfl hT1) hR1 (by rw [c1, c2]; simpa using he) (by omega) (by rw [c1]; exact hI) (by rw [c2]; exact Ids.nil _) (by rw [c1]; omega)
      · rw [show (kd == 4) = false by simpa using hd4, br_false]
        exact stay σ F g e t hG hok hO he (by omega) hI

theorem keeps {σ0 : St} {ad0 : Option Addr} {sc : List Op} (hH : Holds σ0 6 c6 ad0 sc) : ∃ σ', evCall Try.prog env 10000 12 4 [.slice ad0 sc.length 0] σ0 = some (.bool true, σ') := by
  rw [f4_eq]
  obtain ⟨σ2, g2, hs2⟩ := awake_spec 10000 7 σ0
  have hO2 : Owns σ0 σ2 [] := (Owns.start σ0).idle hs2
  rw [g2, bnd_some, asB_b, not_true, br_false]
  obtain ⟨b, g3, hb⟩ := few_spec 10000 10 (by omega) hH hO2.kept
  rw [g3, bnd_some, asB_b]
  cases b with
  | false =>
    obtain ⟨σ3, g3, _⟩ := awake_spec 10000 7 σ2
    rw [not_false, br_true, g3, bnd_some, asB_b]; exact ⟨σ3, rfl⟩
  | true =>
  obtain ⟨σ3, g4, hG3, hs3⟩ := new_spec 10000 10 σ2
  rw [not_true, br_false, g4, bnd_some, asP_p]
  have hO3 : Owns σ0 σ3 [[σ2.next]] := hO2.more hs3 (fun q hq => by simp at hq; subst hq; exact ⟨Nat.le_refl _, hG3.lt _ (by simp)⟩)
  exact keep_loop 10000 7 (by omega) (hb rfl) hH 10000 0 σ3 _ _ 0 0 (by omega) (by have := hb rfl; omega) hG3 ⟨fun _ => rfl, by simp, by simp, by simp, by simp, by simp, by simp⟩ hO3 rfl (Ids.nil _) (by omega)

end Go.AM.Gt
