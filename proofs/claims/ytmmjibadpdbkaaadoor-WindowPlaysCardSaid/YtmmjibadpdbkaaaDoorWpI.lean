/-
  WindowPlays: the rounds.
-/
import Derived.Test.YtmmjibadpdbkaaaDoorWpH
set_option linter.unusedVariables false
set_option linter.unusedSimpArgs false
set_option linter.unusedSectionVars false
namespace Go.AM.Wp.S
open Go.Proofs Go.RowKit

theorem turn_of {σ σ' : St} {a : Nat} {qs qs' : List Nat} (hs : Same σ σ' (a :: qs)) (ha : a < σ'.next) (hl : ∀ q ∈ qs', q < σ'.next) (hn : ∀ q ∈ qs', q ∈ qs ∨ σ.next ≤ q) : Turn σ σ' (a :: qs) (a :: qs') :=
  ⟨hs, fun q h => by
    rcases List.mem_cons.1 h with rfl | h
    · exact ⟨.inl (by simp), ha⟩
    · exact ⟨(hn q h).imp (fun h => by simp [h]) id, hl q h⟩⟩
theorem RSend.lts {σ : St} {b : Nat} {qs : List Nat} {l : List ByteArray} {sent acked : Nat} (h : RSend σ b qs l sent acked) : ∀ q ∈ qs, q < σ.next := by obtain ⟨_, _, _, hr⟩ := h.ex; exact hr.lt
theorem Send.lts {σ : St} {b : Nat} {qs : List Nat} {l : List ByteArray} {sent acked : Int} (h : Send σ b qs l sent acked) : ∀ q ∈ qs, q < σ.next := by obtain ⟨_, _, _, hr⟩ := h.ex; exact hr.lt
theorem Recv.lts {σ : St} {b : Nat} {qs : List Nat} {l : List ByteArray} (h : Recv σ b qs l) : ∀ q ∈ qs, q < σ.next := by obtain ⟨_, _, _, hr⟩ := h.ex; exact hr.lt

theorem rpush {σ : St} {b : Nat} {qs : List Nat} {l : List ByteArray} {sent acked : Nat} (hS : RSend σ b qs l sent acked) (hl : l.length ≤ 1000000) (x : ByteArray) : ∃ ad1 z1 ad2 z2 qs' σ4 σ5,
    (∀ K : Value → Res, σ.ld b (0 + 0) K = K (.slice ad1 l.length z1)) ∧ (∀ K : Value → Res, (σ.new (.own [.string x] 9)).ld b (0 + 0) K = K (.slice ad1 l.length z1)) ∧ (∀ K : List Value → Res, (σ.new (.own [.string x] 9)).row (some ⟨σ.next, 0, none⟩) 1 K = K [.string x]) ∧
    (∀ K : Option Addr → Nat → Nat → St → Res, grow 9 1 16 ad1 l.length z1 1 [.string x] (σ.new (.own [.string x] 9)) K = K ad2 (l.length + 1) z2 σ4) ∧ (∀ K : St → Res, σ4.put b (0 + 0) [.slice ad2 (l.length + 1) z2] K = K σ5) ∧ RSend σ5 b qs' (l ++ [x]) sent acked ∧ Turn σ σ5 (b :: qs) (b :: qs') := by
  obtain ⟨ad, z, hg, hrow⟩ := hS.ex
  have hlt := hS.lt
  have hne := hS.ne
  have hs2 : Same σ (σ.new (.own [.string x] 9)) [] := Same.new _ _ _
  have hg2 : (σ.new (.own [.string x] 9)).get b = _ := (hs2.2 b hlt (by simp)).trans hg
  obtain ⟨ad', z', qs', σ3, hgrow, hrow3, hs3, hq3⟩ := grow_row (by_ := 16) (hrow.same hs2 (by simp)) cS_len cS_one (by omega) [x] [Value.string x] rfl 1 rfl (by unfold roomTop; omega) (by unfold sizeTop; omega)
  have hn3 := hs3.1
  have hn2 : (σ.new (.own [.string x] 9)).next = σ.next + 1 := rfl
  have hg3 : σ3.get b = _ := (hs3.2 b (by omega) hne).trans hg2
  have hne' : b ∉ qs' := fun h => by rcases hq3 b h with h | h; exact hne h; omega
  have hs4 := Same.set σ3 b (.own (List.set [.slice ad l.length z, .int .i64 sent, .int .i64 acked] 0 (.slice ad' (l.length + 1) z')) 47)
  have hR : RSend (σ3.set b (.own (List.set [.slice ad l.length z, .int .i64 sent, .int .i64 acked] 0 (.slice ad' (l.length + 1) z')) 47)) b qs' (l ++ [x]) sent acked :=
    ⟨⟨ad', z', by rw [get_set_same, List.length_append]; rfl, hrow3.same hs4 (fun q hq => by simp; rintro rfl; exact hne' hq)⟩, by simp; omega, hne'⟩
  refine ⟨ad, z, ad', z', qs', σ3, _, fun K => ld_own K hg rfl, fun K => ld_own K hg2 rfl, fun K => row_one (get_new_same _ _) K, hgrow, fun K => put_sl hg3 0 _ _ _ (by simp) K, hR, turn_of ?_ hR.lt hR.lts (fun q hq => (hq3 q hq).imp id (fun h => by omega))⟩
  exact ((hs2.mono (by simp)).trans (hs3.mono (fun q hq => by simp [hq]))).trans (hs4.mono (by simp))

theorem plays_loop (L k : Nat) (hL : 1000 < L) {σ0 : St} {ad0 : Option Addr} {sc : List Op} (hlen : sc.length ≤ 300) (hH : Holds σ0 3 c3w ad0 sc) {a b c : Nat} : ∀ (n i : Nat) (σ : St) (ad : Option Addr) (z : Nat) (l took : List ByteArray) (sent acked : Nat) (qa qb qc q9 : List Nat),
    i ≤ sc.length → sc.length - i < n → l.length ≤ i → took.length ≤ i → sent ≤ l.length → acked ≤ sent → Send σ a qa l sent acked → RSend σ b qb l sent acked → Recv σ c qc took → Row cS 1 9 σ ad z q9 took → Owns σ0 σ [a :: qa, b :: qb, c :: qc, q9] →
    ∃ σ9, lpAt Tryd.prog env L (k + 4) 4 [true, true, true, true, true, false, true] [] n [(0, .slice ad0 sc.length 0), (3, .pointer (some ⟨a, 0, none⟩)), (4, .pointer (some ⟨b, 0, none⟩)), (5, .pointer (some ⟨c, 0, none⟩)), (6, .slice ad took.length z), (30, .int .i64 sc.length), (31, .int .i64 i)] σ = some (.bool true, σ9)
  | 0, i, σ, ad, z, l, took, sent, acked, qa, qb, qc, q9, _, h, _, _, _, _, _, _, _, _, _ => by omega
  | n + 1, i, σ, ad, z, l, took, sent, acked, qa, qb, qc, q9, hi, h, hll, htl, h1, h2, hA, hb, hC, hR, hO => by
    rw [f4_l7]
    by_cases hie : i = sc.length
    · rw [decide_eq_false (by omega), br_false]
      exact ⟨σ, rfl⟩
    · have hget : sc[i]? = some sc[i] := List.getElem?_eq_getElem (by omega)
      obtain ⟨q0, e0, hlds⟩ := hH.lds hO.kept c3w_len hget
      generalize sc[i] = o at hlds
      have hw : IntKind.wrap .i64 ((i : Int) + 1) = ((i + 1 : Nat) : Int) := by rw [wrap_in _ (by omega) (by omega)]; omega
      rw [decide_eq_true (by omega), br_true, need_of (by simp [inRange]; omega), e0, adr_some, hlds 0 3 (0 + (i : Int).toNat * 3) (by omega) (by simp), show ((c3w o).drop 0).take 3 = [.int .i64 o.kind, .int .i64 o.n, .string o.s] from rfl,
        uncons_c, asI_i, uncons_c, asI_i, uncons_c, asS_s, endl_n]
      obtain ⟨σ1, hput, ht1, hs1, hn1⟩ := tmp_put σ [Value.int IntKind.i64 0, Value.int IntKind.i64 0, Value.string { data := #[] }] [Value.int IntKind.i64 o.kind, Value.int IntKind.i64 o.n, Value.string o.s] 51 rfl rfl
      rw [hput]
      have hO1 : Owns σ0 σ1 [a :: qa, b :: qb, c :: qc, q9, [σ.next]] := (hO.more hs1 (F := [σ.next]) (fun q hq => by simp at hq; subst hq; omega)).pick [1, 2, 3, 4, 0] (by decide)
      have hA1 := hA.same hs1 (by simp) (by simp)
      have hb1 := hb.same hs1 (by simp) (by simp)
      have hC1 := hC.same hs1 (by simp) (by simp)
      have hR1 := hR.same hs1 (by simp)
      generalize hB : Blk.own [Value.int IntKind.i64 o.kind, Value.int IntKind.i64 o.n, Value.string o.s] 51 = B at ht1
      have r0 : ∀ {σ' : St}, σ'.get σ.next = some B → ∀ K : Value → Res, σ'.ld σ.next 0 K = K (.int .i64 o.kind) := fun h K => by rw [← hB] at h; exact ld_own K h rfl
      have r1 : ∀ {σ' : St}, σ'.get σ.next = some B → ∀ K : Value → Res, σ'.ld σ.next 1 K = K (.int .i64 o.n) := fun h K => by rw [← hB] at h; exact ld_own K h rfl
      have r2 : ∀ {σ' : St}, σ'.get σ.next = some B → ∀ K : Value → Res, σ'.ld σ.next 2 K = K (.string o.s) := fun h K => by rw [← hB] at h; exact ld_own K h rfl
      have go : ∀ (σ2 : St) (ad' : Option Addr) (z' : Nat) (l' took' : List ByteArray) (sent' acked' : Nat), W4 σ0 σ2 a b c σ.next B ad' z' l' sent' acked' took' → l'.length ≤ i + 1 → took'.length ≤ i + 1 →
          ∃ σ9, tl L (k + 4) n σ2 (some ⟨q0, 0, none⟩) sc.length 0 a 0 b 0 c 0 ad' took'.length z' sc.length i = some (.bool true, σ9) := by
        intro σ2 ad' z' l' took' sent' acked' hW w1 w2
        obtain ⟨σ3, hW3, e⟩ := tl_ok L (k + 2) n hL (by omega) (by omega) hW (some ⟨q0, 0, none⟩) sc.length 0 sc.length i
        obtain ⟨xa, xb, xc, x9, y1, y2, y3, y4, y5, _⟩ := hW3.ex
        rw [e, hw, ← e0]
        exact plays_loop L k hL hlen hH n (i + 1) σ3 ad' z' l' took' sent' acked' xa xb xc x9 (by omega) (by omega) w1 w2 hW3.h1 hW3.h2 y1 y2 y3 y4 (y5.pick [0, 1, 2, 3] (by decide))
      rw [r0 ht1, asI_i]
      by_cases k1 : o.kind = 1
      · obtain ⟨qa2, σ2, g1, g2, g3, g4⟩ := push_spec L (k + 3) hA1 (by omega) o.s
        have hO2 := hO1.turned 0 rfl (turn_of g3 g2.lt g2.lts g4)
        have hb2 := hb1.same g3 (hO1.off 1 0 (by omega) rfl rfl b (by simp)) (fun q hq => hO1.off 1 0 (by omega) rfl rfl q (by simp [hq]))
        have hC2 := hC1.same g3 (hO1.off 2 0 (by omega) rfl rfl c (by simp)) (fun q hq => hO1.off 2 0 (by omega) rfl rfl q (by simp [hq]))
        have hR2 := hR1.same g3 (hO1.off 3 0 (by omega) rfl rfl)
        have ht2 : σ2.get σ.next = some B := (g3.2 _ (hO1.lt 4 rfl _ (by simp)) (hO1.off 4 0 (by omega) rfl rfl _ (by simp))).trans ht1
        obtain ⟨ad1, z1, ad2, z2, qb', σ4, σ5, p1, p2, p3, p4, p5, p6, p7⟩ := rpush hb2 (by omega) o.s
        have hO5 := hO2.turned 1 rfl p7
        have ht5 : σ5.get σ.next = some B := (p7.same.2 _ (hO2.lt 4 rfl _ (by simp)) (hO2.off 4 1 (by omega) rfl rfl _ (by simp))).trans ht2
        rw [k1, show ((1 : Int) == 1) = true from rfl, br_true, r2 ht1, asS_s, g1, bnd_some, asT_t, toList0, endl_n, p1, asSl_s, r2 ht2, asS_s, p2, asSl_s, chk_same, p3, p4, p5]
        exact go σ5 ad z (l ++ [o.s]) took sent acked ⟨⟨qa2, qb', qc, q9, g2.same p7.same (hO2.off 0 1 (by omega) rfl rfl a (by simp)) (fun q hq => hO2.off 0 1 (by omega) rfl rfl q (by simp [hq])), p6, hC2.same p7.same (hO2.off 2 1 (by omega) rfl rfl c (by simp)) (fun q hq => hO2.off 2 1 (by omega) rfl rfl q (by simp [hq])), hR2.same p7.same (hO2.off 3 1 (by omega) rfl rfl), hO5, ht5⟩, by simp; omega, h2⟩ (by simp; omega) (by omega)
      · rw [show (o.kind == 1) = false by simpa using k1, br_false]
        have base : W4 σ0 σ1 a b c σ.next B ad z l sent acked took := ⟨⟨qa, qb, qc, q9, hA1, hb1, hC1, hR1, hO1, ht1⟩, h1, h2⟩
        by_cases k2 : o.kind = 2
        · generalize hm : max sent (min l.length (acked + 4)) = m at *
          obtain ⟨ad2, z2, rs2, σ2, g1, g2, g3, g4, g5⟩ := send_spec L (k + 2) hA1 (by omega) h1 h2 (by omega)
          rw [hm] at g1 g2 g3
          have hml : m ≤ l.length := by omega
          have hsm : sent ≤ m := by omega
          have hpl := packs_length l (m - sent) sent
          have hO2 := hO1.turned 0 rfl (turn_of (g4.mono (by simp)) g3.lt g3.lts (fun q hq => .inl hq))
          have hb2 := hb1.same g4 (by have := hO1.off 1 0 (by omega) rfl rfl b (by simp); simp at this; simp; exact this.1) (fun q hq => by have := hO1.off 1 0 (by omega) rfl rfl q (by simp [hq]); simp at this; simp; exact this.1)
          have hC2 := hC1.same g4 (by have := hO1.off 2 0 (by omega) rfl rfl c (by simp); simp at this; simp; exact this.1) (fun q hq => by have := hO1.off 2 0 (by omega) rfl rfl q (by simp [hq]); simp at this; simp; exact this.1)
          have hR2 := hR1.same g4 (fun q hq => by have := hO1.off 3 0 (by omega) rfl rfl q hq; simp at this; simp; exact this.1)
          have ht2 : σ2.get σ.next = some B := (g4.2 _ (hO1.lt 4 rfl _ (by simp)) (by have := hO1.off 4 0 (by omega) rfl rfl σ.next (by simp); simp at this; simp; exact this.1)).trans ht1
          obtain ⟨ad3, z3, rs3, σ3, c1, c2, c3, c4⟩ := conv_spec L (k + 3) g2 (by omega) (by omega)
          rw [hpl] at c1
          obtain ⟨ad4, z4, rs4, σ4, d1, d2, d3, d4, d5⟩ := rsend_spec L (k + 3) (hb2.same c3 (by simp) (by simp)) (by omega) h1 h2 (by omega)
          rw [hm] at d1 d2 d3
          have hlt2 := hO2.lt 1 rfl b (by simp)
          have hO3 := hO2.idle c3
          have hO4 := hO3.turned 1 rfl (turn_of (d4.mono (by simp)) d3.lt d3.lts (fun q hq => .inl hq))
          have hsame := same_packets L (k + 3) (c2.same d4 (fun q hq => by simp; rintro rfl; have := c4 _ hq; omega)) d2 (by omega) (by omega)
          rw [hpl] at hsame
          have hx : ∀ {F : List Nat} (j : Nat), j ≠ 1 → [a :: qa, b :: qb, c :: qc, q9, [σ.next]][j]? = some F → ∀ q ∈ F, q ∉ [b] := fun j hj hF q hq => by
            have := hO3.off j 1 hj hF rfl q hq
            simp at this; simp; exact this.1
          rw [k2, show ((2 : Int) == 2) = true from rfl, br_true, g1, bnd_some, asSl_s, c1, bnd_some, asSl_s, d1, bnd_some, asSl_s, hsame, bnd_some, asB_b, not_true, br_false]
          exact go σ4 ad z l took m acked ⟨⟨qa, qb, qc, q9, (g3.same c3 (by simp) (by simp)).same d4 (hx 0 (by omega) rfl a (by simp)) (fun q hq => hx 0 (by omega) rfl q (by simp [hq])), d3, (hC2.same c3 (by simp) (by simp)).same d4 (hx 2 (by omega) rfl c (by simp)) (fun q hq => hx 2 (by omega) rfl q (by simp [hq])), (hR2.same c3 (by simp)).same d4 (hx 3 (by omega) rfl), hO4,
            (d4.2 _ (hO3.lt 4 rfl _ (by simp)) (hx 4 (by omega) rfl _ (by simp))).trans ((c3.2 _ (hO2.lt 4 rfl _ (by simp)) (by simp)).trans ht2)⟩, hml, by omega⟩ (by omega) (by omega)
        rw [show (o.kind == 2) = false by simpa using k2, br_false]
        by_cases k3 : o.kind = 3
        · have hpl := packs_length l (sent - acked) acked
          obtain ⟨ad2, z2, rs2, σ2, g1, g2, g3, g4⟩ := resend_spec hA1 L (k + 2) (by omega) h1 h2 (by omega)
          have w2 := base.idle g3
          obtain ⟨ad3, z3, rs3, σ3, c1, c2, c3, c4⟩ := conv_spec L (k + 3) g2 (by omega) (by omega)
          rw [hpl] at c1
          obtain ⟨ad4, z4, rs4, σ4, d1, d2, d3, d4⟩ := rresend_spec L (k + 3) ((hb1.same g3 (by simp) (by simp)).same c3 (by simp) (by simp)) (by omega) h1 h2 (by omega)
          have hsame := same_packets L (k + 3) (c2.same d3 (by simp)) d2 (by omega) (by omega)
          rw [hpl] at hsame
          rw [k3, show ((3 : Int) == 3) = true from rfl, br_true, g1, bnd_some, asSl_s, c1, bnd_some, asSl_s, d1, bnd_some, asSl_s, hsame, bnd_some, asB_b, not_true, br_false]
          exact go σ4 ad z l took sent acked ((w2.idle c3).idle d3) (by omega) (by omega)
        rw [show (o.kind == 3) = false by simpa using k3, br_false]
        by_cases k4 : o.kind = 4
        · rw [k4, show ((4 : Int) == 4) = true from rfl, br_true, r1 ht1, asI_i]
          rcases ack_spec L (k + 2) hA1 o.n with ⟨n0, n1, σ2, g1, g2, g3⟩ | ⟨n0, v, σ2, g1, g2, g3⟩
          · have hx : ∀ {F : List Nat} (j : Nat), j ≠ 0 → [a :: qa, b :: qb, c :: qc, q9, [σ.next]][j]? = some F → ∀ q ∈ F, q ∉ [a] := fun j hj hF q hq => by
              have := hO1.off j 0 hj hF rfl q hq
              simp at this; simp; exact this.1
            have hO2 := hO1.turned 0 rfl (turn_of (g3.mono (by simp)) g2.lt g2.lts (fun q hq => .inl hq))
            have hb2 := hb1.same g3 (hx 1 (by omega) rfl b (by simp)) (fun q hq => hx 1 (by omega) rfl q (by simp [hq]))
            have hC2 := hC1.same g3 (hx 2 (by omega) rfl c (by simp)) (fun q hq => hx 2 (by omega) rfl q (by simp [hq]))
            have hR2 := hR1.same g3 (hx 3 (by omega) rfl)
            have ht2 : σ2.get σ.next = some B := (g3.2 _ (hO1.lt 4 rfl _ (by simp)) (hx 4 (by omega) rfl _ (by simp))).trans ht1
            obtain ⟨σ3, f1, s3⟩ := first_nil L (k + 1) (by omega) σ2 ⟨#[119, 105, 110, 100, 111, 119]⟩
            obtain ⟨σ4, f2, s4⟩ := code_nil L (k + 2) σ3
            have s24 := s3.trans s4
            have ht3 : σ3.get σ.next = some B := (s3.2 _ (hO2.lt 4 rfl _ (by simp)) (by simp)).trans ht2
            have ht4 : σ4.get σ.next = some B := (s24.2 _ (hO2.lt 4 rfl _ (by simp)) (by simp)).trans ht2
            have hO4 := hO2.idle s24
            rcases rack_spec L (k + 3) (hb2.same s24 (by simp) (by simp)) o.n with ⟨_, _, σ5, d1, d2, d3⟩ | ⟨n9, _⟩
            · have hy : ∀ {F : List Nat} (j : Nat), j ≠ 1 → [a :: qa, b :: qb, c :: qc, q9, [σ.next]][j]? = some F → ∀ q ∈ F, q ∉ [b] := fun j hj hF q hq => by
                have := hO4.off j 1 hj hF rfl q hq
                simp at this; simp; exact this.1
              have hO5 := hO4.turned 1 rfl (turn_of (d3.mono (by simp)) d2.lt d2.lts (fun q hq => .inl hq))
              rw [g1, bnd_some, f1, bnd_some, asT_t, toList2, uncons_c, asI_i, uncons_c, asB_b, endl_n, f2, bnd_some, asI_i, r1 ht4, asI_i, r1 ht3, asI_i, chk_same, d1, bnd_some, asI_i, show ((0 : Int) != 0) = false from rfl, br_false, eqNil_nil, show (!false == !true) = false from rfl, br_false, br_false]
              exact go σ5 ad z l took sent (max acked o.n.toNat) ⟨⟨qa, qb, qc, q9, (g2.same s24 (by simp) (by simp)).same d3 (hy 0 (by omega) rfl a (by simp)) (fun q hq => hy 0 (by omega) rfl q (by simp [hq])), d2, (hC2.same s24 (by simp) (by simp)).same d3 (hy 2 (by omega) rfl c (by simp)) (fun q hq => hy 2 (by omega) rfl q (by simp [hq])), (hR2.same s24 (by simp)).same d3 (hy 3 (by omega) rfl), hO5,
                (d3.2 _ (hO4.lt 4 rfl _ (by simp)) (hy 4 (by omega) rfl _ (by simp))).trans ht4⟩, h1, by omega⟩ (by omega) (by omega)
            · exact absurd ⟨n0, n1⟩ n9
          · obtain ⟨σ3, f1, s3⟩ := first_spec L (k + 1) (by omega) g2
            obtain ⟨σ4, f2, s4⟩ := code_spec L (k + 2) (g2.same s3)
            have w4 := ((base.idle g3).idle s3).idle s4
            obtain ⟨xa, xb, xc, x9, y1, y2, y3, y4, y5, ht4⟩ := w4.ex
            obtain ⟨_, _, _, _, _, _, _, _, _, ht3⟩ := ((base.idle g3).idle s3).ex
            rcases rack_spec L (k + 3) y2 o.n with ⟨n8, n9, _⟩ | ⟨_, d1⟩
            · exact absurd ⟨n8, n9⟩ n0
            · rw [g1, bnd_some, f1, bnd_some, asT_t, toList2, uncons_c, asI_i, uncons_c, asB_b, endl_n, f2, bnd_some, asI_i, r1 ht4, asI_i, r1 ht3, asI_i, chk_same, d1, bnd_some, asI_i, show ((5 : Int) != 5) = false from rfl, br_false, g2.nil, show (!true == !false) = false from rfl, br_false, br_true, r1 ht4, asI_i, show (o.n != o.n) = false by simp, br_false]
              exact go σ4 ad z l took sent acked w4 (by omega) (by omega)
        rw [show (o.kind == 4) = false by simpa using k4, br_false]
        by_cases k5 : o.kind = 5
        · rw [k5, show ((5 : Int) == 5) = true from rfl, br_true, r1 ht1, asI_i, wrap_in ((took.length : Int) + 1) (by omega) (by omega)]
          have hl1 : (took ++ [o.s]).length = took.length + 1 := by simp
          by_cases hn : o.n = (took.length : Int) + 1
          · rw [show (o.n == (took.length : Int) + 1) = true by simpa using hn, br_true, r2 ht1, asS_s]
            generalize hσ2 : σ1.new (Blk.own [Value.string o.s] 9) = σ2
            have hnew : σ2.get σ1.next = some (Blk.own [Value.string o.s] 9) := by rw [← hσ2, get_new_same]
            have hs2 : Same σ1 σ2 [] := by rw [← hσ2]; exact Same.new _ _ _
            have hO2 := hO1.idle hs2
            rw [row_one hnew]
            obtain ⟨ad', z', q9', σ3, hgrow, hrow3, hs3, hq3⟩ := grow_row (by_ := 16) (hR1.same hs2 (by simp)) cS_len cS_one (by omega) [o.s] [Value.string o.s] rfl 1 rfl (by unfold roomTop; omega) (by unfold sizeTop; omega)
            have hO3 := hO2.turned 3 rfl ⟨hs3, fun q hq => ⟨hq3 q hq, hrow3.lt q hq⟩⟩
            have ht3 : σ3.get σ.next = some B := (hs3.2 _ (hO2.lt 4 rfl _ (by simp)) (hO2.off 4 3 (by omega) rfl rfl _ (by simp))).trans ((hs2.2 _ (hO1.lt 4 rfl _ (by simp)) (by simp)).trans ht1)
            have hC3 := (hC1.same hs2 (by simp) (by simp)).same hs3 (hO2.off 2 3 (by omega) rfl rfl c (by simp)) (fun q hq => hO2.off 2 3 (by omega) rfl rfl q (by simp [hq]))
            obtain ⟨qc', σ4, t1, t2, t3, t4⟩ := take_spec L (k + 3) hC3 (by omega) o.n o.s
            rw [if_pos hn] at t1 t2
            have hO4 := hO3.turned 2 rfl (turn_of t3 t2.lt t2.lts t4)
            have t1' : evCall Tryd.prog env L (k + 4) 12 [.pointer (some ⟨c, 0, none⟩), .agg #[.int .i64 o.n, .string o.s]] σ3 = some (.int .i64 (took ++ [o.s]).length, σ4) := t1
            rw [hgrow, r1 ht3, asI_i, r2 ht3, asS_s, need_true, t1', bnd_some, asI_i, show (((took ++ [o.s]).length : Int) != ((took.length + 1 : Nat) : Int)) = false by rw [hl1]; simp, br_false, ← hl1]
            exact go σ4 ad' z' l (took ++ [o.s]) sent acked ⟨⟨qa, qb, qc', q9', ((hA1.same hs2 (by simp) (by simp)).same hs3 (hO2.off 0 3 (by omega) rfl rfl a (by simp)) (fun q hq => hO2.off 0 3 (by omega) rfl rfl q (by simp [hq]))).same t3 (hO3.off 0 2 (by omega) rfl rfl a (by simp)) (fun q hq => hO3.off 0 2 (by omega) rfl rfl q (by simp [hq])),
              ((hb1.same hs2 (by simp) (by simp)).same hs3 (hO2.off 1 3 (by omega) rfl rfl b (by simp)) (fun q hq => hO2.off 1 3 (by omega) rfl rfl q (by simp [hq]))).same t3 (hO3.off 1 2 (by omega) rfl rfl b (by simp)) (fun q hq => hO3.off 1 2 (by omega) rfl rfl q (by simp [hq])), t2, hrow3.same t3 (hO3.off 3 2 (by omega) rfl rfl), hO4,
              (t3.2 _ (hO3.lt 4 rfl _ (by simp)) (hO3.off 4 2 (by omega) rfl rfl _ (by simp))).trans ht3⟩, h1, h2⟩ (by omega) (by omega)
          · rw [show (o.n == (took.length : Int) + 1) = false by simpa using hn, br_false, r1 ht1, asI_i, r2 ht1, asS_s, need_true]
            obtain ⟨qc', σ4, t1, t2, t3, t4⟩ := take_spec L (k + 3) hC1 (by omega) o.n o.s
            rw [if_neg hn] at t1 t2
            have hO4 := hO1.turned 2 rfl (turn_of t3 t2.lt t2.lts t4)
            have t1' : evCall Tryd.prog env L (k + 4) 12 [.pointer (some ⟨c, 0, none⟩), .agg #[.int .i64 o.n, .string o.s]] σ1 = some (.int .i64 took.length, σ4) := t1
            rw [t1', bnd_some, asI_i, show (((took.length : Nat) : Int) != (took.length : Int)) = false by simp, br_false]
            exact go σ4 ad z l took sent acked ⟨⟨qa, qb, qc', q9, hA1.same t3 (hO1.off 0 2 (by omega) rfl rfl a (by simp)) (fun q hq => hO1.off 0 2 (by omega) rfl rfl q (by simp [hq])), hb1.same t3 (hO1.off 1 2 (by omega) rfl rfl b (by simp)) (fun q hq => hO1.off 1 2 (by omega) rfl rfl q (by simp [hq])), t2, hR1.same t3 (hO1.off 3 2 (by omega) rfl rfl), hO4,
              (t3.2 _ (hO1.lt 4 rfl _ (by simp)) (hO1.off 4 2 (by omega) rfl rfl _ (by simp))).trans ht1⟩, h1, h2⟩ (by omega) (by omega)
        · rw [show (o.kind == 5) = false by simpa using k5, br_false]
          exact go σ1 ad z l took sent acked base (by omega) (by omega)

end Go.AM.Wp.S
