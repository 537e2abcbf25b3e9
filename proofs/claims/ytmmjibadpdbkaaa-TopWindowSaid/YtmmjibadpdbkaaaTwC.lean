/-
  TopWindow, in plain words: a window over a link is as a straight way.
-/
import Derived.Test.YtmmjibadpdbkaaaTwB
set_option linter.unusedVariables false
set_option linter.unusedSimpArgs false
namespace Go.AM
open Go.Proofs

structure Fate where
  d : Small
  i : Small
  block : Small
  data : { s : ByteArray // s.size ≤ maxLen }
  keep : Int
def c5f (o : Fate) : List Value := [.int .i64 o.d.1, .int .i64 o.i.1, .int .i64 o.block.1, .string o.data.1, .int .u64 o.keep]

/-- What is sent flies, or doesn't. -/
theorem top_fly (L k m0 : Nat) {σ0 : St} {s0 : Option Addr} {s0n s0z a b c N : Nat} {s8 s47 s48 : Int} {ad : Option Addr} {z : Nat} {q : List Nat} {news : List (Int × Int)} (hnl : news.length ≤ 100) {sent acked took : Nat} (hpk : ∀ p ∈ news, Pk sent p)
    (go : ∀ σ' fl', Tw σ0 σ' a b c [] N sent acked took fl' → ∃ σ9, lpAt Try.prog env L (k + 5) 7 [true, true, true, true, true, true, true, false, true] [] m0 [(0, .slice s0 s0n s0z), (5, .pointer (some ⟨a, 0, none⟩)), (6, .pointer (some ⟨b, 0, none⟩)), (7, .pointer (some ⟨c, 0, none⟩)), (8, .int .i64 s8), (47, .int .i64 s47), (48, .int .i64 (IntKind.wrap .i64 (s48 + 1)))] σ' = some (.bool true, σ9)) : ∀ (n j : Nat) (σ : St) (fl : List (Int × Int)), j ≤ news.length → news.length - j < n → Tw σ0 σ a b c [q] N sent acked took fl → Row c2 2 30 σ ad z q news →
    ∃ σ9, lpAt Try.prog env L (k + 5) 7 [true, true, true, true, true, true, true, false, true, false, true, true, false, true, true, true, false, true] [m0] n [(0, .slice s0 s0n s0z), (5, .pointer (some ⟨a, 0, none⟩)), (6, .pointer (some ⟨b, 0, none⟩)), (7, .pointer (some ⟨c, 0, none⟩)), (8, .int .i64 s8), (47, .int .i64 s47), (48, .int .i64 s48), (62, .slice ad news.length z), (63, .int .i64 news.length), (64, .int .i64 j)] σ = some (.bool true, σ9)
  | 0, j, σ, fl, _, h, _, _ => by omega
  | n + 1, j, σ, fl, hj, h, hT, hR => by
    rw [f7_l19]
    by_cases hje : j = news.length
    · rw [decide_eq_false (by omega), br_false]
      exact go σ fl hT.less
    · have hget : news[j]? = some news[j] := List.getElem?_eq_getElem (by omega)
      have hp := hpk _ (List.mem_of_getElem? hget)
      obtain ⟨q0, e0, hat⟩ := hR.lds c2_len hget
      generalize news[j] = p at hat hp
      obtain ⟨σ1, p1, p2, p3, p4⟩ := tmp_put σ [Value.int IntKind.i64 0, Value.int IntKind.i64 0] [.int .i64 p.1, .int .i64 p.2] 30 rfl rfl
      have hT1 := hT.idle p3
      have hR1 := hR.same p3 (by simp)
      rw [decide_eq_true (by omega), br_true, need_of (by simp [inRange]; omega), e0, adr_some, hat _ (by simp), show c2 p = [.int .i64 p.1, .int .i64 p.2] from rfl, uncons_c, asI_i, uncons_c, asI_i, endl_n, p1, lds_all (n := 2) p2 rfl, uncons_c, asI_i, uncons_c, asI_i, endl_n]
      obtain ⟨v, σ2, g2, _, ⟨fl2, hT2⟩, hk⟩ := hT1.link (P := fun _ => True) (r := evCall Try.prog env L (k + 5) 17 [.pointer (some ⟨c, 0, none⟩), .agg [.int .i64 p.1, .int .i64 p.2].toArray] σ1) (fun qL hK => by
        obtain ⟨v, qs', l', σ', w1, w2, w3, w4, w5⟩ := send2_spec L (k + 1) hK (by have := hT.len; omega) p.1 p.2
        refine ⟨v, σ', w1, qs', l', trivial, w2, w3, w4, ?_, ?_⟩
        · rcases w5 with rfl | ⟨_, rfl⟩
          · exact hT.pk
          · intro x hx
            rcases List.mem_append.1 hx with hx | hx
            · exact hT.pk x hx
            · simp at hx; subst hx; exact hp
        · have := hT.len
          rcases w5 with rfl | ⟨_, rfl⟩
          · omega
          · simp; omega)
      obtain ⟨S, hs2, hqS⟩ := hk q [] rfl
      rw [show (#[Value.int .i64 p.1, Value.int .i64 p.2] : Array Value) = [Value.int .i64 p.1, Value.int .i64 p.2].toArray from rfl, g2, bnd_some, wrap_in ((j : Int) + 1) (by omega) (by omega), ← e0]
      exact top_fly L k m0 hnl hpk go n (j + 1) σ2 fl2 (by omega) (by omega) hT2 (hR1.same hs2 hqS)

/-- What is sent comes straight: all of it is taken, and acked. -/
theorem top_straight (L k m0 : Nat) {σ0 : St} {a b c N : Nat} {s110 s111 : Int} {ad : Option Addr} {z : Nat} {q : List Nat} {sent base : Nat} {fl : List (Int × Int)} (hb : base ≤ sent)
    (go : ∀ σ' , Tw σ0 σ' a b c [] N sent sent sent fl → ∃ σ9, lpAt Try.prog env L (k + 5) 7 [true, true, true, true, true, true, true, true, false, true] [] m0 [(5, .pointer (some ⟨a, 0, none⟩)), (6, .pointer (some ⟨b, 0, none⟩)), (8, .int .i64 N), (110, .int .i64 s110), (111, .int .i64 (IntKind.wrap .i64 (s111 + 1)))] σ' = some (.bool true, σ9)) : ∀ (n j : Nat) (σ : St) (acked took : Nat), j ≤ sent - base → sent - base - j < n → Tw σ0 σ a b c [q] N sent acked took fl → base + j ≤ took → (j = 0 ∨ acked = took) → (j = 0 → base = acked) → Row c2 2 30 σ ad z q (packs (sq N) base (sent - base)) →
    ∃ σ9, lpAt Try.prog env L (k + 5) 7 [true, true, true, true, true, true, true, true, false, true, false, true, true, false, true] [m0] n [(5, .pointer (some ⟨a, 0, none⟩)), (6, .pointer (some ⟨b, 0, none⟩)), (8, .int .i64 N), (110, .int .i64 s110), (111, .int .i64 s111), (117, .slice ad (sent - base) z), (118, .int .i64 ((sent - base : Nat) : Int)), (119, .int .i64 j)] σ = some (.bool true, σ9)
  | 0, j, σ, acked, took, _, h, _, _, _, _, _ => by omega
  | n + 1, j, σ, acked, took, hj, h, hT, hbj, hat0, hz, hR => by
    rw [f7_l35]
    have h0 := hT.n0; have h1 := hT.n1; have h2 := hT.n2; have h3 := hT.n3
    by_cases hje : j = sent - base
    · rw [decide_eq_false (by omega), br_false]
      have e1 : took = sent := by omega
      have e2 : acked = sent := by
        rcases hat0 with h | h
        · have := hz h; omega
        · omega
      subst e1; subst e2
      exact go σ hT.less
    · have hpl : (packs (sq N) base (sent - base))[j]? = some (((base + j : Nat) : Int) + 1, ((base + j : Nat) : Int) * ((base + j : Nat) : Int)) := by
        rw [packs_get _ _ _ _ (by omega), sq_getD (by omega)]
      obtain ⟨q0, e0, hat⟩ := hR.lds c2_len hpl
      obtain ⟨σ1, p1, p2, p3, p4⟩ := tmp_put σ [Value.int IntKind.i64 0, Value.int IntKind.i64 0] [.int .i64 (((base + j : Nat) : Int) + 1), .int .i64 (((base + j : Nat) : Int) * ((base + j : Nat) : Int))] 30 rfl rfl
      have hT1 := hT.idle p3
      have hR1 := hR.same p3 (by simp)
      obtain ⟨took', σ2, g2, ht', hT2, hk2⟩ := hT1.take L (k + 4) (base + j) (by omega)
      have hR2 : Row c2 2 30 σ2 ad z q (packs (sq N) base (sent - base)) := by
        rcases hk2 q [] rfl with hs | ⟨S, hs, hq⟩
        · exact hR1.same hs (by simp)
        · exact hR1.same hs hq
      obtain ⟨σ3, g3, hT3, hk3⟩ := hT2.ack L (k + 4) took' (Nat.le_refl _)
      obtain ⟨S, hs3, hq3⟩ := hk3 q [] rfl
      have hmx : max acked took' = took' := by
        have : took ≤ took' := by rw [ht']; split <;> omega
        omega
      rw [hmx] at hT3
      rw [decide_eq_true (by omega), br_true, need_of (by simp [inRange]; omega), e0, adr_some, hat _ (by simp), show c2 (((base + j : Nat) : Int) + 1, ((base + j : Nat) : Int) * ((base + j : Nat) : Int)) = [.int .i64 (((base + j : Nat) : Int) + 1), .int .i64 (((base + j : Nat) : Int) * ((base + j : Nat) : Int))] from rfl, uncons_c, asI_i, uncons_c, asI_i, endl_n, p1, lds_all (n := 2) p2 rfl, uncons_c, asI_i, uncons_c, asI_i, endl_n,
        show (#[Value.int .i64 (((base + j : Nat) : Int) + 1), Value.int .i64 (((base + j : Nat) : Int) * ((base + j : Nat) : Int))] : Array Value) = [Value.int .i64 (((base + j : Nat) : Int) + 1), Value.int .i64 (((base + j : Nat) : Int) * ((base + j : Nat) : Int))].toArray from rfl, g2, bnd_some, asI_i, g3, bnd_some, wrap_in ((j : Int) + 1) (by omega) (by omega), ← e0]
      have hbt : base + (j + 1) ≤ took' := by rw [ht']; split <;> omega
      exact top_straight L k m0 hb go n (j + 1) σ3 took' took' (by omega) (by omega) hT3 hbt (.inr rfl) (fun h => by omega) (hR2.same hs3 hq3)

theorem top_got (L k : Nat) {σ : St} {a N : Nat} (hN : N ≤ 30) {qS : List Nat} (hS : Send σ a qS (sq N) N N) {ad : Option Addr} {z : Nat} {q : List Nat} (hR : Row c1 1 3 σ ad z q (sq N)) : ∀ n i : Nat, i ≤ N → N - i < n →
    ∃ σ9, lpAt Try.prog env L (k + 1) 7 [true, true, true, true, true, true, true, true, true, true, false, true] [] n [(5, .pointer (some ⟨a, 0, none⟩)), (8, .int .i64 N), (17, .slice ad N z), (133, .int .i64 N), (134, .int .i64 i)] σ = some (.bool true, σ9)
  | 0, i, _, h => by omega
  | n + 1, i, hi, h => by
    rw [f7_l42]
    by_cases hie : i = N
    · rw [decide_eq_false (by omega), br_false, counts_spec L k hS, bnd_some, asT_t, show (#[Value.int .i64 ((sq N).length : Int), .int .i64 (N : Int), .int .i64 (N : Int)] : Array Value).toList = [Value.int .i64 ((sq N).length : Int), .int .i64 (N : Int), .int .i64 (N : Int)] from rfl, uncons_c, asI_i, uncons_c, asI_i, uncons_c, asI_i, endl_n, show ((N : Int) == (N : Int)) = true by simp, br_true]
      exact ⟨σ, rfl⟩
    · obtain ⟨q0, e0, hat⟩ := hR.at c1_len (sq_get (n := N) (i := i) (by omega))
      have hii : (0 : Int) ≤ (i : Int) * i ∧ (i : Int) * i ≤ 900 := by
        have h2 : i * i ≤ 30 * 30 := Nat.mul_le_mul (by omega) (by omega)
        rw [← Int.natCast_mul]; omega
      rw [decide_eq_true (by omega), br_true, need_of (by simp [inRange]; omega), e0, adr_some, hat 0 (.int .i64 ((i : Int) * i)) _ (by omega) rfl (by simp), asI_i, wrap_in ((i : Int) * i) (by omega) (by omega), show ((i : Int) * i != (i : Int) * i) = false by simp, br_false, wrap_in ((i : Int) + 1) (by omega) (by omega), ← e0]
      exact top_got L k hN hS hR n (i + 1) (by omega) (by omega)

theorem top_rounds (L k : Nat) (hL : 100 < L) {σ0 : St} {a b c N : Nat} (hN : N ≤ 30) : ∀ (n i : Nat) (σ : St) (sent acked took : Nat) (fl : List (Int × Int)), i ≤ N → N - i < n → Tw σ0 σ a b c [] N sent acked took fl → i ≤ acked →
    ∃ σ9, lpAt Try.prog env L (k + 5) 7 [true, true, true, true, true, true, true, true, false, true] [] n [(5, .pointer (some ⟨a, 0, none⟩)), (6, .pointer (some ⟨b, 0, none⟩)), (8, .int .i64 N), (110, .int .i64 N), (111, .int .i64 i)] σ = some (.bool true, σ9)
  | 0, i, σ, sent, acked, took, fl, _, h, _, _ => by omega
  | n + 1, i, σ, sent, acked, took, fl, hi, h, hT, hia => by
    rw [f7_l33]
    have h1 := hT.n1; have h2 := hT.n2; have h3 := hT.n3; have h4 := hT.n4
    by_cases hie : i = N
    · have e1 : acked = N := by omega
      have e2 : took = N := by omega
      have e3 : sent = N := by omega
      subst e1; subst e2; subst e3
      obtain ⟨qS, qR, qL, hS, hR, hL', hO⟩ := hT.ex
      obtain ⟨ad, z, q, σ1, g1, hrow, hs, _⟩ := list_spec L (k + 3) hR (by rw [sq_len]; omega)
      rw [sq_len] at g1
      rw [decide_eq_false (by omega), br_false, g1, bnd_some, asSl_s]
      exact top_got L (k + 4) hN (hS.same hs (by simp) (by simp)) hrow L 0 (by omega) (by omega)
    · obtain ⟨sent', ad, z, n1, n2, ad1, z1, ad2, z2, q, σ1, σ2, σ3, g1, g2, g3, hs', hR, hT3⟩ := hT.both L (k + 3) hL
      rw [decide_eq_true (by omega), br_true, g1, bnd_some, asSl_s, g2, bnd_some, asSl_s, g3]
      refine top_straight L k n (base := acked) (sent := sent') (fl := fl) (by omega) (fun σ' hT' => ?_) L 0 σ3 acked took (by omega) (by omega) hT3 (by omega) (.inl rfl) (fun _ => rfl) hR
      rw [wrap_in ((i : Int) + 1) (by omega) (by omega)]
      exact top_rounds L k hL hN n (i + 1) σ' sent' sent' sent' fl (by omega) (by omega) hT' (by omega)

theorem top_loop (L k : Nat) (hL : 200 < L) {σ0 : St} {ad0 : Option Addr} {sc : List Fate} (hlen : sc.length ≤ 200) (hH : Holds σ0 5 c5f ad0 sc) {a b c N : Nat} (hN : N ≤ 30) : ∀ (n i : Nat) (σ : St) (sent acked took : Nat) (fl : List (Int × Int)), i ≤ sc.length → sc.length - i < n → Tw σ0 σ a b c [] N sent acked took fl →
    ∃ σ9, lpAt Try.prog env L (k + 5) 7 [true, true, true, true, true, true, true, false, true] [] n [(0, .slice ad0 sc.length 0), (5, .pointer (some ⟨a, 0, none⟩)), (6, .pointer (some ⟨b, 0, none⟩)), (7, .pointer (some ⟨c, 0, none⟩)), (8, .int .i64 N), (47, .int .i64 sc.length), (48, .int .i64 i)] σ = some (.bool true, σ9)
  | 0, i, σ, sent, acked, took, fl, _, h, _ => by omega
  | n + 1, i, σ, sent, acked, took, fl, hi, h, hT => by
    rw [f7_l14]
    by_cases hie : i = sc.length
    · rw [decide_eq_false (by omega), br_false]
      exact top_rounds L k (by omega) hN L 0 σ sent acked took fl (by omega) (by omega) hT (by omega)
    · have hget : sc[i]? = some sc[i] := List.getElem?_eq_getElem (by omega)
      obtain ⟨q0, e0, hat⟩ := hH.ld hT.kept hget
      generalize sc[i] = o at hat
      have hk0 := hat 0 (.int .i64 o.d.1) (0 + (i : Int).toNat * 5 + 0) (by omega) rfl (by omega)
      have hk1 := hat 1 (.int .i64 o.i.1) (0 + (i : Int).toNat * 5 + 1) (by omega) rfl (by omega)
      generalize o.d.1 = kd at hk0
      generalize o.i.1 = ix at hk1
      have hw : IntKind.wrap .i64 ((i : Int) + 1) = ((i + 1 : Nat) : Int) := by rw [wrap_in _ (by omega) (by omega)]; omega
      have go : ∀ (σ' : St) (sent' acked' took' : Nat) (fl' : List (Int × Int)), Tw σ0 σ' a b c [] N sent' acked' took' fl' →
          ∃ σ9, lpAt Try.prog env L (k + 5) 7 [true, true, true, true, true, true, true, false, true] [] n [(0, .slice ad0 sc.length 0), (5, .pointer (some ⟨a, 0, none⟩)), (6, .pointer (some ⟨b, 0, none⟩)), (7, .pointer (some ⟨c, 0, none⟩)), (8, .int .i64 N), (47, .int .i64 sc.length), (48, .int .i64 (IntKind.wrap .i64 ((i : Int) + 1)))] σ' = some (.bool true, σ9) := fun σ' sent' acked' took' fl' h' => by
        rw [hw]; exact top_loop L k hL hlen hH hN n (i + 1) σ' sent' acked' took' fl' (by omega) (by omega) h'
      rw [e0] at go
      rw [decide_eq_true (by omega), br_true, need_of (by simp [inRange]; omega), e0, adr_some, hk0, asI_i]
      by_cases hd1 : kd = 1
      · subst hd1
        have h3 := hT.n3; have h1 := hT.n1; have h2 := hT.n2
        obtain ⟨sent', ad, z, n1, n2, ad1, z1, ad2, z2, q, σ1, σ2, σ3, g1, g2, g3, hs', hR, hT3⟩ := hT.both L (k + 3) (by omega)
        rw [show ((1 : Int) == 1) = true from rfl, br_true, g1, bnd_some, asSl_s, g2, bnd_some, asSl_s, g3]
        have hpl := packs_length (sq N) (sent' - acked) acked
        have h3' := hT3.n3
        have := top_fly L k n (s0 := some ⟨q0, 0, none⟩) (s0n := sc.length) (s0z := 0) (s8 := N) (s47 := sc.length) (s48 := i) (news := packs (sq N) acked (sent' - acked)) (by omega) (sent := sent') (fun p hp => (packs_pk (by omega) p hp).mono (by omega)) (fun σ' fl' h' => go σ' _ _ _ fl' h') L 0 σ3 fl (by omega) (by omega) hT3 hR
        rw [hpl] at this
        exact this
      rw [show (kd == 1) = false by simpa using hd1, br_false]
      by_cases hd2 : kd = 2
      · subst hd2
        rw [show ((2 : Int) == 2) = true from rfl, br_true, need_of (by simp [inRange]; omega), adr_some, hk1, asI_i]
        obtain ⟨v, σ1, g1, hP, ⟨fl1, hT1⟩, _⟩ := hT.link (P := fun v => (∃ p, Pk sent p ∧ v = .tuple #[.agg #[.int .i64 p.1, .int .i64 p.2], .nilIface]) ∨ ∃ w, v = .tuple #[.agg #[.int .i64 0, .int .i64 0], .iface 68 w]) (r := evCall Try.prog env L (k + 5) 18 [.pointer (some ⟨c, 0, none⟩), .int .i64 ix] σ) (fun qL hK => by
          rcases deliver2_spec L k hK (by have := hT.len; omega) ix with ⟨p, hp, σ', w1, w2, w3⟩ | ⟨w, σ', w1, w2⟩
          · exact ⟨_, σ', w1, qL, _, .inl ⟨p, hT.pk p hp, rfl⟩, w2, w3, fun q hq => .inl hq, fun x hx => hT.pk x (List.mem_of_mem_eraseIdx hx), by have := hT.len; have := List.length_eraseIdx_le fl ix.toNat; omega⟩
          · exact ⟨_, σ', w1, qL, _, .inr ⟨w, rfl⟩, hK.idle w2, w2.mono (by simp), fun q hq => .inl hq, hT.pk, hT.len⟩)
        rw [g1, bnd_some]
        rcases hP with ⟨p, ⟨j, rfl, hj⟩, rfl⟩ | ⟨w, rfl⟩
        · obtain ⟨σ2, p1, p2, p3, p4⟩ := tmp_put σ1 [Value.int IntKind.i64 0, Value.int IntKind.i64 0] [.int .i64 ((j : Int) + 1), .int .i64 ((j : Int) * j)] 30 rfl rfl
          have hT2 := hT1.idle p3
          obtain ⟨took', σ3, g3, _, hT3, _⟩ := hT2.take L (k + 4) j hj
          obtain ⟨σ4, g4, hT4, _⟩ := hT3.ack L (k + 4) took' (Nat.le_refl _)
          rw [asT_t, toList2, uncons_c, asAgL_a, toList2, uncons_c, asI_i, uncons_c, asI_i, endl_n, uncons_c, endl_n, p1, eqNil_nil, br_true, lds_all (n := 2) p2 rfl, uncons_c, asI_i, uncons_c, asI_i, endl_n,
            show (#[Value.int .i64 ((j : Int) + 1), Value.int .i64 ((j : Int) * j)] : Array Value) = [Value.int .i64 ((j : Int) + 1), Value.int .i64 ((j : Int) * j)].toArray from rfl, g3, bnd_some, asI_i, g4, bnd_some]
          exact go σ4 _ _ _ _ hT4
        · obtain ⟨σ2, p1, p2, p3, p4⟩ := tmp_put σ1 [Value.int IntKind.i64 0, Value.int IntKind.i64 0] [.int .i64 0, .int .i64 0] 30 rfl rfl
          rw [asT_t, toList2, uncons_c, asAgL_a, toList2, uncons_c, asI_i, uncons_c, asI_i, endl_n, uncons_c, endl_n, p1, eqNil_iface, br_false]
          exact go σ2 _ _ _ _ (hT1.idle p3)
      rw [show (kd == 2) = false by simpa using hd2, br_false]
      by_cases hd3 : kd = 3
      · subst hd3
        rw [show ((3 : Int) == 3) = true from rfl, br_true, need_of (by simp [inRange]; omega), adr_some, hk1, asI_i]
        obtain ⟨v, σ1, g1, _, ⟨fl1, hT1⟩, _⟩ := hT.link (P := fun _ => True) (r := evCall Try.prog env L (k + 5) 19 [.pointer (some ⟨c, 0, none⟩), .int .i64 ix] σ) (fun qL hK => by
          rcases drop2_spec L (k + 1) hK (by have := hT.len; omega) ix with ⟨_, _, σ', w1, w2, w3⟩ | ⟨_, w, σ', w1, w2⟩
          · exact ⟨_, σ', w1, qL, _, trivial, w2, w3, fun q hq => .inl hq, fun x hx => hT.pk x (List.mem_of_mem_eraseIdx hx), by have := hT.len; have := List.length_eraseIdx_le fl ix.toNat; omega⟩
          · exact ⟨_, σ', w1, qL, _, trivial, hK.idle w2, w2.mono (by simp), fun q hq => .inl hq, hT.pk, hT.len⟩)
        rw [g1, bnd_some]
        exact go σ1 _ _ _ _ hT1
      rw [show (kd == 3) = false by simpa using hd3, br_false]
      by_cases hd4 : kd = 4
      · subst hd4
        rw [show ((4 : Int) == 4) = true from rfl, br_true, need_of (by simp [inRange]; omega), adr_some, hk1, asI_i]
        obtain ⟨v, σ1, g1, _, ⟨fl1, hT1⟩, _⟩ := hT.link (P := fun _ => True) (r := evCall Try.prog env L (k + 5) 20 [.pointer (some ⟨c, 0, none⟩), .int .i64 ix] σ) (fun qL hK => by
          obtain ⟨v, qs', l', σ', w1, w2, w3, w4, w5⟩ := double2_spec L (k + 1) hK (by have := hT.len; omega) ix
          refine ⟨v, σ', w1, qs', l', trivial, w2, w3, w4, ?_, ?_⟩
          · rcases w5 with rfl | ⟨p, hp, _, rfl⟩
            · exact hT.pk
            · intro x hx
              rcases List.mem_append.1 hx with hx | hx
              · exact hT.pk x hx
              · simp at hx; subst hx; exact hT.pk _ hp
          · have := hT.len
            rcases w5 with rfl | ⟨p, hp, _, rfl⟩
            · omega
            · simp; omega)
        rw [g1, bnd_some]
        exact go σ1 _ _ _ _ hT1
      · rw [show (kd == 4) = false by simpa using hd4, br_false]
        exact go σ _ _ _ _ hT

theorem top_push (L k : Nat) (hL : 200 < L) {σ0 : St} {ad0 : Option Addr} {sc : List Fate} (hlen : sc.length ≤ 200) (hH : Holds σ0 5 c5f ad0 sc) {a b c N : Nat} (hN : N ≤ 30) {qR qL : List Nat} : ∀ (n i : Nat) (σ : St) (qS : List Nat), i ≤ N → N - i < n → Send σ a qS (sq i) 0 0 → Recv σ b qR [] → Link2 σ c qL [] 500 → Owns σ0 σ [a :: qS, b :: qR, c :: qL] →
    ∃ σ9, lpAt Try.prog env L (k + 5) 7 [true, true, true, true, true, true, false, true] [] n [(0, .slice ad0 sc.length 0), (5, .pointer (some ⟨a, 0, none⟩)), (6, .pointer (some ⟨b, 0, none⟩)), (7, .pointer (some ⟨c, 0, none⟩)), (8, .int .i64 N), (36, .int .i64 N), (37, .int .i64 i)] σ = some (.bool true, σ9)
  | 0, i, σ, qS, _, h, _, _, _, _ => by omega
  | n + 1, i, σ, qS, hi, h, hS, hR, hK, hO => by
    rw [f7_l9]
    by_cases hie : i = N
    · rw [decide_eq_false (by omega), br_false]
      subst hie
      exact top_loop L k hL hlen hH hN L 0 σ 0 0 0 [] (by omega) (by omega) ⟨⟨qS, qR, qL, hS, hR, hK, hO⟩, by simp, by simp, hN, by omega, by omega, by omega, by omega⟩
    · have hii : (0 : Int) ≤ (i : Int) * i ∧ (i : Int) * i ≤ 900 := by
        have h2 : i * i ≤ 30 * 30 := Nat.mul_le_mul (by omega) (by omega)
        rw [← Int.natCast_mul]; omega
      obtain ⟨qS', σ1, g1, g2, g3, g4⟩ := push_spec L (k + 4) hS (by rw [sq_len]; omega) ((i : Int) * i)
      rw [← sq_succ] at g2
      have hsl : ∀ q ∈ qS', q < σ1.next := by obtain ⟨_, _, _, hr⟩ := g2.ex; exact hr.lt
      have hT : Turn σ σ1 (a :: qS) (a :: qS') := turn_of g3 g2.lt hsl g4
      have o1 := hO.off 1 0 (by omega) rfl rfl
      have o2 := hO.off 2 0 (by omega) rfl rfl
      rw [decide_eq_true (by omega), br_true, wrap_in ((i : Int) * i) (by omega) (by omega), g1, bnd_some, asT_t, toList0, endl_n, wrap_in ((i : Int) + 1) (by omega) (by omega)]
      exact top_push L k hL hlen hH hN n (i + 1) σ1 qS' (by omega) (by omega) g2 (hR.same g3 (o1 b (by simp)) (fun q hq => o1 q (by simp [hq]))) (hK.same g3 (o2 c (by simp)) (fun q hq => o2 q (by simp [hq]))) (hO.turned 0 rfl hT)

theorem top {σ0 : St} {ad0 : Option Addr} {sc : List Fate} (hH : Holds σ0 5 c5f ad0 sc) (many : Int) (hm : 0 ≤ many ∧ many ≤ 255) : ∃ σ', evCall Try.prog env 10000 12 7 [.slice ad0 sc.length 0, .int .u8 many] σ0 = some (.bool true, σ') := by
  obtain ⟨m, rfl⟩ := Int.eq_ofNat_of_zero_le hm.1
  rw [f7_eq]
  generalize hσ1 : σ0.new (Blk.own [Value.slice none 0 0, Value.int .i64 0, Value.int .i64 0] 35) = σ1
  have hn1 : σ1.get σ0.next = some (Blk.own [Value.slice none 0 0, Value.int .i64 0, Value.int .i64 0] 35) := by rw [← hσ1, get_new_same]
  have hs1 : Same σ0 σ1 [] := by rw [← hσ1]; exact Same.new _ _ _
  have hx1 : σ1.next = σ0.next + 1 := by rw [← hσ1]; rfl
  generalize hσ2 : σ1.new (Blk.own [Value.slice none 0 0] 27) = σ2
  have hn2 : σ2.get σ1.next = some (Blk.own [Value.slice none 0 0] 27) := by rw [← hσ2, get_new_same]
  have hs2 : Same σ1 σ2 [] := by rw [← hσ2]; exact Same.new _ _ _
  have hx2 : σ2.next = σ1.next + 1 := by rw [← hσ2]; rfl
  obtain ⟨σ3, g3, hK, hs3⟩ := new2_spec 10000 10 σ2 500 (by omega) (by omega)
  have hx3 := hK.lt
  have hO : Owns σ0 σ3 [[σ0.next], [σ1.next], [σ2.next]] :=
    ((((Owns.start σ0).more (F := [σ0.next]) hs1 (by intro q hq; simp at hq; omega)).more (F := [σ1.next]) hs2 (by intro q hq; simp at hq; omega)).more (F := [σ2.next]) hs3 (by intro q hq; simp at hq; omega)).pick [2, 1, 0] (by decide)
  have hS : Send σ3 σ0.next [] (sq 0) 0 0 := ⟨⟨none, 0, by rw [hs3.2 _ (by omega) (by simp), hs2.2 _ (by omega) (by simp)]; exact hn1, Row.nil _ _ _ _⟩, by omega, by simp⟩
  have hR : Recv σ3 σ1.next [] [] := ⟨⟨none, 0, by rw [hs3.2 _ (by omega) (by simp)]; exact hn2, Row.nil _ _ _ _⟩, by omega, by simp⟩
  rw [g3, bnd_some, asP_p, show (some (⟨σ2.next, 0, none⟩ : Addr)).isNone = false from rfl, br_false]
  by_cases hl : (sc.length : Int) > 200
  · rw [decide_eq_true hl, br_true]; exact ⟨σ3, rfl⟩
  · have hN : IntKind.wrap .i64 ((1 : Int) + Int.tmod (IntKind.wrap .i64 (m : Int)) 30) = ((1 + m % 30 : Nat) : Int) := by
      rw [wrap_in (m : Int) (by omega) (by omega), show Int.tmod (m : Int) 30 = ((m % 30 : Nat) : Int) from rfl, wrap_in _ (by omega) (by omega)]; omega
    rw [decide_eq_false hl, br_false, hN]
    exact top_push 10000 6 (by omega) (by omega) hH (by omega) 10000 0 σ3 [] (by omega) (by omega) hS hR hK hO

end Go.AM
