/-
  WindowLossy: the rounds.
-/
import Derived.Test.YtmmjibadpdbkaaaWinG
set_option linter.unusedVariables false
set_option linter.unusedSimpArgs false
namespace Go.AM
open Go.Proofs

theorem lossy_loop (L k : Nat) (hL : 5000 < L) {σ0 : St} {ad0 : Option Addr} {script : List (Int × Int)} (hlen : script.length ≤ 400) (hH : Holds σ0 2 c2 ad0 script) (hw : ∀ p ∈ script, -9223372036854775808 ≤ p.2 ∧ p.2 ≤ 9223372036854775807) : ∀ (n i : Nat) (σ : St) (a b : Nat) (adF : Option Addr) (zF : Nat) (fl : List (Int × Int)) (adA : Option Addr) (zA : Nat) (ac : List Int) (many sent acked took : Nat),
    i ≤ script.length → script.length - i < n → many ≤ i → fl.length ≤ 2004 + 4 * i → ac.length ≤ i → Lossy σ0 σ a b adF zF fl adA zA ac many sent acked took →
    ∃ σ9, lpAt Try.prog env L (k + 2) 5 [true, true, true, true, true, true, false, true] [] n [(0, .slice ad0 script.length 0), (3, .pointer (some ⟨a, 0, none⟩)), (4, .pointer (some ⟨b, 0, none⟩)), (5, .slice adF fl.length zF), (6, .slice adA ac.length zA), (7, .int .i64 many), (27, .int .i64 script.length), (28, .int .i64 i)] σ = some (.bool true, σ9)
  | 0, i, σ, a, b, adF, zF, fl, adA, zA, ac, many, sent, acked, took, _, h, _, _, _, _ => by omega
  | n + 1, i, σ, a, b, adF, zF, fl, adA, zA, ac, many, sent, acked, took, h1, h2, h3, h4, h5, hI => by
    rw [f5_l8]
    by_cases hi : i = script.length
    · subst hi
      rw [decide_eq_false (by omega), br_false]
      exact ⟨σ, rfl⟩
    · have hget : script[i]? = some script[i] := List.getElem?_eq_getElem (by omega)
      have hwi := hw _ (List.getElem_mem (show i < script.length by omega))
      generalize hp : script[i] = p at hget hwi
      obtain ⟨q0, e0, hat⟩ := hH.ld hI.kept hget
      obtain ⟨dd, kk⟩ := p
      simp only at hwi
      rw [decide_eq_true (by omega), br_true, need_of (by simp [inRange]; omega), e0, adr_some, hat 0 (.int .i64 dd) _ (by omega) rfl (by simp), asI_i]
      have hn1 := hI.n1; have hn2 := hI.n2; have hn3 := hI.n3; have hn4 := hI.n4
      obtain ⟨c, qS, qR, rF, rA, hS, hR, hF, hA, e1, e2, e3, e4, e5, e6, e7⟩ := hI.ex
      have hSlt : ∀ q ∈ qS, q < σ.next := hS.ex.choose_spec.choose_spec.2.lt
      have hRlt : ∀ q ∈ qR, q < σ.next := hR.ex.choose_spec.choose_spec.2.lt
      have halt := hS.lt
      have hblt := hR.lt
      -- the next round
      have go : ∀ (σ' : St) (adF' : Option Addr) (zF' : Nat) (fl' : List (Int × Int)) (adA' : Option Addr) (zA' : Nat) (ac' : List Int) (many' sent' acked' took' : Nat), many' ≤ i + 1 → fl'.length ≤ 2004 + 4 * (i + 1) → ac'.length ≤ i + 1 → Lossy σ0 σ' a b adF' zF' fl' adA' zA' ac' many' sent' acked' took' →
          ∃ σ9, lpAt Try.prog env L (k + 2) 5 [true, true, true, true, true, true, false, true] [] n [(0, .slice (some ⟨q0, 0, none⟩) script.length 0), (3, .pointer (some ⟨a, 0, none⟩)), (4, .pointer (some ⟨b, 0, none⟩)), (5, .slice adF' fl'.length zF'), (6, .slice adA' ac'.length zA'), (7, .int .i64 many'), (27, .int .i64 script.length), (28, .int .i64 ((i : Int) + 1))] σ' = some (.bool true, σ9) := by
        intro σ' adF' zF' fl' adA' zA' ac' many' sent' acked' took' g1 g2 g3 g4
        have := lossy_loop L k hL hlen hH hw n (i + 1) σ' a b adF' zF' fl' adA' zA' ac' many' sent' acked' took' (by omega) (by omega) g1 g2 g3 g4
        rw [show ((i + 1 : Nat) : Int) = (i : Int) + 1 by omega, e0] at this
        exact this
      have same := lossy_tail L k hL (s0 := some ⟨q0, 0, none⟩) (s0n := script.length) (s0z := 0) (s27 := script.length) (i := i) (n := n) (by omega) (by omega) hI (fun σ' h' => go σ' _ _ _ _ _ _ _ _ _ _ (by omega) (by omega) (by omega) h')
      by_cases hd1 : dd = 1
      · -- Push
        subst hd1
        rw [show ((1 : Int) == 1) = true from rfl, br_true, wrap_in ((many : Int) + 1) (by omega) (by omega), wrap_in (((many : Int) + 1) * 3) (by omega) (by omega)]
        obtain ⟨qS', σ1, g1, g2, g3, g4⟩ := push_spec L (k + 1) hS (by rw [thr_length]; omega) (((many : Int) + 1) * 3)
        rw [Int.mul_comm, thr_snoc] at g2
        rw [g1, bnd_some, asT_t, show (#[] : Array Value).toList = [] from rfl, endl_n]
        have hI1 : Lossy σ0 σ1 a b adF zF fl adA zA ac (many + 1) sent acked took := by
          have hc : ∀ x, x < σ.next → (fun q => if σ.next ≤ q then 2 else c q) x = c x := fun x hx => by simp; omega
          refine ⟨hI.kept.step g3 (fun x hx => ?_), ⟨fun q => if σ.next ≤ q then 2 else c q, qS', qR, rF, rA, g2, hR.same g3 ?_ ?_, hF.same g3 ?_, hA.same g3 ?_, ?_, ?_, ?_, ?_, ?_, ?_, ?_⟩, hI.fl, hI.ac, hn1, hn2, by omega, hn4⟩
          · rcases Nat.lt_or_ge x σ0.next with h | h
            · have := e7 x h
              rcases List.mem_cons.1 hx with rfl | hx
              · omega
              · have := e3 x hx; omega
            · exact h
          · intro h; rcases List.mem_cons.1 h with rfl | h; omega; have := e3 b h; omega
          · intro q hq h; have := e4 q hq; rcases List.mem_cons.1 h with rfl | h; omega; have := e3 q h; omega
          · intro q hq h; have := e5 q hq; rcases List.mem_cons.1 h with rfl | h; omega; have := e3 q h; omega
          · intro q hq h; have := e6 q hq; rcases List.mem_cons.1 h with rfl | h; omega; have := e3 q h; omega
          · rw [hc a halt, e1]
          · rw [hc b hblt, e2]
          · intro q hq; rcases g4 q hq with h | h
            · rw [hc q (hSlt q h), e3 q h]
            · simp [h]
          · intro q hq; rw [hc q (hRlt q hq), e4 q hq]
          · intro q hq; rw [hc q (hF.lt q hq), e5 q hq]
          · intro q hq; rw [hc q (hA.lt q hq), e6 q hq]
          · intro q hq; rw [hc q (by have := hI.kept.1; omega), e7 q hq]
        exact lossy_tail L k hL (s0 := some ⟨q0, 0, none⟩) (s0n := script.length) (s0z := 0) (s27 := script.length) (i := i) (n := n) (many := many + 1) (by omega) (by omega) hI1 (fun σ' h' => go σ' _ _ _ _ _ _ _ _ _ _ (by omega) (by omega) (by omega) h')
      · rw [show (dd == 1) = false by simpa using hd1, br_false]
        -- what a new colour leaves
        have col : ∀ K x, x < σ.next → (fun q => if σ.next ≤ q then K else c q) x = c x := fun K x hx => by simp; omega
        have hbase : ∀ x, c x ≠ 9 → σ0.next ≤ x := fun x hx => by
          rcases Nat.lt_or_ge x σ0.next with h | h
          · exact absurd (e7 x h) hx
          · exact h
        -- what flies is more
        have fly : ∀ (m : Nat) (news : List (Int × Int)) (σ1 : St) (S : List Nat) (sent' : Nat), m = news.length → m ≤ 2100 → (∀ x ∈ S, x = a) → Same σ σ1 S → Send σ1 a qS (thr many) sent' acked → (∀ p ∈ news, ∃ j : Nat, p = ((j : Int) + 1, 3 * ((j : Int) + 1)) ∧ j < sent') →
            sent ≤ sent' → sent' ≤ many → sent' ≤ acked + 4 → fl.length + m ≤ 2004 + 4 * (i + 1) →
            ∃ adF' zF' σ2, (∀ K, grow 30 2 16 adF fl.length zF m (news.flatMap c2) σ1 K = K adF' (fl ++ news).length zF' σ2) ∧ Lossy σ0 σ2 a b adF' zF' (fl ++ news) adA zA ac many sent' acked took := by
          intro m news σ1 S sent' hm hm2 hSa hs1 hS1 hnews f1 f2 f3 f4
          have haS : ∀ x, c x ≠ 0 → x ∉ S := fun x hx h => by rw [hSa x h] at hx; omega
          have hF1 := hF.same hs1 (fun q hq => haS q (by have := e5 q hq; omega))
          obtain ⟨adF', zF', rF', σ2, w1, w2, w3, w4⟩ := grow_row (by_ := 16) hF1 c2_len c2_one (by omega) news _ rfl m hm (by unfold roomTop; omega) (by unfold sizeTop; omega)
          have hnF : ∀ x, x < σ.next → c x ≠ 4 → x ∉ rF := fun x _ hx h => hx (e5 x h)
          refine ⟨adF', zF', σ2, fun K => by rw [w1, List.length_append, hm], ⟨(hI.kept.step hs1 (fun x hx => hbase x (by rw [hSa x hx]; omega))).step w3 (fun x hx => hbase x (by have := e5 x hx; omega)), ⟨fun q => if σ.next ≤ q then 4 else c q, qS, qR, rF', rA, hS1.same w3 (hnF a halt (by omega)) (fun q hq => hnF q (hSlt q hq) (by have := e3 q hq; omega)),
            (hR.same hs1 (haS b (by omega)) (fun q hq => haS q (by have := e4 q hq; omega))).same w3 (hnF b hblt (by omega)) (fun q hq => hnF q (hRlt q hq) (by have := e4 q hq; omega)), w2, (hA.same hs1 (fun q hq => haS q (by have := e6 q hq; omega))).same w3 (fun q hq => hnF q (hA.lt q hq) (by have := e6 q hq; omega)), ?_, ?_, ?_, ?_, ?_, ?_, ?_⟩, ?_, hI.ac, hn1, by omega, f2, f3⟩⟩
          · rw [col 4 a halt, e1]
          · rw [col 4 b hblt, e2]
          · intro q hq; rw [col 4 q (hSlt q hq), e3 q hq]
          · intro q hq; rw [col 4 q (hRlt q hq), e4 q hq]
          · intro q hq; rcases w4 q hq with h | h
            · rw [col 4 q (hF.lt q h), e5 q h]
            · have := hs1.1; simp; omega
          · intro q hq; rw [col 4 q (hA.lt q hq), e6 q hq]
          · intro q hq; rw [col 4 q (by have := hI.kept.1; omega), e7 q hq]
          · intro p hp
            rcases List.mem_append.1 hp with hp | hp
            · obtain ⟨j, u1, u2⟩ := hI.fl p hp; exact ⟨j, u1, by omega⟩
            · exact hnews p hp
        by_cases hd2 : dd = 2
        · -- Send
          subst hd2
          rw [show ((2 : Int) == 2) = true from rfl, br_true]
          obtain ⟨adO, zO, rs, σ1, g1, hO, hS1, hs1, _⟩ := send_spec L k hS (by rw [thr_length]; omega) (by rw [thr_length]; omega) (by omega) (by rw [thr_length]; omega)
          rw [thr_length] at g1 hO hS1
          generalize hs' : max sent (min many (acked + 4)) = s' at g1 hO hS1
          rw [g1, bnd_some, asSl_s, hO.read c2_len _ (by rw [packs_length])]
          obtain ⟨adF', zF', σ2, w1, w2⟩ := fly (s' - sent) (packs (thr many) sent (s' - sent)) σ1 [a] s' (by rw [packs_length]) (by omega) (by simp) hs1 hS1 (fun p hp => by obtain ⟨j, u1, u2⟩ := packs_mem (m := many) (s' - sent) sent (by omega) p hp; exact ⟨j, u1, by omega⟩) (by omega) (by omega) (by omega) (by omega)
          rw [w1]
          exact lossy_tail L k hL (s0 := some ⟨q0, 0, none⟩) (s0n := script.length) (s0z := 0) (s27 := script.length) (i := i) (n := n) (by omega) (by omega) w2 (fun σ' h' => go σ' _ _ _ _ _ _ _ _ _ _ (by omega) (by rw [List.length_append, packs_length]; omega) (by omega) h')
        · rw [show (dd == 2) = false by simpa using hd2, br_false]
          by_cases hd3 : dd = 3
          · -- Resend
            subst hd3
            rw [show ((3 : Int) == 3) = true from rfl, br_true]
            by_cases hfl : fl.length < 2000
            · rw [decide_eq_true (by omega), br_true]
              obtain ⟨adO, zO, rs, σ1, g1, hO, hS1, hs1, _⟩ := resend_spec L k hS (by rw [thr_length]; omega) (by rw [thr_length]; omega) (by omega) (by rw [thr_length]; omega)
              rw [g1, bnd_some, asSl_s, hO.read c2_len _ (by rw [packs_length])]
              obtain ⟨adF', zF', σ2, w1, w2⟩ := fly (sent - acked) (packs (thr many) acked (sent - acked)) σ1 [] sent (by rw [packs_length]) (by omega) (by simp) hs1 hS1 (fun p hp => by obtain ⟨j, u1, u2⟩ := packs_mem (m := many) (sent - acked) acked (by omega) p hp; exact ⟨j, u1, by omega⟩) (by omega) (by omega) (by omega) (by omega)
              rw [w1]
              exact lossy_tail L k hL (s0 := some ⟨q0, 0, none⟩) (s0n := script.length) (s0z := 0) (s27 := script.length) (i := i) (n := n) (by omega) (by omega) w2 (fun σ' h' => go σ' _ _ _ _ _ _ _ _ _ _ (by omega) (by rw [List.length_append, packs_length]; omega) (by omega) h')
            · rw [decide_eq_false (by omega), br_false]
              exact same
          · rw [show (dd == 3) = false by simpa using hd3, br_false]
            have hkk := hat 1 (.int .i64 kk) (0 + (i : Int).toNat * 2 + 1) (by omega) rfl (by simp)
            by_cases hd4 : dd = 4
            · -- a packet comes
              subst hd4
              rw [show ((4 : Int) == 4) = true from rfl, br_true, need_of (by simp [inRange]; omega), adr_some, hkk, asI_i]
              by_cases hk0 : kk ≥ 0
              · rw [decide_eq_true hk0, br_true, need_of (by simp [inRange]; omega), adr_some, hkk, asI_i]
                by_cases hk1 : kk < (fl.length : Int)
                · rw [decide_eq_true hk1, br_true, need_of (by simp [inRange]; omega), adr_some, hkk, asI_i, need_of (by simp [inRange]; omega)]
                  have hj : kk.toNat < fl.length := by omega
                  obtain ⟨qF, eF, hlds⟩ := hF.lds c2_len (List.getElem?_eq_getElem hj)
                  obtain ⟨j, ej, hjs⟩ := hI.fl _ (List.getElem_mem hj)
                  rw [ej] at hlds
                  rw [eF, adr_some, hlds _ (by simp)]
                  rw [show c2 ((j : Int) + 1, 3 * ((j : Int) + 1)) = [Value.int .i64 ((j : Int) + 1), Value.int .i64 (3 * ((j : Int) + 1))] from rfl, uncons_c, asI_i, uncons_c, asI_i, endl_n]
                  obtain ⟨qR', σ1, g1, g2, g3, g4⟩ := take_spec L (k + 1) hR (by rw [thr_length]; omega) ((j : Int) + 1) (3 * ((j : Int) + 1))
                  rw [thr_length] at g1 g2
                  obtain ⟨took', ht1, ht2, ht3⟩ : ∃ took' : Nat, (if (j : Int) + 1 = (took : Int) + 1 then thr took ++ [3 * ((j : Int) + 1)] else thr took) = thr took' ∧ took ≤ took' ∧ took' ≤ sent := by
                    by_cases hjt : j = took
                    · subst hjt; exact ⟨j + 1, by rw [if_pos rfl, thr_snoc], by omega, by omega⟩
                    · exact ⟨took, by rw [if_neg (by omega)], by omega, by omega⟩
                  rw [ht1] at g1 g2
                  rw [show evCall Try.prog env L (k + 2) 9 [Value.pointer (some ⟨b, 0, none⟩), Value.agg #[Value.int .i64 ((j : Int) + 1), Value.int .i64 (3 * ((j : Int) + 1))]] σ = _ from g1, bnd_some, asI_i, thr_length, ← eF]
                  generalize hσ2 : σ1.new (Blk.own [Value.int IntKind.i64 (took' : Int)] 3) = σ2
                  have hnew : σ2.get σ1.next = some (Blk.own [Value.int IntKind.i64 (took' : Int)] 3) := by rw [← hσ2, get_new_same]
                  have hs2 : ∀ S, Same σ1 σ2 S := fun S => by rw [← hσ2]; exact Same.new _ _ _
                  rw [row_one hnew]
                  have hnR : ∀ x, c x ≠ 1 → c x ≠ 3 → x ∉ b :: qR := fun x u1 u2 h => by
                    rcases List.mem_cons.1 h with rfl | h
                    · exact u1 e2
                    · exact u2 (e4 x h)
                  have hA2 := (hA.same g3 (fun q hq => hnR q (by have := e6 q hq; omega) (by have := e6 q hq; omega))).same (hs2 []) (by simp)
                  obtain ⟨adA', zA', rA', σ3, w1, w2, w3, w4⟩ := grow_row (by_ := 8) hA2 c1_len c1_one (by omega) [(took' : Int)] [Value.int .i64 (took' : Int)] rfl 1 rfl (by unfold roomTop; omega) (by unfold sizeTop; omega)
                  rw [w1]
                  have h12 : Same σ σ2 (b :: qR) := g3.trans (hs2 _)
                  have hn12 : σ.next ≤ σ2.next := h12.1
                  have hnA : ∀ x, c x ≠ 5 → x ∉ rA := fun x hx h => hx (e6 x h)
                  have hqR : ∀ q ∈ qR', (if σ.next ≤ q then (if σ2.next ≤ q then 5 else 3) else c q) = 3 := fun q hq => by
                    have hq1 := g2.ex.choose_spec.choose_spec.2.lt q hq
                    have hq2 := (hs2 []).1
                    rcases g4 q hq with h | h
                    · rw [if_neg (by have := hRlt q h; omega), e4 q h]
                    · rw [if_pos h, if_neg (by omega)]
                  have hqR5 : ∀ q ∈ qR', q ∉ rA := fun q hq h => by
                    have u1 := e6 q h
                    have u2 := hA.lt q h
                    rcases g4 q hq with h' | h'
                    · have := e4 q h'; omega
                    · omega
                  have hIn : Lossy σ0 σ3 a b adF zF fl adA' zA' (ac ++ [(took' : Int)]) many sent acked took' := by
                    refine ⟨((hI.kept.step g3 (fun x hx => hbase x (by rcases List.mem_cons.1 hx with rfl | h; omega; have := e4 x h; omega))).step (hs2 []) (by simp)).step w3 (fun x hx => hbase x (by have := e6 x hx; omega)),
                      ⟨fun q => if σ.next ≤ q then (if σ2.next ≤ q then 5 else 3) else c q, qS, qR', rF, rA', (hS.same h12 (hnR a (by omega) (by omega)) (fun q hq => hnR q (by have := e3 q hq; omega) (by have := e3 q hq; omega))).same w3 (hnA a (by omega)) (fun q hq => hnA q (by have := e3 q hq; omega)),
                      (g2.same (hs2 []) (by simp) (by simp)).same w3 (hnA b (by omega)) hqR5, (hF.same h12 (fun q hq => hnR q (by have := e5 q hq; omega) (by have := e5 q hq; omega))).same w3 (fun q hq => hnA q (by have := e5 q hq; omega)), w2, ?_, ?_, ?_, hqR, ?_, ?_, ?_⟩, fun p hp => hI.fl p hp, ?_, by omega, ht3, hn3, hn4⟩
                    · simp only []; rw [if_neg (by omega), e1]
                    · simp only []; rw [if_neg (by omega), e2]
                    · intro q hq; simp only []; rw [if_neg (by have := hSlt q hq; omega), e3 q hq]
                    · intro q hq; simp only []; rw [if_neg (by have := hF.lt q hq; omega), e5 q hq]
                    · intro q hq; simp only []
                      rcases w4 q hq with h | h
                      · rw [if_neg (by have := hA.lt q h; omega), e6 q h]
                      · rw [if_pos (by omega), if_pos h]
                    · intro q hq; simp only []; rw [if_neg (by have := hI.kept.1; omega), e7 q hq]
                    · intro x hx
                      rcases List.mem_append.1 hx with hx | hx
                      · have := hI.ac x hx; omega
                      · simp at hx; subst hx; omega
                  have hln : (ac ++ [(took' : Int)]).length = ac.length + 1 := by simp
                  rw [← hln]
                  exact lossy_tail L k hL (s0 := some ⟨q0, 0, none⟩) (s0n := script.length) (s0z := 0) (s27 := script.length) (i := i) (n := n) (by omega) (by omega) hIn (fun σ' h' => go σ' _ _ _ _ _ _ _ _ _ _ (by omega) (by omega) (by rw [hln]; omega) h')
                · rw [decide_eq_false hk1, br_false]
                  exact same
              · rw [decide_eq_false hk0, br_false]
                exact same
            · rw [show (dd == 4) = false by simpa using hd4, br_false]
              by_cases hd5 : dd = 5
              · -- an answer comes
                subst hd5
                rw [show ((5 : Int) == 5) = true from rfl, br_true, need_of (by simp [inRange]; omega), adr_some, hkk, asI_i]
                by_cases hk0 : kk ≥ 0
                · rw [decide_eq_true hk0, br_true, need_of (by simp [inRange]; omega), adr_some, hkk, asI_i]
                  by_cases hk1 : kk < (ac.length : Int)
                  · rw [decide_eq_true hk1, br_true, need_of (by simp [inRange]; omega), adr_some, hkk, asI_i, need_of (by simp [inRange]; omega)]
                    have hj : kk.toNat < ac.length := by omega
                    obtain ⟨qA, eA, hld⟩ := hA.at c1_len (List.getElem?_eq_getElem hj)
                    have hy := hI.ac _ (List.getElem_mem hj)
                    generalize ac[kk.toNat] = y at hld hy
                    rw [eA, adr_some, hld 0 (.int .i64 y) _ (by omega) rfl (by simp), asI_i, ← eA]
                    obtain ⟨σ1, g1, g2, g3⟩ := ack_spec L (k + 1) hS y hy.1 (by omega)
                    obtain ⟨Y, hY⟩ := Int.eq_ofNat_of_zero_le hy.1
                    have hmx : mx (acked : Int) y = ((max acked Y : Nat) : Int) := by unfold mx; split <;> omega
                    rw [hmx] at g2
                    rw [g1, bnd_some, eqNil_nil, show (!true) = false from rfl, br_false]
                    have hna : ∀ x, c x ≠ 0 → x ∉ [a] := fun x hx h => by simp at h; subst h; omega
                    have hIn : Lossy σ0 σ1 a b adF zF fl adA zA ac many sent (max acked Y) took :=
                      ⟨hI.kept.step g3 (fun x hx => hbase x (by simp at hx; subst hx; omega)), ⟨c, qS, qR, rF, rA, g2, hR.same g3 (hna b (by omega)) (fun q hq => hna q (by have := e4 q hq; omega)), hF.same g3 (fun q hq => hna q (by have := e5 q hq; omega)), hA.same g3 (fun q hq => hna q (by have := e6 q hq; omega)), e1, e2, e3, e4, e5, e6, e7⟩, hI.fl, hI.ac, by omega, hn2, hn3, by omega⟩
                    exact lossy_tail L k hL (s0 := some ⟨q0, 0, none⟩) (s0n := script.length) (s0z := 0) (s27 := script.length) (i := i) (n := n) (by omega) (by omega) hIn (fun σ' h' => go σ' _ _ _ _ _ _ _ _ _ _ (by omega) (by omega) (by omega) h')
                  · rw [decide_eq_false hk1, br_false]
                    exact same
                · rw [decide_eq_false hk0, br_false]
                  exact same
              · rw [show (dd == 5) = false by simpa using hd5, br_false]
                exact same

end Go.AM
