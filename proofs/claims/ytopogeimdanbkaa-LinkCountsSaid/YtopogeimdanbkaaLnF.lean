/-
  LinkCounts: the rounds, and the whole.
-/
import Derived.Test.YtopogeimdanbkaaLnE
set_option linter.unusedVariables false
set_option linter.unusedSimpArgs false
namespace Go.AM.Lk
open Go.Proofs

theorem counts_loop (L k : Nat) {σ0 : St} {ad0 : Option Addr} {script : List Op} (hlen : script.length ≤ 300) (hH : Holds σ0 4 c4 ad0 script) {a b : Nat} : ∀ (n i : Nat) (σ : St) (l : List Int) (made gone sent : Nat),
    i ≤ script.length → script.length - i < n → sent ≤ i → made ≤ i → gone ≤ i → l.length + gone = made → Cnt σ0 σ a b l sent →
    ∃ σ9, lpAt Try.prog env L (k + 5) 3 [true, true, true, true, true, true, false, true] [] n [(0, .slice ad0 script.length 0), (3, .pointer (some ⟨a, 0, none⟩)), (4, .int .i64 made), (5, .int .i64 gone), (6, .slice (some ⟨b, 0, none⟩) 400 1), (7, .int .i64 sent), (22, .int .i64 script.length), (23, .int .i64 i)] σ = some (.bool true, σ9)
  | 0, i, σ, l, made, gone, sent, _, h, _, _, _, _, _ => by omega
  | n + 1, i, σ, l, made, gone, sent, h1, h2, h3, h4, h5, h6, hI => by
    rw [f3_l8]
    obtain ⟨qs, ow, hL, r1, r2, r3, r4, r5, r6, r7, r8, r9⟩ := hI.ex
    have hrest : ∃ ow, σ.get b = some (.own ow 3) ∧ ow.length = 400 ∧ (∀ v ∈ ow, ∃ n, v = Value.int .i64 n) ∧ b ≠ a ∧ b ∉ qs ∧ b < σ.next ∧ σ0.next ≤ a ∧ σ0.next ≤ b ∧ ∀ q ∈ qs, σ0.next ≤ q := ⟨ow, r1, r2, r3, r4, r5, r6, r7, r8, r9⟩
    have hidle : ∀ σ', Same σ σ' [] → Cnt σ0 σ' a b l sent := fun σ' hs => hI.step hL hrest (hL.same (S := []) hs (by simp) (by simp)) (Same.mono (S := []) hs (by simp)) (fun q hq => .inl hq) hI.all
    by_cases hi : i = script.length
    · rw [decide_eq_false (by omega), br_false, len_spec L (k + 4) hL, bnd_some, asI_i, wrap_in ((made : Int) - gone) (by omega) (by omega)]
      have : ((l.length : Int) == (made : Int) - gone) = true := by simp; omega
      rw [this]
      exact ⟨σ, rfl⟩
    · have hget : script[i]? = some script[i] := List.getElem?_eq_getElem (by omega)
      obtain ⟨q0, e0, hat⟩ := hH.ld hI.kept hget
      generalize script[i] = o at hat
      have hk0 := hat 0 (.int .i64 o.kind.1) (0 + (i : Int).toNat * 4 + 0) (by omega) rfl (by simp)
      have hk1 := hat 1 (.int .i64 o.i.1) (0 + (i : Int).toNat * 4 + 1) (by omega) rfl (by simp)
      generalize o.kind.1 = kd at hk0
      generalize o.i.1 = ix at hk1
      have hw : IntKind.wrap .i64 ((i : Int) + 1) = (i : Int) + 1 := wrap_in _ (by omega) (by omega)
      have hwm : IntKind.wrap .i64 ((made : Int) + 1) = ((made + 1 : Nat) : Int) := by rw [wrap_in _ (by omega) (by omega)]; omega
      have hwg : IntKind.wrap .i64 ((gone : Int) + 1) = ((gone + 1 : Nat) : Int) := by rw [wrap_in _ (by omega) (by omega)]; omega
      have hws : IntKind.wrap .i64 ((sent : Int) + 1) = ((sent + 1 : Nat) : Int) := by rw [wrap_in _ (by omega) (by omega)]; omega
      have go : ∀ (σ' : St) (l' : List Int) (made' gone' sent' : Nat), sent' ≤ i + 1 → made' ≤ i + 1 → gone' ≤ i + 1 → l'.length + gone' = made' → Cnt σ0 σ' a b l' sent' →
          ∃ σ9, lpAt Try.prog env L (k + 5) 3 [true, true, true, true, true, true, false, true] [] n [(0, .slice (some ⟨q0, 0, none⟩) script.length 0), (3, .pointer (some ⟨a, 0, none⟩)), (4, .int .i64 made'), (5, .int .i64 gone'), (6, .slice (some ⟨b, 0, none⟩) 400 1), (7, .int .i64 sent'), (22, .int .i64 script.length), (23, .int .i64 ((i : Int) + 1))] σ' = some (.bool true, σ9) := by
        intro σ' l' made' gone' sent' g1 g2 g3 g4 g5
        have := counts_loop L k hlen hH n (i + 1) σ' l' made' gone' sent' (by omega) (by omega) g1 g2 g3 g4 g5
        rw [show ((i + 1 : Nat) : Int) = (i : Int) + 1 by omega, e0] at this
        exact this
      rw [decide_eq_true (by omega), br_true, need_of (by simp [inRange]; omega), e0, adr_some, hk0, asI_i]
      by_cases hd1 : kd = 1
      · subst hd1
        rw [show ((1 : Int) == 1) = true from rfl, br_true]
        rcases send_spec L (k + 1) hL (by omega) sent with ⟨_, qs', σ1, g1, g2, g3, g4⟩ | ⟨hfull, _⟩
        · have hI1 : Cnt σ0 σ1 a b (l ++ [(sent : Int)]) (sent + 1) := hI.step hL hrest g2 g3 g4 (fun x hx => by rcases List.mem_append.1 hx with hx | hx; have := hI.all x hx; omega; simp at hx; omega)
          obtain ⟨m, t1, t2⟩ := hI1.tally sent (by omega)
          obtain ⟨σ2, t3, t4⟩ := t2 (IntKind.wrap .i64 (m + 1))
          rw [g1, bnd_some, eqNil_nil, br_true, need_of (by simp [inRange]; omega), adr_some, show 0 + (sent : Int).toNat * 1 = sent by simp, t1, asI_i, need_of (by simp [inRange]; omega), adr_some, show 0 + (sent : Int).toNat * 1 = sent by simp, t3, hwm, hws, hw]
          exact go σ2 _ (made + 1) gone (sent + 1) (by omega) (by omega) (by omega) (by simp; omega) t4
        · omega
      · rw [show (kd == 1) = false by simpa using hd1, br_false]
        by_cases hd2 : kd = 2
        · subst hd2
          rw [show ((2 : Int) == 2) = true from rfl, br_true, need_of (by simp [inRange]; omega), adr_some, hk1, asI_i]
          rcases deliver_spec L k hL (by omega) ix with ⟨x, w0, hx, σ1, g1, g2, g3⟩ | ⟨_, v, σ1, g1, g2⟩
          · have hxl := hI.all x (List.mem_of_getElem? hx)
            have hix := (List.getElem?_eq_some_iff.1 hx).1
            have hI1 : Cnt σ0 σ1 a b (l.eraseIdx ix.toNat) sent := hI.step hL hrest g2 g3 (fun q hq => .inl hq) (fun y hy => hI.all y (List.mem_of_mem_eraseIdx hy))
            obtain ⟨X, rfl⟩ := Int.eq_ofNat_of_zero_le hxl.1
            obtain ⟨m, t1, t2⟩ := hI1.tally X (by omega)
            obtain ⟨σ2, t3, t4⟩ := t2 (IntKind.wrap .i64 (m - 1))
            rw [g1, bnd_some, asT_t, show (#[Value.int .i64 (X : Int), Value.nilIface] : Array Value).toList = [Value.int .i64 (X : Int), Value.nilIface] from rfl, uncons_c, asI_i, uncons_c, endl_n, eqNil_nil, br_true, decide_eq_false (by omega), br_false, decide_eq_false (by omega), br_false,
              need_of (by simp [inRange]; omega), adr_some, show 0 + (X : Int).toNat * 1 = X by simp, t1, asI_i, need_of (by simp [inRange]; omega), adr_some, show 0 + (X : Int).toNat * 1 = X by simp, t3, hwg, hw]
            exact go σ2 _ made (gone + 1) sent (by omega) (by omega) (by omega) (by rw [List.length_eraseIdx_of_lt hix]; omega) t4
          · rw [g1, bnd_some, asT_t, show (#[Value.int .i64 0, Value.iface 44 v] : Array Value).toList = [Value.int .i64 0, Value.iface 44 v] from rfl, uncons_c, asI_i, uncons_c, endl_n, eqNil_iface, br_false, hw]
            exact go σ1 l made gone sent (by omega) (by omega) (by omega) h6 (hidle σ1 g2)
        · rw [show (kd == 2) = false by simpa using hd2, br_false]
          by_cases hd3 : kd = 3
          · subst hd3
            rw [show ((3 : Int) == 3) = true from rfl, br_true, need_of (by simp [inRange]; omega), adr_some, hk1, asI_i]
            rcases double_spec L (k + 1) hL (by omega) ix with ⟨x, w0, hx, _, qs', σ1, g1, g2, g3, g4⟩ | ⟨_, v, σ1, g1, g2⟩
            · have hI1 : Cnt σ0 σ1 a b (l ++ [x]) sent := hI.step hL hrest g2 g3 g4 (fun y hy => by rcases List.mem_append.1 hy with hy | hy; exact hI.all y hy; simp at hy; subst hy; exact hI.all _ (List.mem_of_getElem? hx))
              rw [g1, bnd_some, eqNil_nil, br_true, hwm, hw]
              exact go σ1 _ (made + 1) gone sent (by omega) (by omega) (by omega) (by simp; omega) hI1
            · rw [g1, bnd_some, eqNil_iface, br_false, hw]
              exact go σ1 l made gone sent (by omega) (by omega) (by omega) h6 (hidle σ1 g2)
          · rw [show (kd == 3) = false by simpa using hd3, br_false]
            by_cases hd4 : kd = 4
            · subst hd4
              rw [show ((4 : Int) == 4) = true from rfl, br_true, need_of (by simp [inRange]; omega), adr_some, hk1, asI_i]
              rcases drop_spec L (k + 1) hL (by omega) ix with ⟨w0, w1, σ1, g1, g2, g3⟩ | ⟨_, v, σ1, g1, g2⟩
              · have hI1 : Cnt σ0 σ1 a b (l.eraseIdx ix.toNat) sent := hI.step hL hrest g2 g3 (fun q hq => .inl hq) (fun y hy => hI.all y (List.mem_of_mem_eraseIdx hy))
                rw [g1, bnd_some, eqNil_nil, br_true, hwg, hw]
                exact go σ1 _ made (gone + 1) sent (by omega) (by omega) (by omega) (by rw [List.length_eraseIdx_of_lt (by omega)]; omega) hI1
              · rw [g1, bnd_some, eqNil_iface, br_false, hw]
                exact go σ1 l made gone sent (by omega) (by omega) (by omega) h6 (hidle σ1 g2)
            · rw [show (kd == 4) = false by simpa using hd4, br_false, hw]
              exact go σ l made gone sent (by omega) (by omega) (by omega) h6 hI

end Go.AM.Lk
