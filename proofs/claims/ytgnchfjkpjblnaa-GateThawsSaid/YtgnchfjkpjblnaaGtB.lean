/-
  THE GATE, more: what a program that does nothing answers wrongly; a script's elements; GateOpen.
-/
import Derived.Test.YtgnchfjkpjblnaaGtA
import Derived.Test.YtgnchfjkpjblnaaAm18
import Derived.Test.YtgnchfjkpjblnaaAm17
set_option linter.unusedVariables false
set_option linter.unusedSimpArgs false
namespace Go.AM.Gt
open Go.Proofs

theorem awake_spec (L k : Nat) (σ : St) : ∃ σ', evCall Try.prog env L (k + 4) 6 [] σ = some (.bool true, σ') ∧ Same σ σ' [] := by
  rw [f6_eq]
  obtain ⟨σ1, g1, hG1, hs1⟩ := new_spec L (k + 2) σ
  rw [g1, bnd_some, asP_p, show (some (⟨σ.next, 0, none⟩ : Addr)).isNone = false from rfl, br_false]
  have hok0 : GS.Ok ⟨0, 0, 0, []⟩ := ⟨fun _ => rfl, by simp, by simp, by simp, by simp, by simp, by simp⟩
  rcases freeze_spec hG1 L k 1 1 with ⟨g', σ2, e2, g2, hG2, hT2⟩ | ⟨_, _, e2, _⟩
  · obtain ⟨hok1, rfl, _⟩ := hok0.freeze (by omega) e2
    rw [g2, bnd_some, eqNil_nil, not_true, br_false]
    rcases enter_spec hG2 L k hok1 ⟨5, 0, ⟨#[]⟩⟩ with ⟨h, _⟩ | ⟨_, h, _⟩ | ⟨_, _, σ3, F3, g3, hG3, hT3⟩
    · simp at h
    · simp at h
    · rw [show Value.agg #[Value.int .i64 5, .int .i64 0, .string ⟨#[]⟩] = Cal.agg ⟨5, 0, ⟨#[]⟩⟩ from rfl, g3, bnd_some, asT_t, toList2, uncons_c, asB_b, uncons_c, endl_n]
      have hok3 : GS.Ok ⟨1, 1, 1, [] ++ [⟨5, 0, ⟨#[]⟩⟩]⟩ := ⟨by simp, by simp, by simp, by simp, by simp, by simp, by simp⟩
      obtain ⟨ad, z, qo, σ4, F4, g4, hG4, hR4, hT4⟩ := tick_spec hG3 L (k + 1) hok3
      have hout : (GS.tick ⟨1, 1, 1, [] ++ [⟨5, 0, ⟨#[]⟩⟩]⟩).2 = [⟨5, 0, ⟨#[]⟩⟩] := rfl
      rw [hout] at g4 hR4
      obtain ⟨q, e, hat⟩ := hR4.at c3_len (i := 0) (a := ⟨5, 0, ⟨#[]⟩⟩) rfl
      rw [g4, bnd_some, asSl_s, not_false, br_true, eqNil_nil, br_true, show ((([⟨5, 0, ⟨#[]⟩⟩] : List Cal).length : Int) == 1) = true from rfl, br_true, need_of (by rfl), e, adr_some, hat 0 (.int .i64 5) _ (by omega) rfl (by simp), asI_i, show ((5 : Int) == 5) = true from rfl, br_true, known_spec L (k + 2), bnd_some, asB_b]
      exact ⟨σ4, rfl, hs1.fresh ((hT2.trans hT3).trans hT4).same (fun x hx => .inr (by simp at hx; omega))⟩
  · simp [GS.freeze] at e2

structure Op where
  kind : Small
  round : Small
  ticks : Small
  id : Small
  block : Small
  data : { s : ByteArray // s.size ≤ maxLen }
def c6 (o : Op) : List Value := [.int .i64 o.kind.1, .int .i64 o.round.1, .int .i64 o.ticks.1, .int .i64 o.id.1, .int .i64 o.block.1, .string o.data.1]

theorem few_loop (L k : Nat) {σ0 σ : St} {ad : Option Addr} {l : List Op} (hl : l.length ≤ 300) (hH : Holds σ0 6 c6 ad l) (hK : Kept' σ0.next σ0 σ) : ∀ (n i : Nat), i ≤ l.length → l.length - i < n →
    ∃ b, lpAt Try.prog env L k 7 [true, true, false, true] [] n [(0, .slice ad l.length 0), (8, .int .i64 l.length), (9, .int .i64 i)] σ = some (.bool b, σ)
  | 0, i, _, h => by omega
  | n + 1, i, h1, h2 => by
    rw [f7_l4]
    by_cases hi : i = l.length
    · rw [decide_eq_false (by omega), br_false]; exact ⟨true, rfl⟩
    · have hget : l[i]? = some l[i] := List.getElem?_eq_getElem (by omega)
      obtain ⟨q0, e0, hat⟩ := hH.ld hK hget
      generalize l[i] = o at hat
      rw [decide_eq_true (by omega), br_true, need_of (by simp [inRange]; omega), e0, adr_some, hat 5 (.string o.data.1) _ (by omega) rfl (by omega), asS_s]
      by_cases hc : ((o.data.1.size : Int)) > 200
      · rw [decide_eq_true hc, br_true]; exact ⟨false, rfl⟩
      · rw [decide_eq_false hc, br_false, wrap_in _ (by omega) (by omega), ← e0]
        exact few_loop L k hl hH hK n (i + 1) (by omega) (by omega)

theorem few_spec (L k : Nat) (hL : 400 < L) {σ0 σ : St} {ad : Option Addr} {l : List Op} (hH : Holds σ0 6 c6 ad l) (hK : Kept' σ0.next σ0 σ) :
    ∃ b, evCall Try.prog env L (k + 1) 7 [.slice ad l.length 0] σ = some (.bool b, σ) ∧ (b = true → l.length ≤ 300) := by
  rw [f7_eq]
  by_cases h : (l.length : Int) > 300
  · rw [decide_eq_true h, br_true]; exact ⟨false, rfl, by simp⟩
  · rw [decide_eq_false h, br_false]
    obtain ⟨b, hb⟩ := few_loop L k (by omega) hH hK L 0 (by omega) (by omega)
    exact ⟨b, hb, fun _ => by omega⟩

/-- What follows an element of GateOpen's script. -/
noncomputable def openTail (L k n : Nat) (s0 : Option Addr) (s0n s0z s3 s5 : Nat) (s27 s28 : Int) (σ' : St) : Res :=
  bnd (evCall Try.prog env L k 11 [Value.pointer (some { block := s5, off := 0 })] σ') fun v15 v16 => asI .i64 v15 fun v17 => bnd (evCall Try.prog env L k 13 [Value.pointer (some { block := s5, off := 0 })] v16) fun v18 v19 => asI .i64 v18 fun v20 => asP (Value.pointer (some ⟨s3, 0, none⟩)) fun v21 => adr v21 fun v22 v23 => St.lds v19 v22 v23 3 fun v24 => uncons v24 fun v25 v26 => asI .i64 v25 fun v27 => uncons v26 fun v28 v29 => asI .i64 v28 fun v30 => uncons v29 fun v31 v32 => asS v31 fun v33 => endl v32 (bnd (evCall Try.prog env L k 12 [Value.pointer (some { block := s5, off := 0 }), Value.agg #[Value.int .i64 v27, Value.int .i64 v30, Value.string v33]] v19) fun v34 v35 => asT v34 fun v36 => uncons v36 fun v37 v38 => asB v37 fun v39 => uncons v38 fun v40 v41 => endl v41 (br (v39 == (v17 != (0 : Int))) (some (Value.bool false, v35)) (br (!v17 != (0 : Int)) (eqNil v40 fun v42 => br (!v42) (some (Value.bool false, v35)) (br (v17 != (0 : Int)) (eqNil v40 fun v43 => br (!v43 == decide (v20 < (4 : Int))) (some (Value.bool false, v35)) (lpAt Try.prog env L k 5 [true, true, true, false, true] [] n [(0, Value.slice s0 s0n s0z), (3, Value.pointer (some ⟨s3, 0, none⟩)), (5, Value.pointer (some { block := s5, off := 0 })), (27, Value.int .i64 s27), (28, Value.int .i64 (IntKind.wrap .i64 (s28 + (1 : Int))))] v35)) (lpAt Try.prog env L k 5 [true, true, true, false, true] [] n [(0, Value.slice s0 s0n s0z), (3, Value.pointer (some ⟨s3, 0, none⟩)), (5, Value.pointer (some { block := s5, off := 0 })), (27, Value.int .i64 s27), (28, Value.int .i64 (IntKind.wrap .i64 (s28 + (1 : Int))))] v35))) (br (v17 != (0 : Int)) (eqNil v40 fun v44 => br (!v44 == decide (v20 < (4 : Int))) (some (Value.bool false, v35)) (lpAt Try.prog env L k 5 [true, true, true, false, true] [] n [(0, Value.slice s0 s0n s0z), (3, Value.pointer (some ⟨s3, 0, none⟩)), (5, Value.pointer (some { block := s5, off := 0 })), (27, Value.int .i64 s27), (28, Value.int .i64 (IntKind.wrap .i64 (s28 + (1 : Int))))] v35)) (lpAt Try.prog env L k 5 [true, true, true, false, true] [] n [(0, Value.slice s0 s0n s0z), (3, Value.pointer (some ⟨s3, 0, none⟩)), (5, Value.pointer (some { block := s5, off := 0 })), (27, Value.int .i64 s27), (28, Value.int .i64 (IntKind.wrap .i64 (s28 + (1 : Int))))] v35)))))

theorem open_tail (L k n : Nat) {σ0 σ : St} {a b : Nat} {F : List Nat} {g : GS} (hG : Gate σ a F g) (hok : g.Ok) (hO : Owns σ0 σ [F, [b]]) (c : Cal) (hc : σ.get b = some (.own (c3 c) 30)) (s0 : Option Addr) (s0n s0z : Nat) (s27 s28 : Int)
    (go : ∀ σ' F' g', Gate σ' a F' g' → g'.Ok → Owns σ0 σ' [F', [b]] → σ'.get b = some (.own (c3 c) 30) → ∃ σ9, lpAt Try.prog env L (k + 4) 5 [true, true, true, false, true] [] n [(0, Value.slice s0 s0n s0z), (3, .pointer (some ⟨b, 0, none⟩)), (5, .pointer (some ⟨a, 0, none⟩)), (27, Value.int .i64 s27), (28, Value.int .i64 (IntKind.wrap .i64 (s28 + (1 : Int))))] σ' = some (.bool true, σ9)) :
    ∃ σ9, openTail L (k + 4) n s0 s0n s0z b a s27 s28 σ = some (.bool true, σ9) := by
  unfold openTail
  rw [frozen_spec hG, bnd_some, asI_i, waiting_spec hG, bnd_some, asI_i, asP_p, adr_some, lds_all (n := 3) hc rfl, show c3 c = [.int .i64 c.id, .int .i64 c.block, .string c.data] from rfl, uncons_c, asI_i, uncons_c, asI_i, uncons_c, asS_s, endl_n]
  have hbF := hO.off 1 0 (by omega) rfl rfl b (by simp)
  have hblt := hO.lt 1 rfl b (by simp)
  rcases enter_spec hG L (k + 1) hok c with ⟨h0, σ1, g1, hs1⟩ | ⟨h0, h4, v, σ1, g1, hs1⟩ | ⟨h0, h4, σ1, F1, g1, hG1, hT1⟩
  · rw [show Value.agg #[Value.int .i64 c.id, .int .i64 c.block, .string c.data] = c.agg from rfl, g1, bnd_some, asT_t, toList2, uncons_c, asB_b, uncons_c, endl_n, show (g.round != 0) = false by simpa using h0, show (true == false) = false from rfl, br_false, not_false, br_true, eqNil_nil, not_true, br_false, br_false]
    exact go σ1 F g (hG.idle hs1) hok (hO.idle hs1) (by rw [hs1.2 b hblt (by simp)]; exact hc)
  · rw [show Value.agg #[Value.int .i64 c.id, .int .i64 c.block, .string c.data] = c.agg from rfl, g1, bnd_some, asT_t, toList2, uncons_c, asB_b, uncons_c, endl_n, show (g.round != 0) = true by simpa using h0, show (false == true) = false from rfl, br_false, not_true, br_false, br_true, eqNil_iface, decide_eq_false (by omega), show (!(false == false)) = false from rfl, br_false]
    exact go σ1 F g (hG.idle hs1) hok (hO.idle hs1) (by rw [hs1.2 b hblt (by simp)]; exact hc)
  · rw [show Value.agg #[Value.int .i64 c.id, .int .i64 c.block, .string c.data] = c.agg from rfl, g1, bnd_some, asT_t, toList2, uncons_c, asB_b, uncons_c, endl_n, show (g.round != 0) = true by simpa using h0, show (false == true) = false from rfl, br_false, not_true, br_false, br_true, eqNil_nil, decide_eq_true (by omega), show (!(true == true)) = false from rfl, br_false]
    exact go σ1 F1 _ hG1 ⟨fun h => absurd h h0, by simp; omega, hok.left, hok.left1, hok.round, hok.late, hok.latest⟩ (hO.turned 0 rfl hT1) (by rw [hT1.same.2 b hblt hbF]; exact hc)

theorem open_loop (L k : Nat) {σ0 : St} {ad0 : Option Addr} {sc : List Op} (hlen : sc.length ≤ 300) (hH : Holds σ0 6 c6 ad0 sc) {a b : Nat} (c : Cal) : ∀ (n i : Nat) (σ : St) (F : List Nat) (g : GS),
    i ≤ sc.length → sc.length - i < n → Gate σ a F g → g.Ok → Owns σ0 σ [F, [b]] → σ.get b = some (.own (c3 c) 30) →
    ∃ σ9, lpAt Try.prog env L (k + 4) 5 [true, true, true, false, true] [] n [(0, .slice ad0 sc.length 0), (3, .pointer (some ⟨b, 0, none⟩)), (5, .pointer (some ⟨a, 0, none⟩)), (27, .int .i64 sc.length), (28, .int .i64 i)] σ = some (.bool true, σ9)
  | 0, i, σ, F, g, _, h, _, _, _, _ => by omega
  | n + 1, i, σ, F, g, hi, h, hG, hok, hO, hc => by
    rw [f5_l5]
    by_cases hie : i = sc.length
    · rw [decide_eq_false (by omega), br_false]; exact ⟨σ, rfl⟩
    · have hget : sc[i]? = some sc[i] := List.getElem?_eq_getElem (by omega)
      obtain ⟨q0, e0, hat⟩ := hH.ld hO.kept hget
      generalize sc[i] = o at hat
      have hk0 := hat 0 (.int .i64 o.kind.1) (0 + (i : Int).toNat * 6 + 0) (by omega) rfl (by omega)
      have hk1 := hat 1 (.int .i64 o.round.1) (0 + (i : Int).toNat * 6 + 1) (by omega) rfl (by omega)
      have hk2 := hat 2 (.int .i64 o.ticks.1) (0 + (i : Int).toNat * 6 + 2) (by omega) rfl (by omega)
      have ht := o.ticks.2
      generalize o.kind.1 = kd at hk0
      generalize o.round.1 = r at hk1
      generalize o.ticks.1 = t at hk2 ht
      have hbF := hO.off 1 0 (by omega) rfl rfl b (by simp)
      have hblt := hO.lt 1 rfl b (by simp)
      have hw : IntKind.wrap .i64 ((i : Int) + 1) = ((i + 1 : Nat) : Int) := by rw [wrap_in _ (by omega) (by omega)]; omega
      have go : ∀ σ' F' g', Gate σ' a F' g' → g'.Ok → Owns σ0 σ' [F', [b]] → σ'.get b = some (.own (c3 c) 30) → ∃ σ9, openTail L (k + 4) n ad0 sc.length 0 b a sc.length i σ' = some (.bool true, σ9) := fun σ' F' g' h1 h2 h3 h4 =>
        open_tail L k n h1 h2 h3 c h4 _ _ _ _ _ (fun σ' F' g' h1 h2 h3 h4 => by
          rw [hw]; exact open_loop L k hlen hH c n (i + 1) σ' F' g' (by omega) (by omega) h1 h2 h3 h4)
      rw [decide_eq_true (by omega), br_true, need_of (by simp [inRange]; omega), e0, adr_some, hk0, asI_i]
      rw [e0] at go
      by_cases hd1 : kd = 1
      · subst hd1
        rw [show ((1 : Int) == 1) = true from rfl, br_true, need_of (by simp [inRange]; omega), adr_some, hk1, asI_i, need_of (by simp [inRange]; omega), adr_some, hk2, asI_i]
        rcases freeze_spec hG L (k + 1) r t with ⟨g', σ1, e1, g1, hG1, hT1⟩ | ⟨v, σ1, e1, g1, hs1⟩
        · rw [g1, bnd_some]
          exact go σ1 F g' hG1 (hok.freeze ht.2 e1).1 (hO.turned 0 rfl hT1) (by rw [hT1.same.2 b hblt hbF]; exact hc)
        · rw [g1, bnd_some]
          exact go σ1 F g (hG.idle hs1) hok (hO.idle hs1) (by rw [hs1.2 b hblt (by simp)]; exact hc)
      rw [show (kd == 1) = false by simpa using hd1, br_false]
      by_cases hd2 : kd = 2
      · subst hd2
        rw [show ((2 : Int) == 2) = true from rfl, br_true, need_of (by simp [inRange]; omega), adr_some, hk1, asI_i]
        rcases thaw_spec hG L (k + 1) r with ⟨ad, z, qo, σ1, e1, g1, hG1, hR1, hT1⟩ | ⟨v, σ1, e1, g1, hs1⟩
        · rw [g1, bnd_some, asT_t, toList2, uncons_c, asSl_s, uncons_c, endl_n]
          exact go σ1 _ _ hG1 hok.open (hO.turned 0 rfl hT1) (by rw [hT1.same.2 b hblt hbF]; exact hc)
        · rw [g1, bnd_some, asT_t, toList2, uncons_c, asSl_s, uncons_c, endl_n]
          exact go σ1 F g (hG.idle hs1) hok (hO.idle hs1) (by rw [hs1.2 b hblt (by simp)]; exact hc)
      rw [show (kd == 2) = false by simpa using hd2, br_false]
      by_cases hd4 : kd = 4
      · subst hd4
        rw [show ((4 : Int) == 4) = true from rfl, br_true]
        obtain ⟨ad, z, qo, σ1, F1, g1, hG1, hR1, hT1⟩ := tick_spec hG L (k + 2) hok
        rw [g1, bnd_some, asSl_s]
        exact go σ1 _ _ hG1 hok.tick (hO.turned 0 rfl hT1) (by rw [hT1.same.2 b hblt hbF]; exact hc)
      · rw [show (kd == 4) = false by simpa using hd4, br_false]
        exact go σ F g hG hok hO hc

theorem opens {σ0 : St} {ad0 : Option Addr} {sc : List Op} (hH : Holds σ0 6 c6 ad0 sc) (c : Cal) : ∃ σ', evCall Try.prog env 10000 12 5 [.slice ad0 sc.length 0, c.agg] σ0 = some (.bool true, σ') := by
  unfold Cal.agg
  rw [f5_eq]
  generalize hσ1 : σ0.new (Blk.own [Value.int IntKind.i64 c.id, Value.int IntKind.i64 c.block, Value.string c.data] 30) = σ1
  have hn1 : σ1.get σ0.next = some (Blk.own (c3 c) 30) := by rw [← hσ1, get_new_same]; rfl
  have hs1 : Same σ0 σ1 [] := by rw [← hσ1]; exact Same.new _ _ _
  have hx1 : σ1.next = σ0.next + 1 := by rw [← hσ1]; rfl
  have hO1 : Owns σ0 σ1 [[σ0.next]] := (Owns.start σ0).more hs1 (fun q hq => by simp at hq; omega)
  obtain ⟨σ2, g2, hs2⟩ := awake_spec 10000 7 σ1
  have hO2 := hO1.idle hs2
  have hn2 : σ2.get σ0.next = some (Blk.own (c3 c) 30) := by rw [hs2.2 _ (by omega) (by simp)]; exact hn1
  have hend : ∃ σ', (bnd (evCall Try.prog env 10000 11 6 [] σ2) fun v10 v11 => asB v10 fun v12 => some (Value.bool v12, v11)) = some (.bool true, σ') := by
    obtain ⟨σ3, g3, _⟩ := awake_spec 10000 7 σ2
    rw [g3, bnd_some, asB_b]; exact ⟨σ3, rfl⟩
  rw [g2, bnd_some, asB_b, not_true, br_false]
  obtain ⟨b, g3, hb⟩ := few_spec 10000 10 (by omega) hH hO2.kept
  rw [g3, bnd_some, asB_b]
  cases b with
  | false => rw [not_false, br_true]; exact hend
  | true =>
  rw [not_true, br_false, ld_at hn2 2 _ rfl, asS_s]
  by_cases hd : (c.data.size : Int) > 200
  · rw [decide_eq_true hd, br_true]; exact hend
  rw [decide_eq_false hd, br_false]
  obtain ⟨σ3, g4, hG3, hs3⟩ := new_spec 10000 10 σ2
  rw [g4, bnd_some, asP_p]
  have h2n := hs2.1
  have hO3 : Owns σ0 σ3 [[σ2.next], [σ0.next]] := hO2.more hs3 (fun q hq => by simp at hq; subst hq; exact ⟨Nat.le_refl _, hG3.lt _ (by simp)⟩)
  exact open_loop 10000 7 (hb rfl) hH c 10000 0 σ3 _ _ (by omega) (by have := hb rfl; omega) hG3 ⟨fun _ => rfl, by simp, by simp, by simp, by simp, by simp, by simp⟩ hO3 (by rw [hs3.2 _ (by omega) (by simp)]; exact hn2)

end Go.AM.Gt
