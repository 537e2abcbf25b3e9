/-
  Texts laid together: Am7, Am8, Am9, AmM, AmE, Am10, AmL, AmO, Am11, Am12.
-/
import Derived.Test.YtnihjgamfnabnaaGreatDoorAm0g
import Derived.Lib.ConvBytes
import Derived.Laws.BytesString
import Derived.Laws.StructEq
import Derived.ChangeKeysEq
set_option linter.unusedVariables false
set_option linter.unusedSimpArgs false
set_option linter.unusedSectionVars false
namespace Go.AM
open Go.RowKit
variable [Laid]
section
variable {P : Program} {o : Oper} {fr : Fr} {r : Value × St}
theorem zerosN_length (z : List Value) : ∀ n, (zerosN z n).length = n * z.length
  | 0 => by simp [zerosN]
  | n + 1 => by simp [zerosN, zerosN_length z n, Nat.add_mul, Nat.add_comm]
theorem zerosN_get (z : List Value) : ∀ (n i : Nat), i < n * z.length → (zerosN z n)[i]? = z[i % z.length]?
  | 0, i, h => by simp at h
  | n + 1, i, h => by
    simp only [zerosN]
    by_cases hi : i < z.length
    · rw [List.getElem?_append_left hi, Nat.mod_eq_of_lt hi]
    · rw [List.getElem?_append_right (by omega), zerosN_get z n (i - z.length) (by rw [Nat.add_mul] at h; omega), ← Nat.mod_eq_sub_mod (by omega)]
theorem madeCells_get (z : Array Value) (n i : Nat) (hi : i < n) (hz : 0 < z.size) : (madeCells z n)[i]? = z[i % z.size]? := by
  have hlt : i % z.size < z.size := Nat.mod_lt _ hz
  simp [madeCells, hi, hlt]
theorem zeros_rel {μ : Mp} {z : Value} {sz n m : Nat} (hp : plainV z = true) (hsz : (Value.cellsL z).length = sz) (h0 : 0 < sz) (hm : n * sz ≤ m) :
    (zerosN (Value.cellsL z) n).length ≤ (madeCells z.cells m).size ∧ ∀ (i : Nat) (v : Value), (zerosN (Value.cellsL z) n)[i]? = some v → ∃ v', (madeCells z.cells m)[i]? = some v' ∧ VRel μ v v' := by
  have hcl := (plain_rel μ z hp).cells
  have hs : z.cells.size = sz := by have := hcl.1; rw [hsz] at this; simpa using this.symm
  refine ⟨by rw [zerosN_length, hsz, size_madeCells]; exact hm, fun i v hi => ?_⟩
  have hlt : i < n * (Value.cellsL z).length := by
    have := (List.getElem?_eq_some_iff.1 hi).1
    rwa [zerosN_length] at this
  rw [zerosN_get _ _ _ hlt] at hi
  obtain ⟨v', h1, h2⟩ := hcl.get hi
  refine ⟨v', ?_, h2⟩
  rw [madeCells_get _ _ _ (by rw [hsz] at hlt; omega) (by omega), hs, ← hsz]
  simpa using h1
theorem op_makeSlice {x y : Operand} {t : TypeId} {σ : St} {K : Value → St → Res} (ho : o.op = .makeSlice t x y) (hx : okOpnd x = true) (hy : okOpnd y = true)
    (h : opnd fr x (fun a => opnd fr y fun b => aMkSlice P t a b σ K) = some r) : ∃ v σ', K v σ' = some r ∧ Ran P o fr σ v σ' := by
  obtain ⟨vx, h1, hvx⟩ := opnd_inv hx h
  obtain ⟨vy, h2, hvy⟩ := opnd_inv hy h1
  unfold aMkSlice at h2
  split at h2
  · rename_i l c
    obtain ⟨e, hu, h3⟩ := elOf_inv h2
    split at h3
    · rename_i z hz
      obtain ⟨hb, h4⟩ := need_inv h3
      obtain ⟨i, hi, hiz, hp⟩ := zeroOf_inv hz
      have hb' : 0 ≤ l ∧ l ≤ c ∧ c.toNat * bytesOf P e ≤ roomTop ∧ c ≤ (sizeTop : Int) ∧ (Value.cellsL z).length = szOf P e ∧ 0 < szOf P e := by
        simp only [Bool.and_eq_true, decide_eq_true_eq] at hb
        obtain ⟨⟨⟨⟨⟨a1, a2⟩, a3⟩, a4⟩, a5⟩, a6⟩ := hb
        exact ⟨a1, a2, a3, a4, Nat.eq_of_beq_eq_true a5, a6⟩
      obtain ⟨b1, b2, b3, b4, b5, b6⟩ := hb'
      refine ⟨_, _, h4, fun W μ a w hf hr => ?_⟩
      have hgx := (hvx μ a (slots o) (slots2a (by rw [ho]; rfl)) hf).int_inv
      have hgy := (hvy μ a (slots o) (slots2b (by rw [ho]; rfl)) hf).int_inv
      rw [szOf_eq hi] at b5 b6
      rw [bytesOf_eq hi] at b3
      unfold sizeTop at b4
      unfold roomTop at b3
      have hbytes : (i.bytes : Int) * c ≤ 281474976710656 := by
        have h5 : ((c.toNat * i.bytes : Nat) : Int) ≤ 140737488355328 := by omega
        have h6 : ((c.toNat : Nat) : Int) = c := by omega
        rw [Int.natCast_mul, h6, Int.mul_comm] at h5
        omega
      have hrun := run_make (P := P) w t e i z hu hi hiz .i64 .i64 l c b1 b2 hbytes (by omega)
      obtain ⟨g1, g2⟩ := zeros_rel (μ := μ) (n := l.toNat) (m := c.toNat * i.size) hp b5 b6 (Nat.mul_le_mul_right _ (by omega))
      obtain ⟨h5, h6⟩ := hr.new (madeCells z.cells (c.toNat * i.size)) e _ g1 g2
      refine ⟨.value (.slice (some ⟨w.heap.size, 0, none⟩) l.toNat c.toNat), _, _, _, by simp [execOp, ho, hgx, hgy, hrun], .inl rfl, h5, ?_, h6⟩
      have hput : (μ.put σ.next ⟨w.heap.size, 0, (madeCells z.cells (c.toNat * i.size)).size⟩) σ.next = some ⟨w.heap.size, 0, (madeCells z.cells (c.toNat * i.size)).size⟩ := by simp [Mp.put]
      refine .sl hput (by omega) (.inr rfl) (.inr ?_) (by unfold maxLen; omega)
      rw [size_madeCells, szOf_eq hi]
      show 0 + c.toNat * i.size ≤ c.toNat * i.size
      omega
    · cases h3
  · cases h2
theorem run_bSlice (w : World) (t e : TypeId) (n : Nat) (i : TypeInfo) (z : Value) (parts : Array (Nat × Value)) (B : Array Value) (hu : P.underlying t = some (.slice e)) (hi : P.info? e = some i) (hz : i.zero = some z)
    (h24 : n * i.size ≤ 16777216) (hB : Instr.fill (fun j => some (j * i.size, i.size)) (madeCells z.cells (n * i.size)) parts.toList = some B) :
    (Instr.buildSlice t n parts).run P w = .ok (.slice (some ⟨w.heap.size, 0, none⟩) n n) (w.alloc (.cells B e)) := by
  have hn24 : ¬ (16777216 < n * i.size) := by omega
  by_cases hz0 : n * i.size = 0
  · have hmk : madeCells z.cells (n * i.size) = #[] := by simp [madeCells, hz0]
    rw [hmk] at hB
    have h0 : Array.map (fun _ : Nat => (default : Value)) (Array.range 0) = #[] := by simp [Array.range]
    simp [Instr.buildSlice, run_underlying hu, sizeOf, typeInfo, hi, hz0, h0, hB, newRow]
  · have hmk : (Array.range (n * i.size)).map (fun x => z.cells[x % z.cells.size]!) = madeCells z.cells (n * i.size) := rfl
    simp [Instr.buildSlice, run_underlying hu, sizeOf, typeInfo, hi, hz0, zeroValue, hz, hn24, hmk, hB, newRow]
theorem op_buildSlice {t : TypeId} {n : Nat} {ps : Array (Nat × Operand)} {σ : St} {K : Value → St → Res} (ho : o.op = .buildSlice t n ps) (hx : (ps.toList.map (·.2)).all okOpnd = true)
    (h : opndPs fr ps.toList (fun l => aBuildSlice P t n l σ K) = some r) : ∃ v σ', K v σ' = some r ∧ Ran P o fr σ v σ' := by
  obtain ⟨vs, h1, hvs⟩ := opndPs_inv hx h
  unfold aBuildSlice at h1
  obtain ⟨e, hu, h2⟩ := elOf_inv h1
  obtain ⟨hb, h3⟩ := need_inv h2
  split at h3
  · cases h3
  · rename_i z hz
    obtain ⟨hb2, h40⟩ := need_inv h3
    obtain ⟨cs, hcs0, h4⟩ := fillK_inv h40
    have hcs : fillL (fun i => some (i * szOf P e, szOf P e)) (zerosN (Value.cellsL z) n) vs = some cs := hcs0
    · obtain ⟨i, hi, hiz, hp⟩ := zeroOf_inv hz
      have hb' : (Value.cellsL z).length = szOf P e ∧ 0 < szOf P e := by
        simp only [Bool.and_eq_true, decide_eq_true_eq] at hb2
        exact ⟨Nat.eq_of_beq_eq_true hb2.1, hb2.2⟩
      obtain ⟨b5, b6⟩ := hb'
      have b7 : n * szOf P e ≤ 16777216 := of_decide_eq_true hb
      refine ⟨_, _, h4, fun W μ a w hf hr => ?_⟩
      have hpr := hvs μ a (slots o) (by intro t ht; simp only [slots, ho, Op.operands]; simpa using ht) hf
      rw [szOf_eq hi] at b5 b6 b7
      obtain ⟨g1, g2⟩ := zeros_rel (μ := μ) (n := n) (m := n * i.size) hp b5 b6 (Nat.le_refl _)
      have hlr : LRel μ (zerosN (Value.cellsL z) n) (madeCells z.cells (n * i.size)).toList := .of (by rw [zerosN_length, b5]; simp [size_madeCells]) (fun j v hj => by obtain ⟨v', h5, h6⟩ := g2 j v hj; exact ⟨v', by simpa using h5, h6⟩)
      obtain ⟨B, hB, hl⟩ := fill_rel hpr hlr hcs
      rw [szOf_eq hi] at hB
      have hlen : cs.length = B.size := by rw [hl.1]; simp
      obtain ⟨h5, h6⟩ := hr.new B e cs (by omega) (fun j v hj => by obtain ⟨v', h7, h8⟩ := hl.get hj; exact ⟨v', by simpa using h7, h8⟩)
      have hout : cs.length = n * i.size := by
        have : ∀ (ps : List (Nat × Value)) (c0 out : List Value), fillL (fun i => some (i * szOf P e, szOf P e)) c0 ps = some out → out.length = c0.length := by
          intro ps
          induction ps with
          | nil => intro c0 out h; simp [fillL] at h; rw [h]
          | cons q ps ih =>
            intro c0 out h
            obtain ⟨j, v⟩ := q
            simp only [fillL] at h
            cases hb : (Nat.beq (Value.cellsL v).length (szOf P e) && decide (j * szOf P e + (Value.cellsL v).length ≤ c0.length)) with
            | false => rw [hb] at h; simp at h
            | true =>
              rw [hb] at h
              have := ih _ _ (by simpa using h)
              rw [this]
              simp only [Bool.and_eq_true, decide_eq_true_eq] at hb
              exact over_length hb.2
        rw [this _ _ _ hcs, zerosN_length, b5]
      refine ⟨.value (.slice (some ⟨w.heap.size, 0, none⟩) n n), _, _, _, ?_, .inl rfl, h5, ?_, h6⟩
      · have hrun := run_bSlice (P := P) w t e n i z (ps.map fun x => (x.1, a.eval x.2)) B hu hi hiz b7 (by simpa using hB)
        simp [execOp, ho, hrun]
      · have hput : (μ.put σ.next ⟨w.heap.size, 0, B.size⟩) σ.next = some ⟨w.heap.size, 0, B.size⟩ := by simp [Mp.put]
        have hile : i.size ≠ 0 := by omega
        refine .sl hput (Nat.le_refl _) (.inr rfl) (.inr ?_) ?_
        · rw [szOf_eq hi]; simp only; omega
        · have : n ≤ n * i.size := Nat.le_mul_of_pos_right _ b6
          unfold maxLen; omega
theorem row_inv {σ : St} {a : Option Addr} {n : Nat} {K : List Value → Res} (h : σ.row a n K = some r) :
    ∃ cs, K cs = some r ∧ cs.length = n ∧ ((n = 0 ∧ cs = []) ∨ ∃ q o vs, a = some ⟨q, o, none⟩ ∧ σ.cells q = some vs ∧ o + n ≤ vs.length ∧ cs = (vs.drop o).take n) := by
  unfold St.row at h
  split at h
  · rename_i h0; exact ⟨[], h, by simp [h0], .inl ⟨h0, rfl⟩⟩
  · obtain ⟨q, o, e, h1⟩ := adr_inv h
    obtain ⟨vs, hvs, hn, h2⟩ := lds_inv h1
    exact ⟨_, h2, by simp; omega, .inr ⟨q, o, vs, e, hvs, hn, rfl⟩⟩
theorem row_rel {W : Base} {μ : Mp} {σ : St} {w : World} (hr : Rel W μ σ w) {a : Option Addr} {n : Nat} {cs : List Value} {a' : Option Addr} {m z c : Nat} (hv : VRel μ (.slice a m z) (.slice a' m c))
    (hc0 : 0 < n → 0 < m)
    (h : (n = 0 ∧ cs = []) ∨ ∃ q o vs, a = some ⟨q, o, none⟩ ∧ σ.cells q = some vs ∧ o + n ≤ vs.length ∧ cs = (vs.drop o).take n) :
    ∃ cs', LRel μ cs cs' ∧ cs'.length = n ∧ (n = 0 ∨ ∃ b o', a' = some ⟨b, o', none⟩ ∧ ∀ j v, cs'[j]? = some v → w.cell? ⟨b, o' + j, none⟩ = some v) := by
  rcases h with ⟨h0, h1⟩ | ⟨q, o, vs, h1, h2, h3, h4⟩
  · exact ⟨[], by rw [h1]; exact .nil μ, by simp [h0], .inl h0⟩
  · subst h1
    by_cases hn : n = 0
    · exact ⟨[], by rw [h4, hn]; simp; exact .nil μ, by simp [hn], .inl hn⟩
    · obtain ⟨p, cs', hp, hl, hlen, hcell⟩ := hr.many h2 h3
      rw [← h4] at hl
      have hm := hc0 (by omega)
      obtain ⟨p', o', c', hp', he, hmc, hoc, _⟩ := hv.sl_inv hm
      rw [hp] at hp'
      cases hp'
      cases he
      rcases hoc with h5 | h5
      · omega
      · subst h5
        exact ⟨cs', hl, hlen, .inr ⟨_, _, rfl, fun j v hj => hcell j v hj⟩⟩
theorem grow_inv {e : TypeId} {sz by_ : Nat} {a : Option Addr} {n z m : Nat} {news : List Value} {σ : St} {K : Option Addr → Nat → Nat → St → Res} (h : grow e sz by_ a n z m news σ K = some r) :
    (m = 0 ∧ K a n z σ = some r) ∨ (0 < m ∧ (n + m) * by_ ≤ roomTop ∧ n + m ≤ sizeTop ∧ 0 < sz ∧ news.all oneCell = true ∧
      ((a = none ∧ n = 0 ∧ K (some ⟨σ.next, 0, none⟩) m sz (σ.new (.own news e)) = some r) ∨
       ∃ q off vs, a = some ⟨q, off, none⟩ ∧ σ.get q = some (.own vs e) ∧ z = sz ∧ off + n * sz ≤ vs.length ∧
         K (some ⟨σ.next, 0, none⟩) (n + m) sz ((σ.del q).new (.own ((vs.drop off).take (n * sz) ++ news) e)) = some r)) := by
  unfold grow at h
  split at h
  · exact .inl ⟨‹_›, h⟩
  · split at h
    · rename_i hm hc
      refine .inr ⟨by omega, hc.1, hc.2.1, hc.2.2.1, hc.2.2.2, ?_⟩
      split at h
      · split at h
        · exact .inl ⟨rfl, ‹_›, h⟩
        · cases h
      · rename_i q off
        split at h
        · rename_i vs e' hg
          split at h
          · rename_i hcc
            obtain ⟨c1, c2, c3⟩ := hcc
            subst c1
            exact .inr ⟨q, off, vs, rfl, hg, c2, c3, h⟩
          · cases h
        · cases h
      · cases h
    · cases h
theorem run_app {w : World} {t u ty e : TypeId} {d : TypeDesc} {i : TypeInfo} {z : Value} (ht : P.underlying t = some (.slice e)) (hu : P.underlying u = some d) (hd : (∃ e2, d = .slice e2) ∨ d = .string)
    (hi : P.info? e = some i) (hz : i.zero = some z) {x : Value} {m : Nat} {news : List Value} (hlen : ∀ w', (Builtin.lenOf x).run P w' = .ok m w')
    (hnews : ∀ w', w'.heap = w.heap → (Builtin.firstCells i.size m x).run P w' = .ok news.toArray w') (hl : news.length = m * i.size) (h1 : ∀ u ∈ news, u.oneCell' = true)
    (base : Option Addr) (n c : Nat) (hnc : n ≤ c) (hb : base = none → c = 0)
    (h63 : n + m ≤ 4611686018427387904) (hby : (n + m) * i.bytes ≤ 140737488355328) :
    (n + m ≤ c → m = 0 → (Builtin.append_ #[t, u] ty #[.slice base n c, x]).run P w = .ok (.slice base n c) w) ∧
    (∀ b o cur, base = some ⟨b, o, none⟩ → n + m ≤ c → w.heap[b]? = some (.cells cur e (0, 0)) → o + n * i.size + news.length ≤ cur.size →
      (Builtin.append_ #[t, u] ty #[.slice base n c, x]).run P w = .ok (.slice base (n + m) c) (w.setRow b (cur.toList.take (o + n * i.size) ++ news ++ cur.toList.drop (o + n * i.size + news.length)).toArray)) ∧
    (∀ olds : List Value, c < n + m → olds.length = n * i.size → (∀ w', w'.heap = w.heap → (Builtin.firstCells i.size n (.slice base n c)).run P w' = .ok olds.toArray w') →
      (Builtin.append_ #[t, u] ty #[.slice base n c, x]).run P w = .ok (.slice (some ⟨w.heap.size, 0, none⟩) (n + m) (grownCap w (n + m) c e))
        (w.drew.alloc (.cells (olds.toArray ++ news.toArray ++ Builtin.zeroCells z.cells (grownCap w (n + m) c e - (n + m))) e))) := by
  refine ⟨?_, ?_, ?_⟩
  · intro hroom hm
    subst hm
    have hn0 : news = [] := List.eq_nil_of_length_eq_zero (by rw [hl]; simp)
    subst hn0
    have := hnews w rfl
    rcases hd with ⟨e2, rfl⟩ | rfl <;> cases base <;> simp [Builtin.append_, run_underlying ht, run_underlying hu, sizeOf, typeInfo, hi, hlen, hnc, this, storeCells]
  · intro b o cur hbase hroom hcur hfit
    subst hbase
    have hst := run_storeCells_at P b (o + n * i.size) e news 0 cur w hcur (by simpa using hfit) h1
    simp only [Nat.add_zero] at hst
    rcases hd with ⟨e2, rfl⟩ | rfl <;> simp [Builtin.append_, run_underlying ht, run_underlying hu, sizeOf, typeInfo, hi, hlen, hroom, hnews w rfl, addr_add, hst]
  · intro olds hg hlo holds
    have hn : ¬ (n + m ≤ c) := by omega
    have h63' : ¬ (9223372036854775807 < ((n : Int) + (m : Int))) := by omega
    have h48' : ¬ (281474976710656 < Builtin.nextslicecap (n + m) c * i.bytes) := by have := growslice_fits (old := c) (by omega) hby; omega
    rcases hd with ⟨e2, rfl⟩ | rfl <;>
    · simp [Builtin.append_, run_underlying ht, run_underlying hu, sizeOf, typeInfo, zeroValue, hi, hz, hlen, hn, h63', h48', Question.forced, hnews w.drew rfl, holds w.drew rfl, newRow, grownCap]
      congr 2
      apply Array.ext'
      simp [List.append_assoc]
theorem run_appz {w : World} {t u ty e : TypeId} {k : IntKind} {i : TypeInfo} {z : Value} (ht : P.underlying t = some (.slice e)) (hu : P.underlying u = some (.int k))
    (hi : P.info? e = some i) (hz : i.zero = some z) (h0 : 0 < i.size) (m : Nat) (h1 : 1 ≤ m) (h63 : m ≤ 4611686018427387904) (hby : m * i.bytes ≤ 140737488355328) :
    (Builtin.append_ #[t, u] ty #[.slice none 0 0, .int .i64 m]).run P w = .ok (.slice (some ⟨w.heap.size, 0, none⟩) m (grownCap w (0 + m) 0 e))
        (w.drew.alloc (.cells (Builtin.zeroCells z.cells m ++ Builtin.zeroCells z.cells (grownCap w (0 + m) 0 e - m)) e)) := by
  have hn : ¬ (0 + m ≤ 0) := by omega
  have hm0 : ¬ m = 0 := by omega
  have hs0 : ¬ i.size = 0 := by omega
  have hw : IntKind.wrap .i64 (m : Int) = (m : Int) := by rw [IntKind.wrap_i64]; omega
  have h63' : ¬ (9223372036854775807 < (m : Int)) := by omega
  have hneg : ¬ ((m : Int) < 0) := by omega
  have h48 : ¬ (281474976710656 < (m : Int) * (i.bytes : Int)) := by
    have : ((m * i.bytes : Nat) : Int) ≤ 140737488355328 := by omega
    rw [Int.natCast_mul] at this; omega
  have h48' : ¬ (281474976710656 < Builtin.nextslicecap m 0 * i.bytes) := by have := growslice_fits (need := m) (old := 0) (by omega) hby; omega
  simp [Builtin.append_, run_underlying ht, run_underlying hu, sizeOf, typeInfo, zeroValue, hi, hz, asInt, asIntOf, hw, h63', hneg, h48, h48', hm0, hs0, Question.forced, newRow, grownCap, Builtin.firstCells]
  intro hz0
  exact absurd hz0 (Nat.ne_of_gt (Nat.mul_pos (by omega) h0))
end
end Go.AM

namespace Go.AM
open Go.RowKit
variable [Laid]
section
variable {P : Program} {o : Oper} {fr : Fr} {r : Value × St}
theorem mul_fit (s : Nat) {m c : Nat} (h : m ≤ c) : m * s + (c - m) * s = c * s := by rw [← Nat.add_mul]; congr 1; omega
theorem grow_sound {t u ty e : TypeId} {d : TypeDesc} {i : TypeInfo} {zv : Value} (ht : P.underlying t = some (.slice e)) (hu : P.underlying u = some d) (hd : (∃ e2, d = .slice e2) ∨ d = .string)
    (hi : P.info? e = some i) (hz : i.zero = some zv) (hzs : zv.cells.size = i.size) {a : Option Addr} {n z m : Nat} {news : List Value} {σ : St} {K : Option Addr → Nat → Nat → St → Res}
    (h : grow e i.size i.bytes a n z m news σ K = some r) :
    ∃ a1 n1 z1 σ1, K a1 n1 z1 σ1 = some r ∧ ∀ (W : Base) (μ : Mp) (w : World) (sv x : Value) (news' : List Value), Rel W μ σ w → VRel μ (.slice a n z) sv → LRel μ news news' → news.length = m * i.size →
      (∀ w', (Builtin.lenOf x).run P w' = .ok m w') → (∀ w', w'.heap = w.heap → (Builtin.firstCells i.size m x).run P w' = .ok news'.toArray w') →
      ∃ v' w' μ', (Builtin.append_ #[t, u] ty #[sv, x]).run P w = .ok v' w' ∧ μ.le μ' ∧ VRel μ' (.slice a1 n1 z1) v' ∧ Rel W μ' σ1 w' := by
  rcases grow_inv h with ⟨hm, h1⟩ | ⟨hm, hby, htop, hsz, hone, h1⟩
  · refine ⟨a, n, z, σ, h1, fun W μ w sv x news' hr hsv hnew hnl hlen hfc => ?_⟩
    subst hm
    have hnl' : news'.length = 0 * i.size := by rw [← hnew.1, hnl]
    have h0 : news' = [] := List.eq_nil_of_length_eq_zero (by simpa using hnl')
    subst h0
    rcases hsv.slice_inv with ⟨e1, e2, e3, e4⟩ | ⟨q, off, p, o', c, sp, e1, hp, e4, hn, hc, hzz, hmx, hsp⟩
    · subst e4; subst e2
      have := (run_app (P := P) (w := w) (ty := ty) ht hu hd hi hz (x := x) (m := 0) (news := []) hlen hfc (by simp) (by simp) none 0 0 (Nat.le_refl _) (fun _ => rfl) (by omega) (by simp)).1 (by simp) rfl
      exact ⟨_, w, μ, this, Mp.le.refl μ, hsv, hr⟩
    · subst e4
      by_cases hbig : n + 0 ≤ 4611686018427387904 ∧ (n + 0) * i.bytes ≤ 140737488355328
      · have := (run_app (P := P) (w := w) (ty := ty) ht hu hd hi hz (x := x) (m := 0) (news := []) hlen hfc (by simp) (by simp) (some ⟨p.b, o', sp⟩) n c hn (fun h => by cases h) hbig.1 hbig.2).1 (by omega) rfl
        exact ⟨_, w, μ, this, Mp.le.refl μ, hsv, hr⟩
      · -- the bounds play no part where nothing is appended
        have : (Builtin.append_ #[t, u] ty #[.slice (some ⟨p.b, o', sp⟩) n c, x]).run P w = .ok (.slice (some ⟨p.b, o', sp⟩) n c) w := by
          have hf := hfc w rfl
          rcases hd with ⟨e2, rfl⟩ | rfl <;> simp [Builtin.append_, run_underlying ht, run_underlying hu, sizeOf, typeInfo, hi, hlen, hn, hf, storeCells]
        exact ⟨_, w, μ, this, Mp.le.refl μ, hsv, hr⟩
  · have hby' : (n + m) * i.bytes ≤ 140737488355328 := hby
    have htop' : n + m ≤ 4611686018427387904 := htop
    rcases h1 with ⟨e1, e2, h2⟩ | ⟨q, off, vs, e1, hg, e2, hfit, h2⟩
    · subst e1; subst e2
      refine ⟨_, _, _, _, h2, fun W μ w sv x news' hr hsv hnew hnl hlen hfc => ?_⟩
      have hnl' : news'.length = m * i.size := by rw [← hnew.1, hnl]
      rcases hsv.slice_inv with ⟨_, _, e3, e4⟩ | ⟨q, off, p, o', c, sp, e1, _⟩
      · subst e4
        have hrun := (run_app (P := P) (w := w) (ty := ty) ht hu hd hi hz (x := x) (m := m) (news := news') hlen hfc hnl' (hnew.oneCells hone) none 0 0 (Nat.le_refl _) (fun _ => rfl) htop' hby').2.2 [] (by omega) (by simp) (fun w' _ => by simp [Builtin.firstCells])
        have hcap := grownCap_ge w (0 + m) 0 e
        have hcm := grownCap_le_maxLen w (0 + m) 0 e (by unfold maxLen; omega)
        have hrd := hr.drew
        obtain ⟨h3, h4⟩ := hrd.new ([].toArray ++ news'.toArray ++ Builtin.zeroCells zv.cells (grownCap w (0 + m) 0 e - (0 + m))) e news (by rw [hnew.1]; simp) (fun j v hj => by
          obtain ⟨v', h5, h6⟩ := hnew.get hj
          refine ⟨v', ?_, h6⟩
          have hlt : j < news'.length := (List.getElem?_eq_some_iff.1 h5).1
          rw [Array.getElem?_append_left (by simp; exact hlt)]
          simpa using h5)
        refine ⟨_, _, _, hrun, h3, ?_, h4⟩
        have hput : ∀ nn, (μ.put σ.next ⟨w.drew.heap.size, 0, nn⟩) σ.next = some ⟨w.drew.heap.size, 0, nn⟩ := fun nn => by simp [Mp.put]
        rw [show (0 : Nat) + m = m from by omega] at *
        refine .sl (hput _) (by omega) (.inr rfl) (.inr ?_) hcm
        simp only [Array.size_append, List.size_toArray, size_zeroCells, hzs, hnl']
        have := mul_fit i.size hcap
        simp only [List.length_nil]
        omega
      · cases e1
    · subst e1; subst e2
      refine ⟨_, _, _, _, h2, fun W μ w sv x news' hr hsv hnew hnl hlen hfc => ?_⟩
      have hnl' : news'.length = m * i.size := by rw [← hnew.1, hnl]
      obtain ⟨p, o', c, sp, hp, e4, hn, hc, hzz, hmx, hsp⟩ := hsv.slw_inv
      subst e4
      have hcN : o' + c * i.size ≤ p.n := by rcases hzz with h | h; omega; exact h
      obtain ⟨p', cur, hp', hWb, hcur, hcs, hsl, hcv⟩ := hr.own q vs e hg
      rw [hp] at hp'
      cases hp'
      have happ := run_app (P := P) (w := w) (ty := ty) ht hu hd hi hz (x := x) (m := m) (news := news') hlen hfc hnl' (hnew.oneCells hone) (some ⟨p.b, o', sp⟩) n c hn (fun h => by cases h) htop' hby'
      by_cases hroom : n + m ≤ c
      · have hsp0 : sp = none := by rcases hsp with h | h; exact h; omega
        subst hsp0
        have ho' : o' = p.s + off := by rcases hc with h | h; omega; exact h
        have e5 : (n + m) * i.size ≤ c * i.size := Nat.mul_le_mul_right _ hroom
        rw [Nat.add_mul] at e5
        have hfit2 : o' + n * i.size + news'.length ≤ cur.size := by omega
        have hrun := happ.2.1 p.b o' cur rfl hroom hcur hfit2
        obtain ⟨h3, h4⟩ := hr.move (e := e) hg rfl hp hWb hcur ((vs.drop off).take (n * i.size) ++ news) (cur.toList.take (o' + n * i.size) ++ news' ++ cur.toList.drop (o' + n * i.size + news'.length)).toArray o'
          (by simp; omega) (by simp; omega) (fun j v hj => by
            simp only [List.getElem?_toArray]
            have e6 : ((vs.drop off).take (n * i.size)).length = n * i.size := by simp; omega
            by_cases hjn : j < n * i.size
            · rw [List.getElem?_append_left (by omega), List.getElem?_take, if_pos hjn, List.getElem?_drop] at hj
              obtain ⟨v', h5, h6⟩ := hcv _ v hj
              refine ⟨v', ?_, h6⟩
              rw [List.append_assoc, List.getElem?_append_left (by simp; omega), List.getElem?_take, if_pos (by omega)]
              rw [ho', Nat.add_assoc]
              simpa using h5
            · rw [List.getElem?_append_right (by omega), e6] at hj
              obtain ⟨v', h5, h6⟩ := hnew.get hj
              refine ⟨v', ?_, h6⟩
              have e7 : (cur.toList.take (o' + n * i.size)).length = o' + n * i.size := by simp; omega
              have hlt : j - n * i.size < news'.length := (List.getElem?_eq_some_iff.1 h5).1
              rw [List.append_assoc, List.getElem?_append_right (by omega), e7, List.getElem?_append_left (by omega), show o' + j - (o' + n * i.size) = j - n * i.size by omega]
              exact h5)
        refine ⟨_, _, _, hrun, h3, ?_, h4⟩
        have hput : (μ.put σ.next ⟨p.b, o', p.n⟩) σ.next = some ⟨p.b, o', p.n⟩ := by simp [Mp.put]
        exact VRel.sl (p := ⟨p.b, o', p.n⟩) hput hroom (.inr rfl) (.inr hcN) hmx
      · -- a new block
        have hcell : ∀ j v, ((vs.drop off).take (n * i.size))[j]? = some v → ∃ v', w.cell? ⟨p.b, o' + j, none⟩ = some v' ∧ VRel μ v v' := by
          intro j v hj
          have hjn : j < n * i.size := by
            have := (List.getElem?_eq_some_iff.1 hj).1
            simp at this; omega
          have hn0 : n ≠ 0 := by intro h0; subst h0; simp at hjn
          have ho' : o' = p.s + off := by rcases hc with h | h; omega; exact h
          rw [List.getElem?_take, if_pos hjn, List.getElem?_drop] at hj
          obtain ⟨v', h5, h6⟩ := hcv _ v hj
          refine ⟨v', ?_, h6⟩
          rw [ho', Nat.add_assoc]
          simp only [World.cell?, hcur]
          simpa using h5
        have e6 : ((vs.drop off).take (n * i.size)).length = n * i.size := by simp; omega
        let olds' : List Value := (List.range (n * i.size)).map fun j => (w.cell? ⟨p.b, o' + j, none⟩).getD undef
        have holen : olds'.length = n * i.size := by simp [olds']
        have hold : ∀ j v, olds'[j]? = some v → w.cell? ⟨p.b, o' + j, none⟩ = some v := by
          intro j v hj
          have hjn : j < n * i.size := by have := (List.getElem?_eq_some_iff.1 hj).1; omega
          simp only [olds', List.getElem?_map, List.getElem?_range hjn, Option.map_some, Option.some.injEq] at hj
          obtain ⟨v', h5, _⟩ := hcell j _ (List.getElem?_eq_getElem (by omega))
          rw [h5] at hj ⊢
          simpa using hj
        have hlr : LRel μ ((vs.drop off).take (n * i.size)) olds' := .of (by omega) (fun j v hj => by
          obtain ⟨v', h5, h6⟩ := hcell j v hj
          have hjn : j < n * i.size := by have := (List.getElem?_eq_some_iff.1 hj).1; omega
          exact ⟨v', by simp only [olds', List.getElem?_map, List.getElem?_range hjn, Option.map_some, h5, Option.getD_some], h6⟩)
        have hrun := happ.2.2 olds' (by omega) holen (fun w' hw' => by
          rcases hsp with rfl | hc0
          · exact run_firstCells_some (P := P) w' i.size n ⟨p.b, o', none⟩ n c olds' holen (fun j v hj => by rw [addr_add]; have := hold j v hj; simp only [World.cell?, hw'] at this ⊢; exact this)
          · have hn0 : n = 0 := by omega
            have ho0 : olds' = [] := List.eq_nil_of_length_eq_zero (by rw [holen, hn0, Nat.zero_mul])
            rw [ho0, hn0]
            simp [Builtin.firstCells, loadCells, loadCellsFrom])
        have hcap := grownCap_ge w (n + m) c e
        have hcm := grownCap_le_maxLen w (n + m) c e (by unfold maxLen; omega)
        have hrd := hr.drew.del q
        have hall := hlr.append hnew
        obtain ⟨h3, h4⟩ := hrd.new (olds'.toArray ++ news'.toArray ++ Builtin.zeroCells zv.cells (grownCap w (n + m) c e - (n + m))) e ((vs.drop off).take (n * i.size) ++ news) (by rw [hall.1]; simp) (fun j v hj => by
          obtain ⟨v', h5, h6⟩ := hall.get hj
          refine ⟨v', ?_, h6⟩
          have hlt : j < (olds' ++ news').length := (List.getElem?_eq_some_iff.1 h5).1
          rw [Array.getElem?_append_left (by simpa using hlt)]
          simpa using h5)
        refine ⟨_, _, _, hrun, h3, ?_, h4⟩
        have hput : ∀ nn, (μ.put (σ.del q).next ⟨w.drew.heap.size, 0, nn⟩) σ.next = some ⟨w.drew.heap.size, 0, nn⟩ := fun nn => by simp [Mp.put, St.del]
        refine .sl (hput _) (by omega) (.inr rfl) (.inr ?_) hcm
        simp only [Array.size_append, List.size_toArray, size_zeroCells, hzs, hnl', holen]
        have e8 := mul_fit i.size hcap
        rw [Nat.add_mul] at e8
        omega
theorem firstCells_slice {w' : World} {size n : Nat} {b o' c : Nat} {cs' : List Value} (hl : cs'.length = n * size) (h : ∀ j v, cs'[j]? = some v → w'.cell? ⟨b, o' + j, none⟩ = some v) :
    (Builtin.firstCells size n (.slice (some ⟨b, o', none⟩) n c)).run P w' = .ok cs'.toArray w' :=
  run_firstCells_some (P := P) w' size n ⟨b, o', none⟩ n c cs' hl (fun j v hj => by rw [addr_add]; exact h j v hj)
theorem byteCells_length (s : ByteArray) : (byteCells s).length = s.size := by unfold byteCells; rw [List.length_map, Array.length_toList]; rfl
theorem byteCells_rel (μ : Mp) (s : ByteArray) : LRel μ (byteCells s) (byteCells s) := ⟨rfl, fun i x y hx hy => by
  rw [hx] at hy; cases hy
  simp only [byteCells, List.getElem?_map, Option.map_eq_some_iff] at hx
  obtain ⟨b, _, rfl⟩ := hx
  exact .int _ _⟩
theorem firstCells_string (w' : World) (s : ByteArray) (size : Nat) : (Builtin.firstCells size s.size (.string s)).run P w' = .ok (byteCells s).toArray w' := by
  have hx : s.extract 0 s.size = s := by simp
  simp only [Builtin.firstCells, Sem.run_pure, hx, byteCells]
  congr 1
  apply Array.ext'
  simp
theorem slotsC {c : Call} (ho : o.op = .call c) : ∀ t ∈ c.args.toList.flatMap opT, t ∈ slots o := by
  intro t ht
  simp only [slots, ho, Op.operands, Call.operands]
  cases c.callee <;> simp only [Array.toList_append, List.flatMap_append, List.mem_append] <;> exact .inr ht
theorem exec_builtin {c : Call} {b : Builtin} (ho : o.op = .call c) (hc : c.callee = .builtin b) (ρ : Operand → Value) (w : World) (n : Next) (w' : World)
    (h : (builtin b c.argTypes o.type (c.args.map fun | .const _ => true | _ => false) (c.args.map ρ)).run P w = .ok n w') : (execOp ρ o).run P w = .ok n w' := by
  simp [execOp, ho, resolve, hc, invoke]
  exact h
theorem op_len {c : Call} {σ : St} {K : Value → St → Res} (ho : o.op = .call c) (hc : c.callee = .builtin .len) (hx : c.args.toList.all okOpnd = true)
    (h : opnds fr c.args.toList (fun vs => aLen P c.argTypes.toList vs fun v => K v σ) = some r) : ∃ v, K v σ = some r ∧ Reckons P o fr v := by
  obtain ⟨vs, h1, hv⟩ := opnds_inv hx h
  unfold aLen at h1
  split at h1
  · rename_i t x hts
    have hargs : c.argTypes = #[t] := by rw [← Array.toArray_toList (xs := c.argTypes), hts]
    split at h1
    · rename_i s hu
      refine ⟨_, h1, fun μ a w hf => ?_⟩
      have hl := hv μ a (slots o) (slotsC ho) hf
      obtain ⟨y, m, e1, e2, e3⟩ := hl.inv
      have e4 := e3.inv_nil
      subst e4
      have hmap : c.args.map a.eval = #[y] := by rw [← Array.toArray_toList (xs := c.args.map a.eval)]; simp [e1]
      refine ⟨_, exec_builtin ho hc a.eval w _ w ?_, .int .i64 _⟩
      rw [hmap, hargs, e2.string_inv]
      simp [builtin, run_len_string (P := P) w t o.type s hu, goInt]
    · rename_i e ad n z hu
      refine ⟨_, h1, fun μ a w hf => ?_⟩
      have hl := hv μ a (slots o) (slotsC ho) hf
      obtain ⟨y, m, e1, e2, e3⟩ := hl.inv
      have e4 := e3.inv_nil
      subst e4
      have hmap : c.args.map a.eval = #[y] := by rw [← Array.toArray_toList (xs := c.args.map a.eval)]; simp [e1]
      refine ⟨_, exec_builtin ho hc a.eval w _ w ?_, .int .i64 _⟩
      rw [hmap, hargs]
      rcases e2.slice_inv with ⟨_, e5, _, e6⟩ | ⟨_, _, _, _, _, _, _, _, e6, _⟩
      · subst e5; rw [e6]; simp [builtin, Builtin.len_, run_underlying hu, goInt]
      · rw [e6]; simp [builtin, Builtin.len_, run_underlying hu, goInt]
    · rename_i n e hu
      refine ⟨_, h1, fun μ a w hf => ?_⟩
      have hl := hv μ a (slots o) (slotsC ho) hf
      obtain ⟨y, m, e1, e2, e3⟩ := hl.inv
      have e4 := e3.inv_nil
      subst e4
      have hmap : c.args.map a.eval = #[y] := by rw [← Array.toArray_toList (xs := c.args.map a.eval)]; simp [e1]
      refine ⟨_, exec_builtin ho hc a.eval w _ w ?_, .int .i64 _⟩
      rw [hmap, hargs]
      simp [builtin, Builtin.len_, run_underlying (by assumption : P.underlying t = some (.array _ _)), goInt]
    · cases h1
  · cases h1
theorem op_cap {c : Call} {σ : St} {K : Value → St → Res} (ho : o.op = .call c) (hc : c.callee = .builtin .cap) (hx : c.args.toList.all okOpnd = true)
    (h : opnds fr c.args.toList (fun vs => aCap P c.argTypes.toList vs fun v => K v σ) = some r) : ∃ v, K v σ = some r ∧ Reckons P o fr v := by
  obtain ⟨vs, h1, hv⟩ := opnds_inv hx h
  unfold aCap at h1
  split at h1
  · rename_i t x hts
    have hargs : c.argTypes = #[t] := by rw [← Array.toArray_toList (xs := c.argTypes), hts]
    split at h1
    · rename_i e hu
      obtain ⟨ad, n, z, e1, h2⟩ := asSl_inv h1
      subst e1
      obtain ⟨hn, h3⟩ := need_inv h2
      refine ⟨_, h3, fun μ a w hf => ?_⟩
      have hl := hv μ a (slots o) (slotsC ho) hf
      obtain ⟨y, m, e1, e2, e3⟩ := hl.inv
      have e4 := e3.inv_nil
      subst e4
      have hmap : c.args.map a.eval = #[y] := by rw [← Array.toArray_toList (xs := c.args.map a.eval)]; simp [e1]
      refine ⟨_, exec_builtin ho hc a.eval w _ w ?_, .int .i64 _⟩
      rw [hmap, hargs]
      rcases e2.slice_inv with ⟨_, _, _, e6⟩ | ⟨_, _, _, _, _, _, e5, _⟩
      · rw [e6]; simp [builtin, Builtin.cap_, run_underlying hu, goInt]
      · rw [e5] at hn; cases hn
    · cases h1
  · cases h1
theorem run_min2 (w : World) (k k2 : IntKind) (x y : Int) : (Builtin.min2 (.int k x) (.int k2 y)).run P w = .ok (.int k (mn x y)) w := by simp [Builtin.min2, mn]
theorem op_maxmin {c : Call} {σ : St} {K : Value → St → Res} {b : Builtin} {f : Int → Int → Int} (hb : (b = .max ∧ f = mx) ∨ (b = .min ∧ f = mn)) (ho : o.op = .call c) (hc : c.callee = .builtin b) (hx : c.args.toList.all okOpnd = true)
    (h : opnds fr c.args.toList (fun vs => aMax f vs fun v => K v σ) = some r) : ∃ v, K v σ = some r ∧ Reckons P o fr v := by
  obtain ⟨vs, h1, hv⟩ := opnds_inv hx h
  unfold aMax at h1
  split at h1
  · rename_i k x k2 y
    refine ⟨_, h1, fun μ a w hf => ⟨_, exec_builtin ho hc a.eval w _ w ?_, .int k _⟩⟩
    have hl := hv μ a (slots o) (slotsC ho) hf
    obtain ⟨u, m, e1, e2, e3⟩ := hl.inv
    subst_vars
    obtain ⟨u2, m2, e4, e5, e6⟩ := e3.inv
    have e7 := e6.inv_nil
    subst e7; subst e4
    have hmap : c.args.map a.eval = #[u, u2] := by rw [← Array.toArray_toList (xs := c.args.map a.eval)]; simp [e1]
    rw [hmap, e2.int_inv, e5.int_inv]
    rcases hb with ⟨rfl, rfl⟩ | ⟨rfl, rfl⟩
    · simp [builtin, Builtin.max_, Builtin.max2, mx]
    · simp [builtin, Builtin.min_, Builtin.min2, mn]
  · rename_i k x k2 y k3 z
    refine ⟨_, h1, fun μ a w hf => ⟨_, exec_builtin ho hc a.eval w _ w ?_, .int k _⟩⟩
    have hl := hv μ a (slots o) (slotsC ho) hf
    obtain ⟨u, m, e1, e2, e3⟩ := hl.inv
    obtain ⟨u2, m2, e4, e5, e6⟩ := e3.inv
    obtain ⟨u3, m3, e7, e8, e9⟩ := e6.inv
    have e10 := e9.inv_nil
    subst e10; subst e7; subst e4
    have hmap : c.args.map a.eval = #[u, u2, u3] := by rw [← Array.toArray_toList (xs := c.args.map a.eval)]; simp [e1]
    rw [hmap, e2.int_inv, e5.int_inv, e8.int_inv]
    rcases hb with ⟨rfl, rfl⟩ | ⟨rfl, rfl⟩
    · simp [builtin, Builtin.max_, Builtin.max2, mx]
    · simp [builtin, Builtin.min_, run_min2]
  · cases h1
theorem op_append {c : Call} {σ : St} {K : Value → St → Res} (ho : o.op = .call c) (hc : c.callee = .builtin .append) (hx : c.args.toList.all okOpnd = true)
    (h : opnds fr c.args.toList (fun vs => aAppend P c.argTypes.toList vs σ K) = some r) : ∃ v σ', K v σ' = some r ∧ Ran P o fr σ v σ' := by
  obtain ⟨vs, h1, hv⟩ := opnds_inv hx h
  unfold aAppend at h1
  split at h1
  · rename_i t u s x hts
    have hargs : c.argTypes = #[t, u] := by rw [← Array.toArray_toList (xs := c.argTypes), hts]
    obtain ⟨ad, n, z, e1, h2⟩ := asSl_inv h1
    subst e1
    obtain ⟨e, hu, h3⟩ := elOf_inv h2
    split at h3
    · rename_i zv hz
      obtain ⟨hzl, h4⟩ := need_inv h3
      obtain ⟨i, hi, hiz, hpl⟩ := zeroOf_inv hz
      have hzs : zv.cells.size = i.size := by
        have h5 := Nat.eq_of_beq_eq_true hzl
        have h6 := (plain_rel (fun _ => none) zv hpl).cells.1
        rw [szOf_eq hi] at h5
        simp at h6; omega
      have hmap2 : ∀ (μ : Mp) (a : Act), FrOn μ fr a (slots o) → ∃ sv xv, c.args.map a.eval = #[sv, xv] ∧ VRel μ (.slice ad n z) sv ∧ VRel μ x xv := by
        intro μ a hf
        have hl := hv μ a (slots o) (slotsC ho) hf
        obtain ⟨y, m, e1, e2, e3⟩ := hl.inv
        obtain ⟨y2, m2, e4, e5, e6⟩ := e3.inv
        have e7 := e6.inv_nil
        subst e7; subst e4
        exact ⟨y, y2, by rw [← Array.toArray_toList (xs := c.args.map a.eval)]; simp [e1], e2, e5⟩
      split at h4
      · rename_i e2 hu2
        obtain ⟨a2, m, z2, e3, h5⟩ := asSl_inv h4
        subst e3
        rw [szOf_eq hi, bytesOf_eq hi] at h5
        obtain ⟨news, h6, hnl, hrow⟩ := row_inv h5
        obtain ⟨a1, n1, z1, σ1, h7, hsound⟩ := grow_sound (ty := o.type) hu hu2 (.inl ⟨e2, rfl⟩) hi hiz hzs h6
        refine ⟨_, _, h7, fun W μ a w hf hr => ?_⟩
        obtain ⟨sv, xv, hmap, hsv, hxv⟩ := hmap2 μ a hf
        have hxs : ∃ a2' c2, xv = .slice a2' m c2 := by
          rcases hxv.slice_inv with ⟨_, e5, _, e6⟩ | ⟨_, _, _, _, c2, _, _, _, e6, _⟩
          · subst e5; exact ⟨_, _, e6⟩
          · exact ⟨_, _, e6⟩
        obtain ⟨a2', c2, e5⟩ := hxs
        subst e5
        obtain ⟨news', hl, hll, hcells⟩ := row_rel hr hxv (by intro h0; rcases Nat.eq_zero_or_pos m with h | h; subst h; simp at h0; exact h) hrow
        obtain ⟨v', w', μ', g1, g2, g3, g4⟩ := hsound W μ w sv (.slice a2' m c2) news' hr hsv hl hnl (fun w' => by simp [Builtin.lenOf]) (fun w' hw' => by
          rcases hcells with h0 | ⟨b, o', e6, hcell⟩
          · have h1 : news' = [] := List.eq_nil_of_length_eq_zero (by omega)
            subst h1
            cases a2' with
            | none => simp [Builtin.firstCells]
            | some ad2 => simp [Builtin.firstCells, h0, loadCells, loadCellsFrom]
          · subst e6
            exact firstCells_slice hll (fun j v hj => by have := hcell j v hj; simp only [World.cell?, hw'] at this ⊢; exact this))
        exact ⟨.value v', v', w', μ', exec_builtin ho hc a.eval w _ w' (by rw [hmap, hargs]; simp [builtin, g1]), .inl rfl, g2, g3, g4⟩
      · rename_i hu2
        obtain ⟨b, e3, h50⟩ := asS_inv h4
        subst e3
        obtain ⟨hone0, h5⟩ := need_inv h50
        have hone : i.size = 1 := by rw [← szOf_eq hi]; exact Nat.eq_of_beq_eq_true hone0
        rw [szOf_eq hi, bytesOf_eq hi] at h5
        obtain ⟨a1, n1, z1, σ1, h7, hsound⟩ := grow_sound (ty := o.type) hu hu2 (.inr rfl) hi hiz hzs h5
        refine ⟨_, _, h7, fun W μ a w hf hr => ?_⟩
        obtain ⟨sv, xv, hmap, hsv, hxv⟩ := hmap2 μ a hf
        rw [hxv.string_inv] at hmap
        · obtain ⟨v', w', μ', g1, g2, g3, g4⟩ := hsound W μ w sv (.string b) (byteCells b) hr hsv (byteCells_rel μ b) (by rw [byteCells_length, hone]; omega) (fun w' => by simp [Builtin.lenOf]) (fun w' hw' => firstCells_string w' b i.size)
          exact ⟨.value v', v', w', μ', exec_builtin ho hc a.eval w _ w' (by rw [hmap, hargs]; simp [builtin, g1]), .inl rfl, g2, g3, g4⟩
      · rename_i ik hu2
        obtain ⟨m, e3, h5⟩ := asI_inv h4
        subst e3
        obtain ⟨hb, h6⟩ := need_inv h5
        simp only [Bool.and_eq_true, decide_eq_true_eq, szOf_eq hi, bytesOf_eq hi] at hb
        obtain ⟨⟨⟨⟨hb1, hb2⟩, hb3⟩, hb4⟩, hb5⟩ := hb
        have hadn : ad = none := by cases ad with | none => rfl | some _ => cases hb1
        subst hadn
        rw [szOf_eq hi] at h6
        unfold sizeTop at hb4
        unfold roomTop at hb3
        refine ⟨_, _, h6, fun W μ a w hf hr => ?_⟩
        obtain ⟨sv, xv, hmap, hsv, hxv⟩ := hmap2 μ a hf
        rw [hxv.int_inv] at hmap
        rcases hsv.slice_inv with ⟨_, _, _, e6⟩ | ⟨_, _, _, _, _, _, e5, _⟩
        rotate_left
        · cases e5
        subst e6
        have hmn : ((m.toNat : Nat) : Int) = m := by omega
        have hrun := run_appz (P := P) (w := w) (ty := o.type) hu hu2 hi hiz hb5 m.toNat (by omega) (by omega) hb3
        rw [hmn] at hrun
        have hcap := grownCap_ge w (0 + m.toNat) 0 e
        have hcm := grownCap_le_maxLen w (0 + m.toNat) 0 e (by unfold maxLen; omega)
        rw [Nat.zero_add] at hrun hcap hcm
        have hzl : (Value.cellsL zv).length = i.size := by have := Nat.eq_of_beq_eq_true hzl; rwa [szOf_eq hi] at this
        obtain ⟨g1, g2⟩ := zeros_rel (μ := μ) (n := m.toNat) (m := m.toNat * i.size) hpl hzl hb5 (Nat.le_refl _)
        have hzc : Builtin.zeroCells zv.cells m.toNat = madeCells zv.cells (m.toNat * i.size) := by unfold Builtin.zeroCells madeCells; rw [hzs]
        obtain ⟨h3, h4⟩ := hr.drew.new (Builtin.zeroCells zv.cells m.toNat ++ Builtin.zeroCells zv.cells (grownCap w (m.toNat) 0 e - m.toNat)) e (zerosN (Value.cellsL zv) m.toNat) (by rw [Array.size_append, hzc]; omega) (fun j v hj => by
          obtain ⟨v', h7, h8⟩ := g2 j v hj
          have hlt : j < (madeCells zv.cells (m.toNat * i.size)).size := (Array.getElem?_eq_some_iff.1 h7).1
          exact ⟨v', by rw [hzc, Array.getElem?_append_left hlt]; exact h7, h8⟩)
        refine ⟨.value _, _, _, _, exec_builtin ho hc a.eval w _ _ (by rw [hmap, hargs]; simp [builtin, hrun]; rfl), .inl rfl, h3, ?_, h4⟩
        have hput : ∀ nn, (μ.put σ.next ⟨w.drew.heap.size, 0, nn⟩) σ.next = some ⟨w.drew.heap.size, 0, nn⟩ := fun nn => by simp [Mp.put]
        refine .sl (hput _) (by omega) (.inr rfl) (.inr ?_) hcm
        simp only [Array.size_append, size_zeroCells, hzs]
        have := mul_fit i.size hcap
        omega
      · cases h4
    · cases h3
  · cases h1
end
end Go.AM

namespace Go.AM
open Go.RowKit
variable [Laid]
section
variable {P : Program} {o : Oper} {fr : Fr} {r : Value × St}
theorem op_copy {c : Call} {σ : St} {K : Value → St → Res} (ho : o.op = .call c) (hc : c.callee = .builtin .copy) (hx : c.args.toList.all okOpnd = true)
    (h : opnds fr c.args.toList (fun vs => aCopy P c.argTypes.toList vs σ K) = some r) : ∃ v σ', K v σ' = some r ∧ Ran P o fr σ v σ' := by
  obtain ⟨vs, h1, hv⟩ := opnds_inv hx h
  unfold aCopy at h1
  split at h1
  · rename_i t u d x hts
    have hargs : c.argTypes = #[t, u] := by rw [← Array.toArray_toList (xs := c.argTypes), hts]
    obtain ⟨ad, n, z, e1, h2⟩ := asSl_inv h1
    subst e1
    obtain ⟨e, hu, h3⟩ := elOf_inv h2
    obtain ⟨hb, h4⟩ := need_inv h3
    have hpos : 0 < szOf P e := by simpa using hb
    obtain ⟨i, hi, hsz⟩ := szOf_pos hpos
    split at h4
    · rename_i e2 hu2
      obtain ⟨a2, m, z2, e3, h5⟩ := asSl_inv h4
      subst e3
      have hmap2 : ∀ (μ : Mp) (a : Act), FrOn μ fr a (slots o) → ∃ sv xv, c.args.map a.eval = #[sv, xv] ∧ VRel μ (.slice ad n z) sv ∧ VRel μ (.slice a2 m z2) xv := by
        intro μ a hf
        have hl := hv μ a (slots o) (slotsC ho) hf
        obtain ⟨y, mm, e1, e2, e3⟩ := hl.inv
        obtain ⟨y2, m2, e4, e5, e6⟩ := e3.inv
        have e7 := e6.inv_nil
        subst e7; subst e4
        exact ⟨y, y2, by rw [← Array.toArray_toList (xs := c.args.map a.eval)]; simp [e1], e2, e5⟩
      have hsl : ∀ (μ : Mp) (A : Option Addr) (N Z : Nat) (v : Value), VRel μ (.slice A N Z) v → ∃ A' C, v = .slice A' N C := by
        intro μ A N Z v hxv
        rcases hxv.slice_inv with ⟨_, e5, _, e6⟩ | ⟨_, _, _, _, c2, _, _, _, e6, _⟩
        · subst e5; exact ⟨_, _, e6⟩
        · exact ⟨_, _, e6⟩
      unfold cpy at h5
      split at h5
      · rename_i hk0
        refine ⟨_, _, h5, fun W μ a w hf hr => ?_⟩
        obtain ⟨sv, xv, hmap, hsv, hxv⟩ := hmap2 μ a hf
        obtain ⟨A', C, e6⟩ := hsl _ _ _ _ _ hsv
        obtain ⟨A2', C2, e7⟩ := hsl _ _ _ _ _ hxv
        subst e6; subst e7
        have hmn0 : min m n = 0 := by rcases Nat.mul_eq_zero.1 hk0 with h | h; exact h; omega
        have hfc : (Builtin.firstCells i.size 0 (.slice A2' m C2)).run P w = .ok #[] w := by cases A2' <;> simp [Builtin.firstCells, loadCells, loadCellsFrom]
        have hmn0' : Nat.min m n = 0 := hmn0
        refine ⟨.value (goInt 0), goInt 0, w, μ, exec_builtin ho hc a.eval w _ w ?_, .inl rfl, Mp.le.refl μ, by rw [hmn0]; exact .int .i64 _, hr⟩
        rw [hmap, hargs]
        cases A' <;> simp [builtin, Builtin.copy_, run_underlying hu, Builtin.lenOf, sizeOf, typeInfo, hi, hmn0', hmn0, hfc, storeCells, goInt]
      · rename_i hk0
        obtain ⟨q2, o2, e6, h6⟩ := adr_inv h5
        subst e6
        obtain ⟨vs2, hvs2, hn2, h7⟩ := lds_inv h6
        obtain ⟨q, off, e7, h8⟩ := adr_inv h7
        subst e7
        obtain ⟨us, el, hg, hfit, hone, h9⟩ := put_inv h8
        refine ⟨_, _, h9, fun W μ a w hf hr => ?_⟩
        obtain ⟨sv, xv, hmap, hsv, hxv⟩ := hmap2 μ a hf
        obtain ⟨A', C, e8⟩ := hsl _ _ _ _ _ hsv
        obtain ⟨A2', C2, e9⟩ := hsl _ _ _ _ _ hxv
        subst e8; subst e9
        have hk1 : min m n * szOf P e ≠ 0 := hk0
        have hmn : 0 < min m n := by rcases Nat.eq_zero_or_pos (min m n) with h | h; rw [h] at hk1; simp at hk1; exact h
        obtain ⟨news', hl, hll, hcells⟩ := row_rel (n := min m n * szOf P e) hr hxv (fun _ => by omega) (.inr ⟨q2, o2, vs2, rfl, hvs2, hn2, rfl⟩)
        rcases hcells with h0 | ⟨b, o', e10, hcell⟩
        · exact absurd h0 hk1
        subst e10
        obtain ⟨p, o3, c3, hp, e11, hn3, hc3, hz3, hm3⟩ := hsv.sl_inv (by omega)
        cases e11
        have ho3 : o3 = p.s + off := by rcases hc3 with h | h; omega; exact h
        subst ho3
        obtain ⟨p', cur, hp', hcur, hle, hrel⟩ := hr.put hg hfit hl
        rw [hp] at hp'
        cases hp'
        have hst := run_storeCells_at P p.b (p.s + off) el news' 0 cur w hcur (by simpa using hle) (hl.oneCells hone)
        have hfc := firstCells_slice (P := P) (w' := w) (size := i.size) (n := min m n) (b := b) (o' := o') (c := C2) (by rw [hsz]; exact hll) hcell
        refine ⟨.value (goInt (min m n : Nat)), _, _, μ, exec_builtin ho hc a.eval w _ _ ?_, .inl rfl, Mp.le.refl μ, .int .i64 _, hrel⟩
        rw [hmap, hargs]
        have hfc' : (Builtin.firstCells i.size (Nat.min m n) (.slice (some ⟨b, o', none⟩) m C2)).run P w = .ok news'.toArray w := by
          have e12 : (Builtin.firstCells i.size (min m n) (.slice (some ⟨b, o', none⟩) m C2)).run P w = (Builtin.firstCells i.size (min m n) (.slice (some ⟨b, o', none⟩) (min m n) C2)).run P w := by simp [Builtin.firstCells]
          exact e12.trans hfc
        simp only [Nat.add_zero] at hst
        simp [builtin, Builtin.copy_, run_underlying hu, Builtin.lenOf, sizeOf, typeInfo, hi, hfc', hst, goInt]
    · cases h4
  · cases h1
theorem bytesIn_spec : ∀ {cs : List Value} {l : List UInt8}, bytesIn cs = some l → ∃ ns : List Int, cs = ns.map (Value.int .u8) ∧ l = ns.map fun n => UInt8.ofNat n.toNat
  | [], l, h => by simp [bytesIn] at h; subst h; exact ⟨[], rfl, rfl⟩
  | v :: cs, l, h => by
    cases v <;> try (simp [bytesIn] at h; done)
    rename_i k n
    cases k <;> try (simp [bytesIn] at h; done)
    simp only [bytesIn, Option.map_eq_some_iff] at h
    obtain ⟨l', h1, h2⟩ := h
    obtain ⟨ns, h3, h4⟩ := bytesIn_spec h1
    exact ⟨n :: ns, by simp [h3], by rw [← h2, h4]; rfl⟩
theorem fold_push : ∀ (ns : List Int) (b : ByteArray), ns.foldl (fun r n => r.push (UInt8.ofNat n.toNat)) b = ⟨(b.data.toList ++ ns.map fun n => UInt8.ofNat n.toNat).toArray⟩
  | [], b => by simp
  | n :: ns, b => by
    simp only [List.foldl_cons]
    rw [fold_push ns]
    simp [ByteArray.push]
theorem ints_rel {μ : Mp} {ns : List Int} {k : IntKind} {l : List Value} (h : LRel μ (ns.map (Value.int k)) l) : l = ns.map (Value.int k) := by
  apply List.ext_getElem?
  intro i
  rcases Nat.lt_or_ge i ns.length with hi | hi
  · obtain ⟨y, h1, h2⟩ := h.get (i := i) (x := .int k ns[i]) (by simp [hi])
    rw [h1, h2.int_inv]; simp [hi]
  · have h1 := h.1
    simp only [List.length_map] at h1
    rw [List.getElem?_eq_none (by omega), List.getElem?_eq_none (by simpa using hi)]
theorem bytesWorld_eq (w : World) (e : TypeId) (b : ByteArray) : Lib.bytesWorld w e b = { w.drew with heap := w.drew.heap.push (.cells (Lib.bytesCells w e b) e ((Lib.bytesCells w e b).size, (Lib.bytesCells w e b).size + 1)) } := by
  have hh : (Lib.bytesWorld w e b).heap = w.heap.push (.cells (Lib.bytesCells w e b) e ((Lib.bytesCells w e b).size, (Lib.bytesCells w e b).size + 1)) := by
    apply Array.ext_getElem?
    intro k
    rcases Nat.lt_trichotomy k w.heap.size with hk | hk | hk
    · rw [Lib.bytesWorld_at_old w e b k hk]; simp [Array.getElem?_push, Nat.ne_of_lt hk]
    · subst hk; rw [Lib.bytesWorld_at_new]; simp
    · rw [Array.getElem?_eq_none (by rw [Lib.bytesWorld_size]; omega), Array.getElem?_eq_none (by simp; omega)]
  have hd : Lib.bytesWorld w e b = { w.drew with heap := (Lib.bytesWorld w e b).heap } := by
    unfold Lib.bytesWorld World.freeze; simp; exact ⟨rfl, rfl⟩
  rw [hd, hh]; rfl
theorem op_convert {x : Operand} {s d : TypeId} {σ : St} {K : Value → St → Res} (ho : o.op = .convert s d x) (hx : okOpnd x = true) (h : opnd fr x (fun v => aConv P s d v σ K) = some r) :
    ∃ v σ', K v σ' = some r ∧ Ran P o fr σ v σ' ∧ (acts P o = false → σ' = σ ∧ (looks P o = false → Reckons P o fr v)) := by
  obtain ⟨v, h1, hv⟩ := opnd_inv hx h
  have hs : ∀ t ∈ opT x, t ∈ slots o := by intro t ht; simp only [slots, ho, Op.operands]; simpa using ht
  unfold aConv at h1
  split at h1
  · rename_i k1 k k2 n hus hud
    have hR : Reckons P o fr (.int k (k.wrap n)) := fun μ a w hf => by
      have e1 := (hv μ a (slots o) hs hf).int_inv
      exact ⟨.int k (k.wrap n), by simp [execOp, ho, e1, convert, run_underlying hus, run_underlying hud, Conv.intToInt], .int _ _⟩
    exact ⟨_, _, h1, hR.ran σ, fun _ => ⟨rfl, fun _ => hR⟩⟩
  · rename_i b hus hud
    have hR : Reckons P o fr (.string b) := fun μ a w hf => by
      have e1 := (hv μ a (slots o) hs hf).string_inv
      exact ⟨.string b, by simp [execOp, ho, e1, convert, run_underlying hus, run_underlying hud], .string _⟩
    exact ⟨_, _, h1, hR.ran σ, fun _ => ⟨rfl, fun _ => hR⟩⟩
  · rename_i e b hus hud
    split at h1
    · rename_i hue
      obtain ⟨hb, h2⟩ := need_inv h1
      have htop : b.size ≤ sizeTop := by simpa using hb
      refine ⟨_, _, h2, fun W μ a w hf hr => ?_, fun hact => by simp [acts, ho, hud] at hact⟩
      have e1 := (hv μ a (slots o) hs hf).string_inv
      have hrun := Lib.run_convert_string_bytes (P := P) w s d e b hus hud hue
      have hcs : (Lib.bytesCells w e b).size = grownCap w b.size 0 e := by
        have := grownCap_ge w b.size 0 e
        have h9 : b.data.size = b.size := rfl
        simp [Lib.bytesCells, h9]; omega
      obtain ⟨h3, h4⟩ := hr.drew.newRo (Lib.bytesCells w e b) e ((Lib.bytesCells w e b).size, (Lib.bytesCells w e b).size + 1) (byteCells b) (Lib.bytesWorld w e b)
        (bytesWorld_eq w e b)
        (fun j v hj => by
          refine ⟨v, ?_, (byteCells_rel μ b).2 j v v hj hj⟩
          have hjl : j < b.size := by have := (List.getElem?_eq_some_iff.1 hj).1; rw [byteCells_length] at this; exact this
          simp only [byteCells, List.getElem?_map, Option.map_eq_some_iff] at hj
          obtain ⟨u, hu1, hu2⟩ := hj
          have h9 : b.data.size = b.size := rfl
          rw [Lib.bytesCells, Array.getElem?_append_left (by simpa [h9] using hjl), Array.getElem?_map]
          rw [Array.getElem?_toList] at hu1
          rw [hu1, ← hu2]; rfl)
      refine ⟨_, _, _, _, by simp [execOp, ho, e1, hrun]; rfl, .inl rfl, h3, ?_, h4⟩
      have hput : ∀ nn, (μ.put σ.next ⟨w.drew.heap.size, 0, nn⟩) σ.next = some ⟨w.drew.heap.size, 0, nn⟩ := fun nn => by simp [Mp.put]
      exact VRel.sl (p := ⟨w.drew.heap.size, 0, (Lib.bytesCells w e b).size⟩) (hput _) (grownCap_ge w b.size 0 e) (.inr rfl) (.inl rfl) (grownCap_le_maxLen w b.size 0 e (by unfold maxLen; unfold sizeTop at htop; omega))
    · cases h1
  · rename_i e ad n z hus hud
    split at h1
    · rename_i hue
      obtain ⟨cs, h2, hcl, hrow⟩ := row_inv h1
      obtain ⟨l, hl, h3⟩ := asBy_inv h2
      refine ⟨_, _, h3, fun W μ a w hf hr => ?_, fun _ => ⟨rfl, fun hlk => by simp [looks, ho, hus] at hlk⟩⟩
      have e1 := hv μ a (slots o) hs hf
      have hxs : ∃ a2' c2, a.eval x = .slice a2' n c2 := by
        rcases e1.slice_inv with ⟨_, e5, _, e6⟩ | ⟨_, _, _, _, c2, _, _, _, e6, _⟩
        · subst e5; exact ⟨_, _, e6⟩
        · exact ⟨_, _, e6⟩
      obtain ⟨a2', c2, e5⟩ := hxs
      rw [e5] at e1
      obtain ⟨ns, hns, hll⟩ := bytesIn_spec hl
      obtain ⟨cs', hlr, hlen, hcells⟩ := row_rel hr e1 id hrow
      subst hns
      have hcs' := ints_rel hlr
      subst hcs'
      refine ⟨.value (.string ⟨l.toArray⟩), .string ⟨l.toArray⟩, w, μ, ?_, .inl rfl, Mp.le.refl μ, .string _, hr⟩
      have hconv : (convert s d (.slice a2' n c2)).run P w = .ok (.string ⟨l.toArray⟩) w := by
        rw [run_convert_bytes_string w s d e a2' n c2 hus hue hud]
        cases a2' with
        | none =>
          have hn0 : n = 0 := by
            rcases hcells with h | ⟨b, o', h, _⟩
            · exact h
            · cases h
          have hns0 : ns = [] := by simp only [List.length_map] at hlen; exact List.eq_nil_of_length_eq_zero (by omega)
          subst hns0
          simp [Conv.bytesToString, hll]; rfl
        | some a3 =>
          have hlc : (loadCells a3 n).run P w = .ok (ns.map (Value.int .u8)).toArray w := by
            have hnl : (ns.map (Value.int .u8)).length = n := hlen
            conv => lhs; rw [← hnl]
            refine run_loadCells_list w a3 _ (fun j v hj => ?_)
            rcases hcells with h | ⟨b, o', h, hc⟩
            · have := (List.getElem?_eq_some_iff.1 hj).1; omega
            · cases h; rw [addr_add]; exact hc j v hj
          rw [run_bytesToString w a3 n c2 ns hlc, fold_push, hll]; simp
      simp [execOp, ho, e5, hconv]
    · cases h1
  · cases h1
def After (W : Base) (μ : Mp) (v : Value) (σ' : St) : Ending → World → Prop
  | .returned v', w' => ∃ μ', μ.le μ' ∧ VRel μ' v v' ∧ Rel W μ' σ' w'
  | _, _ => False
def CallOK (P : Program) (call : FuncId → List Value → St → Res) : Prop :=
  ∀ f args σ v σ', call f args σ = some (v, σ') → (∃ fn, P.funcs[f]? = some fn ∧ fn.name ≠ "runtime.NumGoroutine" ∧ fn.body.isSome = true) ∧
    ∀ (W : Base) (μ : Mp) (w : World) (args' : List Value), LRel μ args args' → Rel W μ σ w → Calls P f args'.toArray w (After W μ v σ')
theorem op_go {call : FuncId → List Value → St → Res} (hcall : CallOK P call) {c : Call} {f : Operand} {σ : St} {K : Value → St → Res} (ho : o.op = .call c) (hc : c.callee = .value f) (hf0 : okOpnd f = true) (hx : c.args.toList.all okOpnd = true)
    (h : opnd fr f (fun fv => asF fv fun g first caps => opnds fr c.args.toList fun vs => bnd (call g (first ++ vs ++ caps) σ) fun v σ' => dstr P o.type v fun u => K u σ') = some r) :
    ∃ v σ', K v σ' = some r ∧ Sound P o fr σ v σ' := by
  obtain ⟨fv, h1, hfv⟩ := opnd_inv hf0 h
  obtain ⟨g, A, B, e1, h2⟩ := asF_inv h1
  subst e1
  obtain ⟨vs, h3, hvs⟩ := opnds_inv hx h2
  obtain ⟨v, σ', h4, h5⟩ := bnd_inv h3
  have h6 := dstr_inv h5
  obtain ⟨⟨fn, hfn, hname, hbody⟩, hC⟩ := hcall _ _ _ _ _ h4
  refine ⟨v, σ', h6, fun W μ a w hf hr next Q hn => ?_⟩
  have hfr := hfv μ a (slots o) (by intro t ht; simp only [slots, ho, Op.operands, Call.operands, hc, Array.toList_append, List.flatMap_append, List.mem_append]; exact .inl (by simpa using ht)) hf
  obtain ⟨A', B', hg, hA, hB⟩ := hfr.func_inv
  have hl := hvs μ a (slots o) (slotsC ho) hf
  have hall := (hA.append hl).append hB
  have hcalls := hC W μ w _ hall hr
  have hargs : (A'.toList ++ List.map a.eval c.args.toList ++ B'.toList).toArray = A' ++ c.args.map a.eval ++ B' := by simp
  rw [hargs] at hcalls
  have hrun : (execOp a.eval o).run P w = .ok (.enter g (A' ++ c.args.map a.eval ++ B')) w := by
    obtain ⟨cb, hcb⟩ := Option.isSome_iff_exists.1 hbody
    simp [execOp, ho, resolve, hc, Deferred.ofValue, hg, invoke, callFunc, hfn, hname, hcb]
  unfold Oper.wp
  rw [hrun, Oper.upon_enter]
  refine Calls.mono hcalls (fun e w' he => ?_)
  cases e with
  | returned v' => obtain ⟨μ', h7, h8, h9⟩ := he; exact hn v' w' μ' h7 h8 h9
  | panicked ch => exact he.elim
  | outgrown => exact he.elim
theorem directM_run {t : TypeId} {m : String} {f : FuncId} (h : directM P t m = some f) (n : Nat) (u : Value) (w : World) : (Go.method (n + 1) t u m).run P w = .ok (f, u) w := by
  unfold directM at h
  split at h
  case h_2 => cases h
  rename_i i hi
  split at h
  case h_2 => cases h
  rename_i r hf
  split at h
  case h_2 => cases h
  rename_i f' b d hfn hu
  cases hc : (r.path.isEmpty && (isPtrD d == b)) with
  | false => rw [hc] at h; cases h
  | true =>
  rw [hc] at h
  cases h
  simp only [Bool.and_eq_true, beq_iff_eq] at hc
  obtain ⟨hp, hb⟩ := hc
  have hp' : r.path.toList = [] := by simpa using hp
  cases d <;> simp only [isPtrD] at hb <;> subst hb <;> simp [Go.method, typeInfo, hi, hf, hp', hfn, follow, receiverAt, run_underlying hu, Place.get]
theorem aMeth_inv {v : Value} {m : String} {K : FuncId → Value → Res} (h : aMeth P v m K = some r) : ∃ t u f, v = .iface t u ∧ directM P t m = some f ∧ K f u = some r := by
  unfold aMeth at h
  split at h
  · split at h
    · exact ⟨_, _, _, rfl, ‹_›, h⟩
    · cases h
  · cases h
theorem op_invoke {call : FuncId → List Value → St → Res} (hcall : CallOK P call) {c : Call} {x : Operand} {m : String} {σ : St} {K : Value → St → Res} (ho : o.op = .call c) (hc : c.callee = .invoke x m) (hf0 : okOpnd x = true) (hx : c.args.toList.all okOpnd = true)
    (h : opnd fr x (fun xv => aMeth P xv m fun g u => opnds fr c.args.toList fun vs => bnd (call g (u :: vs) σ) fun v σ' => dstr P o.type v fun u => K u σ') = some r) :
    ∃ v σ', K v σ' = some r ∧ Sound P o fr σ v σ' := by
  obtain ⟨xv, h1, hfv⟩ := opnd_inv hf0 h
  obtain ⟨t, u, g, e1, hd, h2⟩ := aMeth_inv h1
  subst e1
  obtain ⟨vs, h3, hvs⟩ := opnds_inv hx h2
  obtain ⟨v, σ', h4, h5⟩ := bnd_inv h3
  have h6 := dstr_inv h5
  obtain ⟨⟨fn, hfn, hname, hbody⟩, hC⟩ := hcall _ _ _ _ _ h4
  refine ⟨v, σ', h6, fun W μ a w hf hr next Q hn => ?_⟩
  have hfr := hfv μ a (slots o) (by intro t ht; simp only [slots, ho, Op.operands, Call.operands, hc, Array.toList_append, List.flatMap_append, List.mem_append]; exact .inl (by simpa using ht)) hf
  obtain ⟨u', hg, hu⟩ := hfr.iface_inv
  have hl := hvs μ a (slots o) (slotsC ho) hf
  have hcalls := hC W μ w _ (.cons hu hl) hr
  have hargs : (u' :: List.map a.eval c.args.toList).toArray = #[u'] ++ c.args.map a.eval := by simp
  rw [hargs] at hcalls
  have hrun : (execOp a.eval o).run P w = .ok (.enter g (#[u'] ++ c.args.map a.eval)) w := by
    obtain ⟨cb, hcb⟩ := Option.isSome_iff_exists.1 hbody
    have hm := directM_run hd (P.types.size + 99) u' w
    have hex : (#[Value.iface t u'] ++ c.args.map a.eval).extract 1 (#[Value.iface t u'] ++ c.args.map a.eval).size = c.args.map a.eval := by simp
    have h0 : (#[Value.iface t u'] ++ c.args.map a.eval)[0]? = some (.iface t u') := by rw [Array.getElem?_append_left (by simp)]; rfl
    simp [execOp, ho, resolve, hc, hg, invoke, h0, callMethod, Made.depth, hm, callFunc, hfn, hname, hcb]
    congr 1
    apply Array.ext'
    simp [List.take_of_length_le]
  unfold Oper.wp
  rw [hrun, Oper.upon_enter]
  refine Calls.mono hcalls (fun e w' he => ?_)
  cases e with
  | returned v' => obtain ⟨μ', h7, h8, h9⟩ := he; exact hn v' w' μ' h7 h8 h9
  | panicked ch => exact he.elim
  | outgrown => exact he.elim
end
end Go.AM

namespace Go.AM
open Go.RowKit
variable [Laid]
section
variable {W : Base} {μ : Mp} {σ : St} {w : World}
theorem setObj_other (w : World) (b k : Nat) (ob : Obj) (h : k ≠ b) : ({ w with heap := w.heap.setIfInBounds b ob } : World).heap[k]? = w.heap[k]? := by
  simp only
  exact Array.getElem?_setIfInBounds_ne (fun e => h e.symm)
theorem setObj_self (w : World) (b : Nat) (ob o' : Obj) (h : w.heap[b]? = some o') : ({ w with heap := w.heap.setIfInBounds b ob } : World).heap[b]? = some ob := by
  have hb : b < w.heap.size := (Array.getElem?_eq_some_iff.1 h).1
  simp only
  exact Array.getElem?_setIfInBounds_self_of_lt hb
theorem setObj_below {w w' : World} {b : Nat} {B : Nat} (h : Below B w w') (hb : B ≤ b) (ob : Obj) : Below B w { w' with heap := w'.heap.setIfInBounds b ob } :=
  ⟨h.os, h.tape, h.output, by have := h.size; simpa using this, fun k hk => by rw [setObj_other w' b k ob (by omega)]; exact h.block k hk⟩
theorem Rel.setMp (h : Rel W μ σ w) {r : Nat} {kv0 : List (Int × Value)} {p : Pl} {es0 : Array MapEntry} {ck0 : Nat} (hr : σ.get r = some (.mp kv0)) (hp : μ r = some p) (hWb : W.free p.b) (hc : w.heap[p.b]? = some (.map es0 ck0))
    (kv : List (Int × Value)) (es : Array MapEntry) (ck : Nat) (hlen : kv.length = es.toList.length) (hk : ∀ (i : Nat) k v e, kv[i]? = some (k, v) → es.toList[i]? = some e → e.key = .int .i64 k ∧ VRel μ v e.val ∧ oneCell v = true) :
    Rel W μ (σ.set r (.mp kv)) { w with heap := w.heap.setIfInBounds p.b (.map es ck) } := by
  have hB : (Blk.mp kv0).wr = true := rfl
  have hother : ∀ k B' q, k ≠ r → σ.get k = some B' → μ k = some q → q.b ≠ p.b := fun k B' q hk hB' hq hb => hk (h.inj r k _ _ p q hr hB hB' hp hq hb.symm).symm
  refine ⟨setObj_below h.below hWb.1 _, ?_, ?_, ?_, ?_, ?_, ?_, h.laid, fun b o he => by rw [setObj_other w p.b b _ (fun e => by subst e; rw [hWb.2] at he; cases he)]; exact h.extra b o he, fun k q C hq hC => by
    simp only [St.set] at hC
    split at hC
    · rename_i e1; subst e1; exact h.apart k q _ hq hr
    · exact h.apart k q C hq hC⟩
  · intro k hk
    have hk' : σ.next ≤ k := hk
    have hlt := h.ltNext hr
    have hne : k ≠ r := by omega
    have := h.fresh k hk'
    exact ⟨this.1, by simp [St.set, hne, this.2]⟩
  · intro k q C hq hC
    have hsz : ({ w with heap := w.heap.setIfInBounds p.b (.map es ck) } : World).heap.size = w.heap.size := by simp
    rw [hsz]
    simp only [St.set] at hC
    split at hC
    · rename_i e1; subst e1; exact h.lt k q _ hq hr
    · exact h.lt k q C hq hC
  · intro k us e' hk
    simp only [St.set] at hk
    split at hk
    · cases hk
    · rename_i hkr
      obtain ⟨q, c, hq, hb, hcc, hss, hn, hvs⟩ := h.own k us e' hk
      exact ⟨q, c, hq, hb, by rw [setObj_other w p.b q.b _ (hother k _ q hkr hk hq)]; exact hcc, hss, hn, hvs⟩
  · intro k us hk
    simp only [St.set] at hk
    split at hk
    · cases hk
    · rename_i hkr
      obtain ⟨q, hq, hvs⟩ := h.ro k us hk
      refine ⟨q, hq, fun i v hi => ?_⟩
      obtain ⟨v', h1, h2⟩ := hvs i v hi
      refine ⟨v', ?_, h2⟩
      rw [World.cell?_of_block (setObj_other w p.b q.b _ (hother k _ q hkr hk hq))]
      exact h1
  · intro k kv' hk'
    simp only [St.set] at hk'
    split at hk'
    · rename_i e1; subst e1
      simp only [Option.some.injEq, Blk.mp.injEq] at hk'
      subst hk'
      exact ⟨p, es, ck, hp, hWb, setObj_self w p.b _ _ hc, hlen, hk⟩
    · rename_i hkr
      obtain ⟨q, es', ck', hq, hb, hm, hlen', hkk⟩ := h.mp k kv' hk'
      exact ⟨q, es', ck', hq, hb, by rw [setObj_other w p.b q.b _ (hother k _ q hkr hk' hq)]; exact hm, hlen', hkk⟩
  · intro k k' C C' q q' hk hw hk' hq hq' hb
    simp only [St.set] at hk hk'
    have hk1 : ∃ C0, σ.get k = some C0 ∧ (C.wr = true → C0.wr = true) := by
      split at hk
      · rename_i e1; subst e1; exact ⟨_, hr, fun _ => hB⟩
      · exact ⟨C, hk, id⟩
    have hk2 : ∃ C0, σ.get k' = some C0 := by
      split at hk'
      · rename_i e1; subst e1; exact ⟨_, hr⟩
      · exact ⟨C', hk'⟩
    obtain ⟨C0, g1, g2⟩ := hk1
    obtain ⟨C1, g3⟩ := hk2
    exact h.inj k k' C0 C1 q q' g1 (g2 hw) g3 hq hq' hb
theorem Rel.newMp (h : Rel W μ σ w) :
    μ.le (μ.put σ.next ⟨w.heap.size, 0, 0⟩) ∧ Rel W (μ.put σ.next ⟨w.heap.size, 0, 0⟩) (σ.new (.mp [])) (w.alloc (.map #[] 0)) := by
  have hle : μ.le (μ.put σ.next ⟨w.heap.size, 0, 0⟩) := Mp.put_le (h.fresh _ (Nat.le_refl _)).1
  have hput : (μ.put σ.next ⟨w.heap.size, 0, 0⟩) σ.next = some ⟨w.heap.size, 0, 0⟩ := by simp [Mp.put]
  have hold : ∀ b, b < w.heap.size → (w.alloc (.map #[] 0)).heap[b]? = w.heap[b]? := fun b hb => heap_alloc_old w _ b hb
  have hcell : ∀ a : Addr, a.block < w.heap.size → (w.alloc (.map #[] 0)).cell? a = w.cell? a := fun a ha => World.cell?_alloc_lt w _ a ha
  refine ⟨hle, ?_, ?_, ?_, ?_, ?_, ?_, ?_, h.laid, fun b o he => by rw [hold b (h.exLt he)]; exact h.extra b o he, fun r q B hq hB => by
    simp only [Mp.put] at hq
    simp only [St.new] at hB
    split at hq
    · cases hq; exact h.freeNew.2
    · rename_i hne
      rw [if_neg hne] at hB
      exact h.apart r q B hq hB⟩
  · exact h.below.alloc h.below.size _
  · intro r hr
    have hr' : σ.next + 1 ≤ r := hr
    have hne : r ≠ σ.next := by omega
    have := h.fresh r (by omega)
    exact ⟨by simp [Mp.put, hne, this.1], by simp [St.new, hne, this.2]⟩
  · intro r p B hp hB
    simp only [Mp.put] at hp
    simp only [St.new] at hB
    split at hp
    · cases hp; simp
    · rename_i hne
      rw [if_neg hne] at hB
      have := h.lt r p B hp hB; simp; omega
  · intro r us e' hr
    simp only [St.new] at hr
    split at hr
    · cases hr
    · obtain ⟨p, c, hp, hb, hc, hs, hn, hvs⟩ := h.own r us e' hr
      exact ⟨p, c, hle _ _ hp, hb, by rw [hold _ (h.lt _ _ _ hp hr)]; exact hc, hs, hn, fun i v hi => by obtain ⟨v', h1, h2⟩ := hvs i v hi; exact ⟨v', h1, h2.mono hle⟩⟩
  · intro r us hr
    simp only [St.new] at hr
    split at hr
    · cases hr
    · obtain ⟨p, hp, hvs⟩ := h.ro r us hr
      exact ⟨p, hle _ _ hp, fun i v hi => by obtain ⟨v', h1, h2⟩ := hvs i v hi; exact ⟨v', by rw [hcell _ (h.lt _ _ _ hp hr)]; exact h1, h2.mono hle⟩⟩
  · intro r kv hr
    simp only [St.new] at hr
    split at hr
    · rename_i hrn
      subst hrn
      cases hr
      exact ⟨_, #[], 0, hput, h.freeNew, heap_alloc_new w _, rfl, fun i k v e hi => by simp at hi⟩
    · obtain ⟨p, es, ck, hp, hb, hm, hlen, hk⟩ := h.mp r kv hr
      exact ⟨p, es, ck, hle _ _ hp, hb, by rw [hold _ (h.lt _ _ _ hp hr)]; exact hm, hlen, fun i k v e hi he => by obtain ⟨h1, h2, h3⟩ := hk i k v e hi he; exact ⟨h1, h2.mono hle, h3⟩⟩
  · intro r r' B B' p p' hr hw hr' hp hp' hb
    simp only [St.new] at hr hr'
    simp only [Mp.put] at hp hp'
    split at hp <;> split at hp'
    · rename_i h1 h2; rw [h1, h2]
    · rename_i h1 h2; cases hp; have := h.lt r' p' _ hp' (by rw [if_neg h2] at hr'; exact hr'); simp only at hb; omega
    · rename_i h1 h2; cases hp'; have := h.lt r p _ hp (by rw [if_neg h1] at hr; exact hr); simp only at hb; omega
    · rename_i h1 h2
      rw [if_neg h1] at hr
      rw [if_neg h2] at hr'
      exact h.inj r r' B B' p p' hr hw hr' hp hp' hb
theorem find_rel {μ : Mp} (n : Int) : ∀ (kv : List (Int × Value)) (es : List MapEntry) (i : Nat), kv.length = es.length →
    (∀ (i : Nat) k v e, kv[i]? = some (k, v) → es[i]? = some e → e.key = .int .i64 k ∧ VRel μ v e.val ∧ oneCell v = true) →
    (Instr.findNow (.int .i64) (.int .i64 n) es i = some none ∧ kvGet n kv = none ∧ ∀ u, kvPut n u kv = kv ++ [(n, u)]) ∨
    (∃ j e v, Instr.findNow (.int .i64) (.int .i64 n) es i = some (some (i + j, e.val)) ∧ es[j]? = some e ∧ e.key = .int .i64 n ∧ kv[j]? = some (n, v) ∧ kvGet n kv = some v ∧ VRel μ v e.val ∧ ∀ u, kvPut n u kv = kv.set j (n, u))
  | [], [], i, _, _ => .inl ⟨rfl, rfl, fun u => rfl⟩
  | [], _ :: _, i, h, _ => by simp at h
  | _ :: _, [], i, h, _ => by simp at h
  | (k, v) :: kv, e :: es, i, h, hk => by
    obtain ⟨h1, h2, h3⟩ := hk 0 k v e rfl rfl
    by_cases hn : n = k
    · subst hn
      refine .inr ⟨0, e, v, ?_, rfl, h1, rfl, by simp [kvGet], h2, fun u => by simp [kvPut]⟩
      simp [Instr.findNow, Instr.sameNow, h1]
    · have hstep : Instr.findNow (.int .i64) (.int .i64 n) (e :: es) i = Instr.findNow (.int .i64) (.int .i64 n) es (i + 1) := by
        have hb : (n == k) = false := by simpa using hn
        simp [Instr.findNow, Instr.sameNow, h1, hb]
      rcases find_rel n kv es (i + 1) (by simpa using h) (fun i' k' v' e' hi he => hk (i' + 1) k' v' e' (by simpa using hi) (by simpa using he)) with ⟨g1, g2, g3⟩ | ⟨j, e', v', g1, g2, g3, g4, g5, g6, g7⟩
      · exact .inl ⟨by rw [hstep, g1], by simp [kvGet, hn, g2], fun u => by simp [kvPut, hn, g3]⟩
      · exact .inr ⟨j + 1, e', v', by rw [hstep, g1, show i + 1 + j = i + (j + 1) by omega], by simpa using g2, g3, by simpa using g4, by simp [kvGet, hn, g5], g6, fun u => by simp [kvPut, hn, g7]⟩
end
section
variable {P : Program} {o : Oper} {fr : Fr} {r : Value × St}
def isI64Map (P : Program) (t : TypeId) : Bool := match P.underlying t with | some (.map k _) => (match P.underlying k with | some (.int .i64) => true | _ => false) | _ => false
theorem isI64Map_inv {t : TypeId} (h : isI64Map P t = true) : ∃ k e, P.underlying t = some (.map k e) ∧ P.underlying k = some (.int .i64) := by
  unfold isI64Map at h
  split at h
  · rename_i k e hu
    split at h
    · rename_i hk; exact ⟨k, e, hu, hk⟩
    · cases h
  · cases h
theorem slots3 {x y z : Operand} (h : o.op.operands = #[x, y, z]) : ∀ u, u = x ∨ u = y ∨ u = z → ∀ t ∈ opT u, t ∈ slots o := by
  intro u hu t ht
  simp only [slots, h, List.flatMap_cons, List.flatMap_nil, List.append_nil, List.mem_append]
  rcases hu with rfl | rfl | rfl
  · exact .inl ht
  · exact .inr (.inl ht)
  · exact .inr (.inr ht)
theorem op_makeMap {t : TypeId} {σ : St} {K : Value → St → Res} (ho : o.op = .makeMap t none)
    (h : need (match P.underlying t with | some (.map _ _) => true | _ => false) (K (.map (some σ.next)) (σ.new (.mp []))) = some r) : ∃ v σ', K v σ' = some r ∧ Ran P o fr σ v σ' := by
  obtain ⟨_, h1⟩ := need_inv h
  refine ⟨_, _, h1, fun W μ a w hf hr => ?_⟩
  obtain ⟨h2, h3⟩ := hr.newMp
  refine ⟨.value (.map (some w.heap.size)), _, _, _, ?_, .inl rfl, h2, ?_, h3⟩
  · simp [execOp, ho, Instr.makeMap]
  · have : (μ.put σ.next ⟨w.heap.size, 0, 0⟩) σ.next = some ⟨w.heap.size, 0, 0⟩ := by simp [Mp.put]
    exact .map this
theorem run_findKey {k : TypeId} {n : Int} {es : List MapEntry} {res : Option (Nat × Value)} {w : World} (hk : P.underlying k = some (.int .i64)) (h : Instr.findNow (.int .i64) (.int .i64 n) es 0 = some res) :
    (Instr.findKey k (.int .i64 n) es).run P w = .ok res w := by
  simp [Instr.findKey, run_underlying hk, h]
theorem run_checkKey {k : TypeId} {n : Int} {b : Bool} {w : World} (hk : P.underlying k = some (.int .i64)) : (Instr.checkKey b 10000 k (.int .i64 n)).run P w = .ok () w := by
  have h : ∀ m, (Instr.checkKey b (m + 1) k (.int .i64 n)).run P w = .ok () w := fun m => by rw [Instr.checkKey]; simp [run_underlying hk]
  exact h 9999
theorem run_getObj {rr : Nat} {es : Array MapEntry} {ck : Nat} {w : World} (h : w.heap[rr]? = some (.map es ck)) : (getObj rr).run P w = .ok (.map es ck) w := by
  simp [getObj, Sem.run, h]
theorem run_setObj {rr : Nat} {es : Array MapEntry} {ck : Nat} {ob : Obj} {w : World} (h : w.heap[rr]? = some (.map es ck)) : (setObj rr ob).run P w = .ok () { w with heap := w.heap.setIfInBounds rr ob } := by
  simp [setObj, Sem.run, h]
theorem op_lookup {t : TypeId} {x i : Operand} {σ : St} {K : Value → Res} (ho : o.op = .lookup t x i false) (hx : okOpnd x = true) (hi : okOpnd i = true) (hm : isI64Map P t = true)
    (h : opnd fr x (fun v => opnd fr i fun j =>
      match P.underlying t with
      | some (.map k e) => match P.underlying k, zeroOf P e with
        | some (.int ik), some z => asM v fun m => asI ik j fun n => σ.look m n z fun u => dstr P e u fun u => K u
        | _, _ => none
      | _ => none) = some r) : ∃ v, K v = some r ∧ Ran P o fr σ v σ := by
  obtain ⟨k, e, hu, hk⟩ := isI64Map_inv hm
  obtain ⟨v, h1, hv⟩ := opnd_inv hx h
  obtain ⟨j, h2, hj⟩ := opnd_inv hi h1
  simp only [hu, hk] at h2
  cases hz : zeroOf P e with
  | none => rw [hz] at h2; cases h2
  | some z =>
  rw [hz] at h2
  simp only at h2
  obtain ⟨m, rfl, h3⟩ := asM_inv h2
  obtain ⟨n, rfl, h4⟩ := asI_inv h3
  obtain ⟨ti, hti, htz, hpl⟩ := zeroOf_inv hz
  have key : ∃ u, K u = some r ∧ ((m = none ∧ u = z) ∨ ∃ q kv, m = some q ∧ σ.get q = some (.mp kv) ∧ u = (kvGet n kv).getD z) := by
    cases m with
    | none => exact ⟨z, dstr_inv h4, .inl ⟨rfl, rfl⟩⟩
    | some q =>
      simp only [St.look] at h4
      split at h4
      · rename_i kv hq
        exact ⟨_, dstr_inv h4, .inr ⟨q, kv, rfl, hq, rfl⟩⟩
      · cases h4
  obtain ⟨u, hK, hor⟩ := key
  refine ⟨u, hK, fun W μ a w hf hr => ?_⟩
  have hvx := hv μ a (slots o) (slots2a (by rw [ho]; rfl)) hf
  have hvi := (hj μ a (slots o) (slots2b (by rw [ho]; rfl)) hf).int_inv
  rcases hor with ⟨rfl, rfl⟩ | ⟨q, kv, rfl, hq, rfl⟩
  · rcases hvx.map_inv with ⟨_, hg⟩ | ⟨_, _, hc, _⟩
    · refine ⟨.value u, u, w, μ, ?_, .inl rfl, Mp.le.refl μ, plain_rel μ u hpl, hr⟩
      have hfn : (Instr.findKey k (.int .i64 n) []).run P w = .ok none w := run_findKey hk rfl
      simp [execOp, ho, hg, hvi, Instr.lookup, run_underlying hu, run_checkKey hk, hfn, zeroValue, typeInfo, hti, htz]
    · cases hc
  · rcases hvx.map_inv with ⟨hc, _⟩ | ⟨q', p, hc, hp, hg⟩
    · cases hc
    · cases hc
      obtain ⟨p', es, ck, hp', hWb, hheap, hlen, hkk⟩ := hr.mp q kv hq
      rw [hp] at hp'; cases hp'
      rcases find_rel n kv es.toList 0 hlen hkk with ⟨g1, g2, _⟩ | ⟨jj, ee, vv, g1, g2, g3, g4, g5, g6, _⟩
      · refine ⟨.value z, z, w, μ, ?_, .inl rfl, Mp.le.refl μ, by rw [g2]; exact plain_rel μ z hpl, hr⟩
        have hfn : (Instr.findKey k (.int .i64 n) es.toList).run P w = .ok none w := run_findKey hk g1
        simp [execOp, ho, hg, hvi, Instr.lookup, run_underlying hu, run_getObj hheap, run_checkKey hk, hfn, zeroValue, typeInfo, hti, htz]
      · refine ⟨.value ee.val, ee.val, w, μ, ?_, .inl rfl, Mp.le.refl μ, by rw [g5]; exact g6, hr⟩
        have hfn : (Instr.findKey k (.int .i64 n) es.toList).run P w = .ok (some (0 + jj, ee.val)) w := run_findKey hk g1
        simp [execOp, ho, hg, hvi, Instr.lookup, run_underlying hu, run_getObj hheap, run_checkKey hk, hfn]
theorem op_mapUpdate {t : TypeId} {x i y : Operand} {σ : St} {K : Value → St → Res} (ho : o.op = .mapUpdate t x i y) (hx : okOpnd x = true) (hi : okOpnd i = true) (hy : okOpnd y = true) (hm : isI64Map P t = true)
    (h : opnd fr x (fun v => opnd fr i fun j => opnd fr y fun u =>
      match P.underlying t with
      | some (.map kt _) => match P.underlying kt with
        | some (.int ik) => asM v fun m => asI ik j fun n => need (oneCell u) (σ.upd m n u fun σ' => K undef σ')
        | _ => none
      | _ => none) = some r) : ∃ v σ', K v σ' = some r ∧ Ran P o fr σ v σ' := by
  obtain ⟨k, e, hu, hk⟩ := isI64Map_inv hm
  obtain ⟨v, h1, hv⟩ := opnd_inv hx h
  obtain ⟨j, h2, hj⟩ := opnd_inv hi h1
  obtain ⟨u, h2', hy'⟩ := opnd_inv hy h2
  simp only [hu, hk] at h2'
  obtain ⟨m, rfl, h3⟩ := asM_inv h2'
  obtain ⟨n, rfl, h4⟩ := asI_inv h3
  obtain ⟨hone, h5⟩ := need_inv h4
  cases m with
  | none => cases h5
  | some q =>
  simp only [St.upd] at h5
  split at h5
  case h_2 => cases h5
  rename_i kv hq
  refine ⟨undef, _, h5, fun W μ a w hf hr => ?_⟩
  have hsl := slots3 (o := o) (x := x) (y := i) (z := y) (by rw [ho]; rfl)
  have hvx := hv μ a (slots o) (hsl x (.inl rfl)) hf
  have hvi := (hj μ a (slots o) (hsl i (.inr (.inl rfl))) hf).int_inv
  have hvy := hy' μ a (slots o) (hsl y (.inr (.inr rfl))) hf
  rcases hvx.map_inv with ⟨hc, _⟩ | ⟨q', p, hc, hp, hg⟩
  · cases hc
  · cases hc
    obtain ⟨p', es, ck, hp', hWb, hheap, hlen, hkk⟩ := hr.mp q kv hq
    rw [hp] at hp'; cases hp'
    rcases find_rel n kv es.toList 0 hlen hkk with ⟨g1, g2, g3⟩ | ⟨jj, ee, vv, g1, g2, g3, g4, g5, g6, g7⟩
    · have hfn : (Instr.findKey k (.int .i64 n) es.toList).run P w = .ok none w := run_findKey hk g1
      have hrel := hr.setMp hq hp hWb hheap (kvPut n u kv) (es.push { key := .int .i64 n, val := a.eval y, born := ck }) (ck + 1) (by rw [g3]; simp [hlen]) (by
        intro i' k' v' e' hi' he'
        rw [g3] at hi'
        simp only [Array.toList_push] at he'
        by_cases hil : i' < kv.length
        · rw [List.getElem?_append_left hil] at hi'
          rw [List.getElem?_append_left (by rw [← hlen]; exact hil)] at he'
          exact hkk i' k' v' e' hi' he'
        · rw [List.getElem?_append_right (by omega)] at hi'
          rw [List.getElem?_append_right (by rw [← hlen]; omega)] at he'
          obtain ⟨hz, hzz⟩ := List.getElem?_eq_some_iff.1 hi'
          obtain ⟨hz2, hzz2⟩ := List.getElem?_eq_some_iff.1 he'
          simp only [List.length_singleton] at hz hz2
          have e0 : i' - kv.length = 0 := by omega
          have e1 : i' - es.toList.length = 0 := by omega
          simp only [e0, List.getElem_cons_zero, Prod.mk.injEq] at hzz
          simp only [e1, List.getElem_cons_zero] at hzz2
          obtain ⟨rfl, rfl⟩ := hzz
          subst hzz2
          exact ⟨rfl, hvy, hone⟩)
      refine ⟨.skip, undef, _, μ, ?_, .inr ⟨rfl, rfl⟩, Mp.le.refl μ, .undef μ, hrel⟩
      simp [execOp, ho, hg, hvi, Instr.mapUpdate, run_underlying hu, run_getObj hheap, run_checkKey hk, hfn, run_setObj hheap]
    · have hfn : (Instr.findKey k (.int .i64 n) es.toList).run P w = .ok (some (0 + jj, ee.val)) w := run_findKey hk g1
      have hjl : jj < es.toList.length := (List.getElem?_eq_some_iff.1 g2).1
      have hmod : (es.modify jj fun e => { e with key := .int .i64 n, val := a.eval y }).toList = es.toList.set jj { ee with key := .int .i64 n, val := a.eval y } := by
        apply List.ext_getElem?
        intro i'
        rw [Array.getElem?_toList, Array.getElem?_modify, List.getElem?_set]
        by_cases hij : jj = i'
        · subst hij
          rw [if_pos rfl, if_pos rfl, if_pos hjl, ← Array.getElem?_toList, g2]; rfl
        · rw [if_neg hij, if_neg hij, Array.getElem?_toList]
      have hrel := hr.setMp hq hp hWb hheap (kvPut n u kv) (es.modify jj fun e => { e with key := .int .i64 n, val := a.eval y }) ck (by rw [g7, hmod]; simp [hlen]) (by
        intro i' k' v' e' hi' he'
        rw [g7, List.getElem?_set] at hi'
        rw [hmod, List.getElem?_set] at he'
        by_cases hij : jj = i'
        · subst hij
          rw [if_pos rfl, if_pos (by omega)] at hi'
          rw [if_pos rfl, if_pos hjl] at he'
          simp only [Option.some.injEq, Prod.mk.injEq] at hi' he'
          obtain ⟨rfl, rfl⟩ := hi'
          subst he'
          exact ⟨rfl, hvy, hone⟩
        · rw [if_neg hij] at hi' he'
          exact hkk i' k' v' e' hi' he')
      refine ⟨.skip, undef, _, μ, ?_, .inr ⟨rfl, rfl⟩, Mp.le.refl μ, .undef μ, hrel⟩
      have hes : es[jj]? = some ee := by rw [← Array.getElem?_toList]; exact g2
      simp [execOp, ho, hg, hvi, Instr.mapUpdate, run_underlying hu, run_getObj hheap, run_checkKey hk, hfn, Instr.keyThatStays, Instr.sameBits, hes, g3, run_setObj hheap]
end
end Go.AM

namespace Go.AM
open Go.RowKit
variable [Laid]
section
variable {P : Program} {r : Value × St}
def kdOf (P : Program) (t : TypeId) : Option Kd := match P.underlying t with | some (.int k) => some (.i k) | some .string => some .s | some .bool => some .b | _ => none
def intStruct (P : Program) (t : TypeId) : Bool :=
  match P.underlying t with
  | some (.struct fs) => ((List.range fs.toList.length).all fun i => match fs.toList[i]? with | some f => Nat.beq f.offset i && (f.name != "_") && (kdOf P f.type).isSome | none => false) && !P.stoodInHeld t && !P.eqGuardType P.depth t
  | _ => false
theorem intStruct_inv {t : TypeId} (h : intStruct P t = true) : ∃ fs, P.underlying t = some (.struct fs) ∧ P.stoodInHeld t = false ∧ P.eqGuardType P.depth t = false ∧ ∀ (i : Nat) f, fs.toList[i]? = some f → f.offset = i ∧ f.name ≠ "_" ∧ ∃ k, kdOf P f.type = some k := by
  unfold intStruct at h
  split at h
  · rename_i fs hu
    simp only [Bool.and_eq_true, Bool.not_eq_true'] at h
    obtain ⟨⟨h1, h2⟩, h3⟩ := h
    refine ⟨fs, hu, h2, h3, fun i f hf => ?_⟩
    have h4 := List.all_eq_true.1 h1 i (List.mem_range.2 (List.getElem?_eq_some_iff.1 hf).1)
    rw [hf] at h4
    simp only [Bool.and_eq_true] at h4
    obtain ⟨⟨a1, a2⟩, a3⟩ := h4
    exact ⟨Nat.eq_of_beq_eq_true a1, by simpa using a2, Option.isSome_iff_exists.1 a3⟩
  · cases h
inductive Cmp : Kd → Value → Value → Bool → Prop where
  | i (k : IntKind) (a b : Int) : Cmp (.i k) (.int k a) (.int k b) (a == b)
  | s (a b : ByteArray) : Cmp .s (.string a) (.string b) (a == b)
  | b (a b : Bool) : Cmp .b (.bool a) (.bool b) (a == b)
inductive Cmps : List Kd → List Value → List Value → Bool → Prop where
  | nil : Cmps [] [] [] true
  | cons {k : Kd} {x y : Value} {q : Bool} {ks : List Kd} {X Y : List Value} {q' : Bool} : Cmp k x y q → Cmps ks X Y q' → Cmps (k :: ks) (x :: X) (y :: Y) (q && q')
theorem eqCells_inv {α : Type} {r : α} : ∀ (ks : List Kd) (X Y : List Value) (K : Bool → Option α), eqCells ks X Y K = some r → ∃ q, Cmps ks X Y q ∧ K q = some r := by
  intro ks X Y K h
  fun_induction eqCells ks X Y K
  · exact ⟨true, .nil, h⟩
  · rename_i ih
    obtain ⟨a, ea, h4⟩ := asB_inv h
    obtain ⟨b, eb, h5⟩ := asB_inv h4
    subst ea
    subst eb
    obtain ⟨q, h1, h2⟩ := ih a b h5
    exact ⟨_, .cons (.b a b) h1, h2⟩
  · rename_i ih
    obtain ⟨a, ea, h4⟩ := asI_inv h
    obtain ⟨b, eb, h5⟩ := asI_inv h4
    subst ea
    subst eb
    obtain ⟨q, h1, h2⟩ := ih a b h5
    exact ⟨_, .cons (.i _ a b) h1, h2⟩
  · rename_i ih
    obtain ⟨a, ea, h4⟩ := asS_inv h
    obtain ⟨b, eb, h5⟩ := asS_inv h4
    subst ea
    subst eb
    obtain ⟨q, h1, h2⟩ := ih a b h5
    exact ⟨_, .cons (.s a b) h1, h2⟩
  · cases h
theorem Cmps.same {ks : List Kd} {X Y : List Value} {q : Bool} (h : Cmps ks X Y q) {μ : Mp} : (∀ {Z : List Value}, LRel μ X Z → Z = X) ∧ (∀ {Z : List Value}, LRel μ Y Z → Z = Y) := by
  induction h with
  | nil => exact ⟨fun h => h.inv_nil, fun h => h.inv_nil⟩
  | cons hc _ ih =>
    refine ⟨fun hz => ?_, fun hz => ?_⟩
    · obtain ⟨y, m, rfl, h1, h2⟩ := hz.inv
      rw [ih.1 h2]
      cases hc with
      | i => rw [h1.int_inv]
      | s => rw [h1.string_inv]
      | b => rw [h1.bool_inv]
    · obtain ⟨y, m, rfl, h1, h2⟩ := hz.inv
      rw [ih.2 h2]
      cases hc with
      | i => rw [h1.int_inv]
      | s => rw [h1.string_inv]
      | b => rw [h1.bool_inv]
theorem run_part_kd {t : TypeId} {k : Kd} {cs : Array Value} {off : Nat} {v : Value} (w : World) (hu : kdOf P t = some k) (h : cs[off]? = some v) : (part t cs off).run P w = .ok v w := by
  unfold kdOf at hu
  split at hu
  · rename_i e; simp [part, isAgg, run_underlying e, h]
  · rename_i e; simp [part, isAgg, run_underlying e, h]
  · rename_i e; simp [part, isAgg, run_underlying e, h]
  · cases hu
theorem run_equalIn_kd {t : TypeId} {k : Kd} {x y : Value} {q : Bool} (w : World) (d : Nat) (hu : kdOf P t = some k) (h : Cmp k x y q) : (Op.equalIn (d + 1) t x y).run P w = .ok q w := by
  unfold kdOf at hu
  split at hu
  · rename_i k' e
    cases hu
    cases h
    exact run_equalIn_int w d t _ _ _ _ e
  · rename_i e
    cases hu
    cases h
    rw [run_equalIn_string w d t _ _ e, beq_toListBytes]
  · rename_i e
    cases hu
    cases h
    exact run_equalIn_bool' w d t _ _ e
  · cases hu
theorem eqFields_cmps (w : World) (d : Nat) {A B : Array Value} {ks : List Kd} {X Y : List Value} {q : Bool} (h : Cmps ks X Y q) : ∀ (fs : List Field) (i : Nat), A.toList.drop i = X → B.toList.drop i = Y → fs.length = ks.length →
    (∀ (j : Nat) f k, fs[j]? = some f → ks[j]? = some k → f.offset = i + j ∧ f.name ≠ "_" ∧ kdOf P f.type = some k) → (Op.eqFields (d + 1) A B fs).run P w = .ok q w := by
  induction h with
  | nil =>
    intro fs i _ _ hl _
    have : fs = [] := List.length_eq_zero_iff.1 (by simpa using hl)
    subst this
    simp [Op.eqFields]
  | @cons k x y q ks X Y q' hc _ ih =>
    intro fs i hA hB hl hf
    cases fs with
    | nil => simp at hl
    | cons f fs =>
      obtain ⟨h1, h2, h3⟩ := hf 0 f k rfl rfl
      have ha : A[i]? = some x := by rw [← Array.getElem?_toList, ← Nat.add_zero i, ← List.getElem?_drop, hA]; rfl
      have hb : B[i]? = some y := by rw [← Array.getElem?_toList, ← Nat.add_zero i, ← List.getElem?_drop, hB]; rfl
      have pa := run_part_kd (P := P) (cs := A) (off := f.offset) (v := x) w h3 (by rw [h1]; exact ha)
      have pb := run_part_kd (P := P) (cs := B) (off := f.offset) (v := y) w h3 (by rw [h1]; exact hb)
      have ih' := ih fs (i + 1) (by rw [← List.drop_drop, hA]; rfl) (by rw [← List.drop_drop, hB]; rfl) (by simpa using hl) (fun j g k' hg hk => by
        obtain ⟨g1, g2, g3⟩ := hf (j + 1) g k' (by simpa using hg) (by simpa using hk)
        exact ⟨by omega, g2, g3⟩)
      simp only [Op.eqFields, if_pos h2, Sem.run_bind, pa, pb, Result.andThen_ok, run_equalIn_kd w d h3 hc]
      cases q with
      | true =>
        simp only [Bool.not_true, Bool.false_eq_true, if_false, Bool.true_and]
        exact ih'
      | false => simp
theorem eqKds_kd : ∀ (fs : List Field), (∀ f ∈ fs, f.name ≠ "_" ∧ ∃ k, kdOf P f.type = some k) → ∀ n, ∃ ks, fs.foldr (fun f acc => match f.name == "_", eqKds P (n + 1) f.type, acc with | false, some a, some b => some (a ++ b) | _, _, _ => none) (some []) = some ks ∧
    fs.length = ks.length ∧ ∀ (j : Nat) f k, fs[j]? = some f → ks[j]? = some k → kdOf P f.type = some k
  | [], _, n => ⟨[], rfl, rfl, fun j f k h => by simp at h⟩
  | f :: fs, h, n => by
    obtain ⟨h1, k, h2⟩ := h f (by simp)
    obtain ⟨ks, e, hl, hk⟩ := eqKds_kd fs (fun g hg => h g (by simp [hg])) n
    have hn : (f.name == "_") = false := by simpa using h1
    have hkd : eqKds P (n + 1) f.type = some [k] := by
      unfold kdOf at h2
      unfold eqKds
      split at h2 <;> (rename_i e1; first | (cases h2; rw [e1]) | cases h2)
    refine ⟨k :: ks, ?_, by simp [hl], fun j g k' hg hk' => ?_⟩
    · rw [List.foldr_cons, e, hn, hkd]; rfl
    · cases j with
      | zero => simp at hg hk'; subst hg; subst hk'; exact h2
      | succ j => exact hk j g k' (by simpa using hg) (by simpa using hk')
theorem agg_ints {op : BinOp} {t : TypeId} {cy : Bool} {x y : Operand} {K : Value → Res} (hi : intStruct P t = true) (A B : Array Value) (h : aBin P op t cy (.agg A) (.agg B) K = some r) :
    ∃ v, K v = some r ∧ (∀ μ, VRel μ v v) ∧ ∀ (μ : Mp) (A' B' : Array Value) (w : World), LRel μ A.toList A'.toList → LRel μ B.toList B'.toList →
      (eqGuard op t x y (.agg A') (.agg B')).run P w = .ok () w ∧ (binOp op t (.agg A') (.agg B')).run P w = .ok v w := by
  obtain ⟨fs, hu, hst, hgd, hfs⟩ := intStruct_inv hi
  simp only [aBin, asAgL] at h
  obtain ⟨h1, h2⟩ := need_inv h
  simp only [Bool.and_eq_true] at h1
  obtain ⟨ks, hk, hkl, hks⟩ := eqKds_kd (P := P) fs.toList (fun f hf => by
      obtain ⟨j, hj, rfl⟩ := List.getElem_of_mem hf
      exact (hfs j _ (List.getElem?_eq_getElem hj)).2) 18
  have hk : eqKds P 20 t = some ks := by
    unfold eqKds
    rw [hu]
    exact hk
  rw [hk] at h2
  obtain ⟨q, hc, h3⟩ := eqCells_inv _ _ _ _ h2
  refine ⟨_, h3, fun μ => .bool _, fun μ A' B' w hA hB => ⟨run_eqGuard_agg w op t x y A' B' hgd, ?_⟩⟩
  have hA' : A'.toList = A.toList := hc.same.1 hA
  have hB' : B'.toList = B.toList := hc.same.2 hB
  have hf : P.fieldsOf t = fs := by unfold Program.fieldsOf; rw [hu]
  have heq : (Op.equalIn 10000 t (.agg A') (.agg B')).run P w = .ok q w := by
    have h9 := run_equalIn_agg (P := P) w 9999 t A' B' (by rw [hf]; exact hu) hst
    rw [show (9999 + 1 : Nat) = 10000 from rfl] at h9
    rw [h9, hf]
    exact eqFields_cmps (P := P) w 9998 hc fs.toList 0 (by simpa using hA') (by simpa using hB') hkl (fun j f k hj hkj => by
      obtain ⟨g1, g2, _⟩ := hfs j f hj
      exact ⟨by omega, g2, hks j f k hj hkj⟩)
  rcases isEq_cases h1.1 with rfl | rfl
  · rw [run_eql_struct, heq]; rfl
  · rw [run_neq_struct, heq]; rfl
def arrEq (P : Program) (t : TypeId) : Bool :=
  match P.underlying t with
  | some (.array _ e) => (match P.underlying e with
    | some (.array n' e') => (kdOf P e').isSome && (Nat.beq (P.cellsOf e) n' && (Nat.beq (P.cellsOf e') 1 && ((P.info? e).isSome && (P.info? e').isSome))) && !P.eqGuardType P.depth t
    | _ => false)
  | _ => false
theorem arrEq_inv {t : TypeId} (h : arrEq P t = true) : ∃ n e n' e' k, P.underlying t = some (.array n e) ∧ P.underlying e = some (.array n' e') ∧ kdOf P e' = some k ∧ P.cellsOf e = n' ∧ P.cellsOf e' = 1 ∧ (∃ i, P.info? e = some i) ∧ (∃ i, P.info? e' = some i) ∧ P.eqGuardType P.depth t = false := by
  unfold arrEq at h
  split at h
  · rename_i n e hu
    split at h
    · rename_i n' e' hu'
      simp only [Bool.and_eq_true, Bool.not_eq_true'] at h
      obtain ⟨⟨h1, h2, h3, h4, h5⟩, h6⟩ := h
      obtain ⟨k, hk⟩ := Option.isSome_iff_exists.1 h1
      exact ⟨n, e, n', e', k, hu, hu', hk, Nat.eq_of_beq_eq_true h2, Nat.eq_of_beq_eq_true h3, Option.isSome_iff_exists.1 h4, Option.isSome_iff_exists.1 h5, h6⟩
    · cases h
  · cases h
theorem Cmps.len {ks : List Kd} {X Y : List Value} {q : Bool} (h : Cmps ks X Y q) : X.length = ks.length ∧ Y.length = ks.length := by
  induction h with
  | nil => exact ⟨rfl, rfl⟩
  | cons _ _ ih => exact ⟨by simp [ih.1], by simp [ih.2]⟩
theorem Cmps.split : ∀ {ks ks' : List Kd} {X Y : List Value} {q : Bool}, Cmps (ks ++ ks') X Y q → ∃ X1 X2 Y1 Y2 q1 q2, X = X1 ++ X2 ∧ Y = Y1 ++ Y2 ∧ q = (q1 && q2) ∧ Cmps ks X1 Y1 q1 ∧ Cmps ks' X2 Y2 q2
  | [], ks', X, Y, q, h => ⟨[], X, [], Y, true, q, rfl, rfl, by simp, .nil, h⟩
  | k :: ks, ks', _, _, _, .cons hc h => by
    obtain ⟨X1, X2, Y1, Y2, q1, q2, rfl, rfl, rfl, h1, h2⟩ := Cmps.split h
    exact ⟨_ :: X1, X2, _ :: Y1, Y2, _, q2, rfl, rfl, by rw [Bool.and_assoc], .cons hc h1, h2⟩
theorem eqItems_cmps (w : World) (d : Nat) {e : TypeId} {k : Kd} (hk : kdOf P e = some k) {A B : Array Value} : ∀ (m j : Nat) {X Y X' Y' : List Value} {q : Bool}, A.toList.drop j = X ++ X' → B.toList.drop j = Y ++ Y' → Cmps (List.replicate m k) X Y q →
    (Op.eqItems (d + 1) e 1 A B (List.range' j m)).run P w = .ok q w
  | 0, j, X, Y, X', Y', q, hA, hB, h => by
    cases h
    simp [Op.eqItems]
  | m + 1, j, X, Y, X', Y', q, hA, hB, h => by
    rw [List.replicate_succ] at h
    cases h with
    | @cons _ x y q1 _ X Y q2 hc h =>
      have ha : A[j]? = some x := by rw [← Array.getElem?_toList, ← Nat.add_zero j, ← List.getElem?_drop, hA]; rfl
      have hb : B[j]? = some y := by rw [← Array.getElem?_toList, ← Nat.add_zero j, ← List.getElem?_drop, hB]; rfl
      have pa := run_part_kd (P := P) (cs := A) (off := j * 1) (v := x) w hk (by rw [Nat.mul_one]; exact ha)
      have pb := run_part_kd (P := P) (cs := B) (off := j * 1) (v := y) w hk (by rw [Nat.mul_one]; exact hb)
      have ih := eqItems_cmps w d hk (A := A) (B := B) m (j + 1) (X := X) (Y := Y) (X' := X') (Y' := Y') (by rw [← List.drop_drop, hA]; rfl) (by rw [← List.drop_drop, hB]; rfl) h
      rw [List.range'_succ]
      simp only [Op.eqItems, Sem.run_bind, pa, pb, Result.andThen_ok, run_equalIn_kd w d hk hc]
      cases q1 with
      | true => simpa using ih
      | false => simp
theorem run_part_arr {t e : TypeId} {n : Nat} {i : TypeInfo} {cs : Array Value} {off : Nat} {X Z : List Value} (w : World) (hu : P.underlying t = some (.array n e)) (hi : P.info? t = some i) (hc : P.cellsOf t = n) (h : cs.toList.drop off = X ++ Z) (hX : X.length = n) : (part t cs off).run P w = .ok (.agg X.toArray) w := by
  have hl : cs.extract off (off + n) = X.toArray := by
    apply Array.toList_inj.1
    rw [Array.toList_extract]
    simp only [List.extract, Nat.add_sub_cancel_left]
    rw [h, List.take_left' hX]
  simp [part, isAgg, run_underlying hu, run_sizeOf w hi, hc, hl, hX]
theorem eqItems2_cmps (w : World) (d : Nat) {e e' : TypeId} {n' : Nat} {k : Kd} {i i' : TypeInfo} (hu : P.underlying e = some (.array n' e')) (hk : kdOf P e' = some k) (hc : P.cellsOf e = n') (hc' : P.cellsOf e' = 1) (hi : P.info? e = some i) (hi' : P.info? e' = some i') {A B : Array Value} :
    ∀ (m j : Nat) {X Y X' Y' : List Value} {q : Bool}, A.toList.drop (j * n') = X ++ X' → B.toList.drop (j * n') = Y ++ Y' → Cmps (List.replicate m (List.replicate n' k)).flatten X Y q →
    (Op.eqItems (d + 2) e n' A B (List.range' j m)).run P w = .ok q w
  | 0, j, X, Y, X', Y', q, hA, hB, h => by
    cases h
    simp [Op.eqItems]
  | m + 1, j, X, Y, X', Y', q, hA, hB, h => by
    rw [List.replicate_succ, List.flatten_cons] at h
    obtain ⟨X1, X2, Y1, Y2, q1, q2, rfl, rfl, rfl, h1, h2⟩ := h.split
    have l1 := h1.len
    rw [List.length_replicate] at l1
    have pa := run_part_arr (P := P) (cs := A) (off := j * n') (X := X1) (Z := X2 ++ X') w hu hi hc (by rw [hA, List.append_assoc]) l1.1
    have pb := run_part_arr (P := P) (cs := B) (off := j * n') (X := Y1) (Z := Y2 ++ Y') w hu hi hc (by rw [hB, List.append_assoc]) l1.2
    have ih := eqItems2_cmps w d hu hk hc hc' hi hi' (A := A) (B := B) m (j + 1) (X := X2) (Y := Y2) (X' := X') (Y' := Y') (by rw [Nat.add_mul, Nat.one_mul, ← List.drop_drop, hA, List.append_assoc, List.drop_left' l1.1]) (by rw [Nat.add_mul, Nat.one_mul, ← List.drop_drop, hB, List.append_assoc, List.drop_left' l1.2]) h2
    have he : (Op.equalIn (d + 2) e (.agg X1.toArray) (.agg Y1.toArray)).run P w = .ok q1 w := by
      rw [run_equalIn_array (P := P) w (d + 1) X1.toArray Y1.toArray hu hi', hc', List.range_eq_range']
      exact eqItems_cmps w d hk n' 0 (X' := []) (Y' := []) (by simp) (by simp) h1
    rw [List.range'_succ]
    simp only [Op.eqItems, Sem.run_bind, pa, pb, Result.andThen_ok, he]
    cases q1 with
    | true => simpa using ih
    | false => simp
theorem agg_arr {op : BinOp} {t : TypeId} {cy : Bool} {x y : Operand} {K : Value → Res} (hi : arrEq P t = true) (A B : Array Value) (h : aBin P op t cy (.agg A) (.agg B) K = some r) :
    ∃ v, K v = some r ∧ (∀ μ, VRel μ v v) ∧ ∀ (μ : Mp) (A' B' : Array Value) (w : World), LRel μ A.toList A'.toList → LRel μ B.toList B'.toList →
      (eqGuard op t x y (.agg A') (.agg B')).run P w = .ok () w ∧ (binOp op t (.agg A') (.agg B')).run P w = .ok v w := by
  obtain ⟨n, e, n', e', k, hu, hu', hk, hc, hc', ⟨i, hie⟩, ⟨i', hie'⟩, hgd⟩ := arrEq_inv hi
  simp only [aBin, asAgL] at h
  obtain ⟨h1, h2⟩ := need_inv h
  simp only [Bool.and_eq_true] at h1
  have hkd : eqKds P 18 e' = some [k] := by
    unfold kdOf at hk
    unfold eqKds
    split at hk <;> (rename_i e1; first | (cases hk; rw [e1]) | cases hk)
  have hfl : (List.replicate n' [k]).flatten = List.replicate n' k := by
    clear hu' hc hkd h2 h1 hu hie
    induction n' with
    | zero => rfl
    | succ n ih => rw [List.replicate_succ, List.flatten_cons, ih, List.replicate_succ]; rfl
  have hkds : eqKds P 20 t = some (List.replicate n (List.replicate n' k)).flatten := by
    unfold eqKds
    rw [hu]
    simp only
    unfold eqKds
    rw [hu']
    simp only [hkd, hfl]
  rw [hkds] at h2
  obtain ⟨q, hcm, h3⟩ := eqCells_inv _ _ _ _ h2
  refine ⟨_, h3, fun μ => .bool _, fun μ A' B' w hA hB => ⟨run_eqGuard_agg w op t x y A' B' hgd, ?_⟩⟩
  have hA' : A'.toList = A.toList := hcm.same.1 hA
  have hB' : B'.toList = B.toList := hcm.same.2 hB
  have heq : (Op.equalIn 10000 t (.agg A') (.agg B')).run P w = .ok q w := by
    have h9 := run_equalIn_array (P := P) w 9999 A' B' hu hie
    rw [show (9999 + 1 : Nat) = 10000 from rfl] at h9
    rw [h9, hc, List.range_eq_range']
    exact eqItems2_cmps (P := P) w 9997 hu' hk hc hc' hie hie' n 0 (X' := []) (Y' := []) (by rw [Nat.zero_mul, List.drop_zero, List.append_nil]; exact hA') (by rw [Nat.zero_mul, List.drop_zero, List.append_nil]; exact hB') hcm
  rcases isEq_cases h1.1 with rfl | rfl
  · rw [run_eql_struct, heq]; rfl
  · rw [run_neq_struct, heq]; rfl
def flatEq (P : Program) (t : TypeId) : Bool :=
  match P.underlying t with
  | some (.array _ e) => (kdOf P e).isSome && (Nat.beq (P.cellsOf e) 1 && (P.info? e).isSome) && !P.eqGuardType P.depth t
  | _ => false
theorem flatEq_inv {t : TypeId} (h : flatEq P t = true) : ∃ n e k, P.underlying t = some (.array n e) ∧ kdOf P e = some k ∧ P.cellsOf e = 1 ∧ (∃ i, P.info? e = some i) ∧ P.eqGuardType P.depth t = false := by
  unfold flatEq at h
  split at h
  · rename_i n e hu
    simp only [Bool.and_eq_true, Bool.not_eq_true'] at h
    obtain ⟨⟨h1, h2, h3⟩, h6⟩ := h
    obtain ⟨k, hk⟩ := Option.isSome_iff_exists.1 h1
    exact ⟨n, e, k, hu, hk, Nat.eq_of_beq_eq_true h2, Option.isSome_iff_exists.1 h3, h6⟩
  · cases h
theorem agg_flat {op : BinOp} {t : TypeId} {cy : Bool} {x y : Operand} {K : Value → Res} (hi : flatEq P t = true) (A B : Array Value) (h : aBin P op t cy (.agg A) (.agg B) K = some r) :
    ∃ v, K v = some r ∧ (∀ μ, VRel μ v v) ∧ ∀ (μ : Mp) (A' B' : Array Value) (w : World), LRel μ A.toList A'.toList → LRel μ B.toList B'.toList →
      (eqGuard op t x y (.agg A') (.agg B')).run P w = .ok () w ∧ (binOp op t (.agg A') (.agg B')).run P w = .ok v w := by
  obtain ⟨n, e, k, hu, hk, hc, ⟨i, hie⟩, hgd⟩ := flatEq_inv hi
  simp only [aBin, asAgL] at h
  obtain ⟨h1, h2⟩ := need_inv h
  simp only [Bool.and_eq_true] at h1
  have hkd : eqKds P 19 e = some [k] := by
    unfold kdOf at hk
    unfold eqKds
    split at hk <;> (rename_i e1; first | (cases hk; rw [e1]) | cases hk)
  have hfl : ∀ n : Nat, (List.replicate n [k]).flatten = List.replicate n k := by
    intro n
    induction n with
    | zero => rfl
    | succ n ih => rw [List.replicate_succ, List.flatten_cons, ih, List.replicate_succ]; rfl
  have hkds : eqKds P 20 t = some (List.replicate n k) := by
    unfold eqKds
    rw [hu]
    simp only [hkd, hfl]
  rw [hkds] at h2
  obtain ⟨q, hcm, h3⟩ := eqCells_inv _ _ _ _ h2
  refine ⟨_, h3, fun μ => .bool _, fun μ A' B' w hA hB => ⟨run_eqGuard_agg w op t x y A' B' hgd, ?_⟩⟩
  have hA' : A'.toList = A.toList := hcm.same.1 hA
  have hB' : B'.toList = B.toList := hcm.same.2 hB
  have heq : (Op.equalIn 10000 t (.agg A') (.agg B')).run P w = .ok q w := by
    have h9 := run_equalIn_array (P := P) w 9999 A' B' hu hie
    rw [show (9999 + 1 : Nat) = 10000 from rfl] at h9
    rw [h9, hc, List.range_eq_range']
    exact eqItems_cmps (P := P) w 9998 hk n 0 (X' := []) (Y' := []) (by rw [List.drop_zero, List.append_nil]; exact hA') (by rw [List.drop_zero, List.append_nil]; exact hB') hcm
  rcases isEq_cases h1.1 with rfl | rfl
  · rw [run_eql_struct, heq]; rfl
  · rw [run_neq_struct, heq]; rfl
end
end Go.AM

namespace Go.AM
open Go.RowKit
variable [Laid]
def okOp (P : Program) (o : Oper) : Bool :=
  okOper o && match o.op with
  | .build t _ => (match P.underlying t with | some (.struct fs) => fs.toList.all (fun f => (P.info? f.type).isSome) | some (.array _ e) => (P.info? e).isSome | _ => true)
  | .store t _ _ => (P.info? t).isSome
  | .binOp _ t _ _ _ => !isAg P t || (intStruct P t || (arrEq P t || flatEq P t))
  | .lookup t _ _ _ => isI64Map P t
  | .mapUpdate t _ _ _ => isI64Map P t
  | _ => true
section
variable {P : Program} {o : Oper} {fr : Fr} {r : Value × St}
def Told (P : Program) (o : Oper) (fr : Fr) (σ : St) (v : Value) (σ' : St) : Prop :=
  Sound P o fr σ v σ' ∧ (acts P o = false → σ' = σ ∧ (looks P o = false → Reckons P o fr v))
theorem Reckons.told {v : Value} (h : Reckons P o fr v) (σ : St) : Told P o fr σ v σ := ⟨(h.ran σ).sound, fun _ => ⟨rfl, fun _ => h⟩⟩
theorem told_r {K : Value → St → Res} {σ : St} (h : ∃ v, K v σ = some r ∧ Reckons P o fr v) : ∃ v σ', K v σ' = some r ∧ Told P o fr σ v σ' := by
  obtain ⟨v, h1, h2⟩ := h
  exact ⟨v, σ, h1, h2.told σ⟩
theorem told_a {K : Value → St → Res} {σ : St} (ha : acts P o = true) (h : ∃ v σ', K v σ' = some r ∧ Ran P o fr σ v σ') : ∃ v σ', K v σ' = some r ∧ Told P o fr σ v σ' := by
  obtain ⟨v, σ', h1, h2⟩ := h
  exact ⟨v, σ', h1, h2.sound, fun h => by rw [ha] at h; cases h⟩
theorem aOp_inv {call : FuncId → List Value → St → Res} (hcall : CallOK P call) {σ : St} {K : Value → St → Res} (hok : okOp P o = true) (h : aOp P call o fr σ K = some r) :
    ∃ v σ', K v σ' = some r ∧ Told P o fr σ v σ' := by
  unfold okOp at hok
  rw [Bool.and_eq_true] at hok
  obtain ⟨hop, hok⟩ := hok
  unfold okOper at hop
  unfold aOp at h
  split at h
  · rename_i x ho
    rw [ho] at hop; simp only [Op.operands, List.all_cons, List.all_nil, Bool.and_true] at hop
    exact told_r (op_move (K := fun v => K v σ) (.inl ho) hop h)
  · rename_i x ho
    rw [ho] at hop; simp only [Op.operands, List.all_cons, List.all_nil, Bool.and_true] at hop
    exact told_r (op_move (K := fun v => K v σ) (.inr ho) hop h)
  · rename_i c a b ho
    rw [ho] at hop; simp only [Op.operands, List.all_cons, List.all_nil, Bool.and_true, Bool.and_eq_true] at hop
    exact told_r (op_pick (K := fun v => K v σ) ho hop.1 hop.2.1 hop.2.2 h)
  · rename_i t ho
    exact told_a (by simp [acts, ho]) (op_alloc ho h)
  · rename_i t x ho
    rw [ho] at hop; simp only [Op.operands, List.all_cons, List.all_nil, Bool.and_true] at hop
    exact told_a (by simp [acts, ho]) (op_box ho hop h)
  · rename_i t ps ho
    rw [ho] at hop hok
    refine told_r (op_build (K := fun v => K v σ) ho (by simpa [Op.operands] using hop) (fun fs hu i f hf => ?_) (fun n e hu => ?_) h)
    · simp only [hu] at hok
      have := List.all_eq_true.1 hok f (List.mem_of_getElem? (by rw [Array.getElem?_toList]; exact hf))
      exact this
    · simpa only [hu] using hok
  · rename_i t n ps ho
    rw [ho] at hop
    exact told_a (by simp [acts, ho]) (op_buildSlice ho (by simpa [Op.operands] using hop) h)
  · rename_i t x ho
    rw [ho] at hop; simp only [Op.operands, List.all_cons, List.all_nil, Bool.and_true] at hop
    obtain ⟨v, h1, h2⟩ := op_load (K := fun v => K v σ) ho hop h
    exact ⟨v, σ, h1, h2.sound, fun _ => ⟨rfl, fun hl => by simp [looks, ho] at hl⟩⟩
  · rename_i t x y ho
    rw [ho] at hop hok; simp only [Op.operands, List.all_cons, List.all_nil, Bool.and_true, Bool.and_eq_true] at hop
    exact told_a (by simp [acts, ho]) (op_store ho hop.1 hop.2 hok h)
  · rename_i x ho
    rw [ho] at hop; simp only [Op.operands, List.all_cons, List.all_nil, Bool.and_true] at hop
    exact told_r (op_nilCheck ho hop h)
  · rename_i op t x y yt ho
    rw [ho] at hop hok; simp only [Op.operands, List.all_cons, List.all_nil, Bool.and_true, Bool.and_eq_true] at hop
    refine told_r (op_binOp (K := fun v => K v σ) ho hop.1 hop.2 (fun A B hb => ?_) h)
    have hb' := hb
    simp only [aBin, asAgL] at hb
    obtain ⟨h1, _⟩ := need_inv hb
    simp only [Bool.and_eq_true] at h1
    simp only [h1.2, Bool.not_true, Bool.false_or, Bool.or_eq_true] at hok
    rcases hok with hok | hok | hok
    · exact agg_ints hok A B hb'
    · exact agg_arr hok A B hb'
    · exact agg_flat hok A B hb'
  · rename_i op t x ho
    rw [ho] at hop; simp only [Op.operands, List.all_cons, List.all_nil, Bool.and_true] at hop
    exact told_r (op_unOp (K := fun v => K v σ) ho hop h)
  · rename_i s d x ho
    rw [ho] at hop; simp only [Op.operands, List.all_cons, List.all_nil, Bool.and_true] at hop
    obtain ⟨v, σ', h1, h2, h3⟩ := op_convert ho hop h
    exact ⟨v, σ', h1, h2.sound, h3⟩
  · rename_i t x ho
    rw [ho] at hop; simp only [Op.operands, List.all_cons, List.all_nil, Bool.and_true] at hop
    exact told_r (op_makeInterface (K := fun v => K v σ) ho hop h)
  · rename_i fn fs cs ho
    rw [ho] at hop; simp only [Op.operands, Array.toList_append, List.all_append, Bool.and_eq_true] at hop
    exact told_r (op_makeFunc (K := fun v => K v σ) ho hop.1 hop.2 h)
  · rename_i t ho; exact told_a (by simp [acts, ho]) (op_makeMap ho h)
  · rename_i t x y ho
    rw [ho] at hop; simp only [Op.operands, List.all_cons, List.all_nil, Bool.and_true, Bool.and_eq_true] at hop
    exact told_a (by simp [acts, ho]) (op_makeSlice ho hop.1 hop.2 h)
  · rename_i t x lo hi m ho
    rw [ho] at hop
    have hop2 : okOpnd x = true ∧ lo.toList.all okOpnd = true ∧ hi.toList.all okOpnd = true ∧ m.toList.all okOpnd = true := by
      cases lo <;> cases hi <;> cases m <;> simp_all [Op.operands]
    exact told_r (op_slice (K := fun v => K v σ) ho hop2.1 hop2.2.1 hop2.2.2.1 hop2.2.2.2 h)
  · rename_i t x f ho
    rw [ho] at hop; simp only [Op.operands, List.all_cons, List.all_nil, Bool.and_true] at hop
    exact told_r (op_fieldAddr (K := fun v => K v σ) ho hop h)
  · rename_i t x f ho
    rw [ho] at hop; simp only [Op.operands, List.all_cons, List.all_nil, Bool.and_true] at hop
    exact told_r (op_field (K := fun v => K v σ) ho hop h)
  · rename_i t x i ho
    rw [ho] at hop; simp only [Op.operands, List.all_cons, List.all_nil, Bool.and_true, Bool.and_eq_true] at hop
    exact told_r (op_indexAddr (K := fun v => K v σ) ho hop.1 hop.2 h)
  · rename_i t x i ho
    rw [ho] at hop; simp only [Op.operands, List.all_cons, List.all_nil, Bool.and_true, Bool.and_eq_true] at hop
    exact told_r (op_index (K := fun v => K v σ) ho hop.1 hop.2 h)
  · rename_i t x i ho
    rw [ho] at hop hok; simp only [Op.operands, List.all_cons, List.all_nil, Bool.and_true, Bool.and_eq_true] at hop
    obtain ⟨v, h1, h2⟩ := op_lookup (K := fun v => K v σ) ho hop.1 hop.2 hok h
    exact ⟨v, σ, h1, h2.sound, fun _ => ⟨rfl, fun hl => by simp [looks, ho] at hl⟩⟩
  · rename_i t m k x ho
    rw [ho] at hop hok; simp only [Op.operands, List.all_cons, List.all_nil, Bool.and_true, Bool.and_eq_true] at hop
    exact told_a (by simp [acts, ho]) (op_mapUpdate ho hop.1 hop.2.1 hop.2.2 hok h)
  · rename_i x i ho
    rw [ho] at hop; simp only [Op.operands, List.all_cons, List.all_nil, Bool.and_true] at hop
    exact told_r (op_extract (K := fun v => K v σ) ho hop h)
  · rename_i c ho
    rw [ho] at hop
    split at h
    · rename_i f hc
      simp only [Op.operands, Call.operands, hc, Array.toList_append, List.all_append, Bool.and_eq_true] at hop
      obtain ⟨v, σ', h1, h2⟩ := op_go hcall ho hc (by simpa using hop.1) hop.2 h
      exact ⟨v, σ', h1, h2, fun ha => by simp [acts, ho, hc] at ha⟩
    · rename_i b hc
      have hargs : c.args.toList.all okOpnd = true := by
        simp only [Op.operands, Call.operands, hc, Array.toList_append, List.all_append, Bool.and_eq_true] at hop
        exact hop.2
      cases b <;> try (obtain ⟨vs, h1, _⟩ := opnds_inv hargs h; cases h1; done)
      case append => exact told_a (by simp [acts, ho, hc]) (op_append ho hc hargs h)
      case copy => exact told_a (by simp [acts, ho, hc]) (op_copy ho hc hargs h)
      case len => exact told_r (op_len ho hc hargs h)
      case cap => exact told_r (op_cap ho hc hargs h)
      case max => exact told_r (op_maxmin (.inl ⟨rfl, rfl⟩) ho hc hargs h)
      case min => exact told_r (op_maxmin (.inr ⟨rfl, rfl⟩) ho hc hargs h)
    · rename_i x m hc
      simp only [Op.operands, Call.operands, hc, Array.toList_append, List.all_append, Bool.and_eq_true] at hop
      obtain ⟨v, σ', h1, h2⟩ := op_invoke hcall ho hc (by simpa using hop.1) hop.2 h
      exact ⟨v, σ', h1, h2, fun ha => by simp [acts, ho, hc] at ha⟩
  · cases h
end
end Go.AM

namespace Go.AM
open Go.RowKit
variable [Laid]
variable {W : Base} {μ : Mp} {σ : St} {w : World}
def Base.lay (B : Base) (b : Nat) (o : Obj) : Base := ⟨B.w, fun k => if k = b then some o else B.ex k⟩
theorem Rel.aside (h : Rel W μ σ w) (ob : Obj) : Rel (W.lay w.heap.size ob) μ σ (w.alloc ob) := by
  have hold : ∀ b, b < w.heap.size → (w.alloc ob).heap[b]? = w.heap[b]? := fun b hb => heap_alloc_old w ob b hb
  have hcell : ∀ a : Addr, a.block < w.heap.size → (w.alloc ob).cell? a = w.cell? a := fun a ha => World.cell?_alloc_lt w _ a ha
  have hfree : ∀ b, b < w.heap.size → W.free b → (W.lay w.heap.size ob).free b := fun b hb hf => ⟨hf.1, by
    show (if b = w.heap.size then some ob else W.ex b) = none
    rw [if_neg (by omega)]; exact hf.2⟩
  refine ⟨h.below.alloc h.below.size _, h.fresh, fun r p B hp hB => by have := h.lt r p B hp hB; simp; omega, fun r vs e hr => ?_, fun r vs hr => ?_, fun r kv hr => ?_, h.inj, h.laid, fun b o he => ?_, fun r p B hp hB => ?_⟩
  · obtain ⟨p, c, hp, hb, hc, hs, hn, hvs⟩ := h.own r vs e hr
    have hlt := h.lt _ _ _ hp hr
    exact ⟨p, c, hp, hfree _ hlt hb, by rw [hold _ hlt]; exact hc, hs, hn, hvs⟩
  · obtain ⟨p, hp, hvs⟩ := h.ro r vs hr
    exact ⟨p, hp, fun i v hi => by obtain ⟨v', h1, h2⟩ := hvs i v hi; exact ⟨v', by rw [hcell _ (h.lt _ _ _ hp hr)]; exact h1, h2⟩⟩
  · obtain ⟨p, es, ck, hp, hb, hm, hlen, hk⟩ := h.mp r kv hr
    have hlt := h.lt _ _ _ hp hr
    exact ⟨p, es, ck, hp, hfree _ hlt hb, by rw [hold _ hlt]; exact hm, hlen, hk⟩
  · replace he : (if b = w.heap.size then some ob else W.ex b) = some o := he
    by_cases hb : b = w.heap.size
    · rw [if_pos hb] at he; cases he; subst hb; exact heap_alloc_new w _
    · rw [if_neg hb] at he
      rw [hold b (h.exLt he)]; exact h.extra b o he
  · have hlt := h.lt r p B hp hB
    show (if p.b = w.heap.size then some ob else W.ex p.b) = none
    rw [if_neg (by omega)]; exact h.apart r p B hp hB
theorem Rel.adopt {b : Nat} {cur : Array Value} {e : TypeId} (h : Rel (W.lay b (.cells cur e (0, 0))) μ σ w) (hf : W.free b) (vs : List Value) (hl : vs.length ≤ cur.size) (hv : ∀ (i : Nat) (v : Value), vs[i]? = some v → ∃ v', cur[i]? = some v' ∧ VRel μ v v') :
    μ.le (μ.put σ.next ⟨b, 0, cur.size⟩) ∧ Rel W (μ.put σ.next ⟨b, 0, cur.size⟩) (σ.new (.own vs e)) w := by
  have hle : μ.le (μ.put σ.next ⟨b, 0, cur.size⟩) := Mp.put_le (h.fresh _ (Nat.le_refl _)).1
  have hput : (μ.put σ.next ⟨b, 0, cur.size⟩) σ.next = some ⟨b, 0, cur.size⟩ := by simp [Mp.put]
  have hex : (W.lay b (.cells cur e (0, 0))).ex b = some (.cells cur e (0, 0)) := by simp [Base.lay]
  have hb0 := h.extra b _ hex
  have hne : ∀ r p B, μ r = some p → σ.get r = some B → p.b ≠ b := fun r p B hp hB hpb => by
    have := h.apart r p B hp hB
    rw [hpb, hex] at this; cases this
  have hlay : ∀ k o, W.ex k = some o → (W.lay b (.cells cur e (0, 0))).ex k = some o := fun k o he => by
    show (if k = b then _ else W.ex k) = some o
    rw [if_neg (fun e => by subst e; rw [hf.2] at he; cases he)]; exact he
  have hunlay : ∀ k, (W.lay b (.cells cur e (0, 0))).ex k = none → W.ex k = none := fun k he => by
    cases hk : W.ex k with
    | none => rfl
    | some o => rw [hlay k o hk] at he; cases he
  refine ⟨hle, h.below, ?_, ?_, ?_, ?_, ?_, ?_, h.laid, fun k o he => h.extra k o (hlay k o he), fun r q B hq hB => ?_⟩
  · intro r hr
    have hr' : σ.next + 1 ≤ r := hr
    have hne : r ≠ σ.next := by omega
    have := h.fresh r (by omega)
    exact ⟨by simp [Mp.put, hne, this.1], by simp [St.new, hne, this.2]⟩
  · intro r p B hp hB
    simp only [Mp.put] at hp
    simp only [St.new] at hB
    split at hp
    · cases hp; exact (Array.getElem?_eq_some_iff.1 hb0).1
    · rename_i hne
      rw [if_neg hne] at hB
      exact h.lt r p B hp hB
  · intro r us e' hr
    simp only [St.new] at hr
    split at hr
    · rename_i hrn
      subst hrn
      cases hr
      exact ⟨_, cur, hput, hf, hb0, rfl, by simpa using hl, fun i v hi => by obtain ⟨v', h1, h2⟩ := hv i v hi; exact ⟨v', by simpa using h1, h2.mono hle⟩⟩
    · obtain ⟨p, c, hp, hb, hc, hs, hn, hvs⟩ := h.own r us e' hr
      exact ⟨p, c, hle _ _ hp, ⟨hb.1, hunlay _ hb.2⟩, hc, hs, hn, fun i v hi => by obtain ⟨v', h1, h2⟩ := hvs i v hi; exact ⟨v', h1, h2.mono hle⟩⟩
  · intro r us hr
    simp only [St.new] at hr
    split at hr
    · cases hr
    · obtain ⟨p, hp, hvs⟩ := h.ro r us hr
      exact ⟨p, hle _ _ hp, fun i v hi => by obtain ⟨v', h1, h2⟩ := hvs i v hi; exact ⟨v', h1, h2.mono hle⟩⟩
  · intro r kv hr
    simp only [St.new] at hr
    split at hr
    · cases hr
    · obtain ⟨p, es, ck, hp, hb, hm, hlen, hk⟩ := h.mp r kv hr
      exact ⟨p, es, ck, hle _ _ hp, ⟨hb.1, hunlay _ hb.2⟩, hm, hlen, fun i k v e hi he => by obtain ⟨h1, h2, h3⟩ := hk i k v e hi he; exact ⟨h1, h2.mono hle, h3⟩⟩
  · intro r r' B B' p p' hr hw hr' hp hp' hpb
    simp only [St.new] at hr hr'
    simp only [Mp.put] at hp hp'
    split at hp <;> split at hp'
    · rename_i h1 h2; rw [h1, h2]
    · rename_i h1 h2; cases hp; rw [if_neg h2] at hr'; exact absurd hpb.symm (hne r' p' _ hp' hr')
    · rename_i h1 h2; cases hp'; rw [if_neg h1] at hr; exact absurd hpb (hne r p _ hp hr)
    · rename_i h1 h2
      rw [if_neg h1] at hr
      rw [if_neg h2] at hr'
      exact h.inj r r' B B' p p' hr hw hr' hp hp' hpb
  · simp only [Mp.put] at hq
    simp only [St.new] at hB
    split at hq
    · cases hq; exact hf.2
    · rename_i hn
      rw [if_neg hn] at hB
      exact hunlay _ (h.apart r q B hq hB)
end Go.AM

namespace Go.AM
open Go.RowKit
variable [Laid]
variable {P : Program} {o : Oper} {fr : Fr} {r : Value × St}
def Lays (P : Program) (o : Oper) (fr : Fr) (val : Nat → Value) (vs : List Value) (e : TypeId) : Prop :=
  ∀ (μ : Mp) (a : Act) (w : World), FrOn μ fr a (slots o) → ∃ cur v', (execOp a.eval o).run P w = .ok (.value v') (w.alloc (.cells cur e)) ∧ vs.length ≤ cur.size ∧
    (∀ (i : Nat) (v : Value), vs[i]? = some v → ∃ v', cur[i]? = some v' ∧ VRel μ v v') ∧ ∀ (μ' : Mp) (n : Nat), μ' n = some ⟨w.heap.size, 0, cur.size⟩ → VRel μ' (val n) v'
theorem Lays.ran {val : Nat → Value} {vs : List Value} {e : TypeId} (h : Lays P o fr val vs e) (σ : St) : Ran P o fr σ (val σ.next) (σ.new (.own vs e)) := by
  intro W μ a w hf hr
  obtain ⟨cur, v', h1, h2, h3, h4⟩ := h μ a w hf
  obtain ⟨h5, h6⟩ := hr.new cur e vs h2 h3
  exact ⟨_, v', _, _, h1, .inl rfl, h5, h4 _ _ (by simp [Mp.put]), h6⟩
theorem lays_makeSlice {x y : Operand} {t : TypeId} {σ : St} {K : Value → St → Res} (ho : o.op = .makeSlice t x y) (hx : okOpnd x = true) (hy : okOpnd y = true)
    (h : opnd fr x (fun a => opnd fr y fun b => aMkSlice P t a b σ K) = some r) : ∃ (val : Nat → Value) (vs : List Value) (e : TypeId), K (val σ.next) (σ.new (.own vs e)) = some r ∧ Lays P o fr val vs e := by
  obtain ⟨vx, h1, hvx⟩ := opnd_inv hx h
  obtain ⟨vy, h2, hvy⟩ := opnd_inv hy h1
  unfold aMkSlice at h2
  split at h2
  · rename_i l c
    obtain ⟨e, hu, h3⟩ := elOf_inv h2
    split at h3
    · rename_i z hz
      obtain ⟨hb, h4⟩ := need_inv h3
      obtain ⟨i, hi, hiz, hp⟩ := zeroOf_inv hz
      have hb' : 0 ≤ l ∧ l ≤ c ∧ c.toNat * bytesOf P e ≤ roomTop ∧ c ≤ (sizeTop : Int) ∧ (Value.cellsL z).length = szOf P e ∧ 0 < szOf P e := by
        simp only [Bool.and_eq_true, decide_eq_true_eq] at hb
        obtain ⟨⟨⟨⟨⟨a1, a2⟩, a3⟩, a4⟩, a5⟩, a6⟩ := hb
        exact ⟨a1, a2, a3, a4, Nat.eq_of_beq_eq_true a5, a6⟩
      obtain ⟨b1, b2, b3, b4, b5, b6⟩ := hb'
      refine ⟨fun n => .slice (some ⟨n, 0, none⟩) l.toNat (szOf P e), _, e, h4, fun μ a w hf => ?_⟩
      have hgx := (hvx μ a (slots o) (slots2a (by rw [ho]; rfl)) hf).int_inv
      have hgy := (hvy μ a (slots o) (slots2b (by rw [ho]; rfl)) hf).int_inv
      rw [szOf_eq hi] at b5 b6
      rw [bytesOf_eq hi] at b3
      unfold sizeTop at b4
      unfold roomTop at b3
      have hbytes : (i.bytes : Int) * c ≤ 281474976710656 := by
        have h5 : ((c.toNat * i.bytes : Nat) : Int) ≤ 140737488355328 := by omega
        have h6 : ((c.toNat : Nat) : Int) = c := by omega
        rw [Int.natCast_mul, h6, Int.mul_comm] at h5
        omega
      have hrun := run_make (P := P) w t e i z hu hi hiz .i64 .i64 l c b1 b2 hbytes (by omega)
      obtain ⟨g1, g2⟩ := zeros_rel (μ := μ) (n := l.toNat) (m := c.toNat * i.size) hp b5 b6 (Nat.mul_le_mul_right _ (by omega))
      refine ⟨madeCells z.cells (c.toNat * i.size), .slice (some ⟨w.heap.size, 0, none⟩) l.toNat c.toNat, by simp [execOp, ho, hgx, hgy, hrun], g1, g2, fun μ' n hput => ?_⟩
      refine .sl hput (by omega) (.inr rfl) (.inr ?_) (by unfold maxLen; omega)
      rw [size_madeCells, szOf_eq hi]
      show 0 + c.toNat * i.size ≤ c.toNat * i.size
      omega
    · cases h3
  · cases h2
theorem lays_buildSlice {t : TypeId} {n : Nat} {ps : Array (Nat × Operand)} {σ : St} {K : Value → St → Res} (ho : o.op = .buildSlice t n ps) (hx : (ps.toList.map (·.2)).all okOpnd = true)
    (h : opndPs fr ps.toList (fun l => aBuildSlice P t n l σ K) = some r) : ∃ (val : Nat → Value) (vs : List Value) (e : TypeId), K (val σ.next) (σ.new (.own vs e)) = some r ∧ Lays P o fr val vs e := by
  obtain ⟨vs, h1, hvs⟩ := opndPs_inv hx h
  unfold aBuildSlice at h1
  obtain ⟨e, hu, h2⟩ := elOf_inv h1
  obtain ⟨hb, h3⟩ := need_inv h2
  split at h3
  · cases h3
  · rename_i z hz
    obtain ⟨hb2, h40⟩ := need_inv h3
    obtain ⟨cs, hcs0, h4⟩ := fillK_inv h40
    have hcs : fillL (fun i => some (i * szOf P e, szOf P e)) (zerosN (Value.cellsL z) n) vs = some cs := hcs0
    · obtain ⟨i, hi, hiz, hp⟩ := zeroOf_inv hz
      have hb' : (Value.cellsL z).length = szOf P e ∧ 0 < szOf P e := by
        simp only [Bool.and_eq_true, decide_eq_true_eq] at hb2
        exact ⟨Nat.eq_of_beq_eq_true hb2.1, hb2.2⟩
      obtain ⟨b5, b6⟩ := hb'
      have b7 : n * szOf P e ≤ 16777216 := of_decide_eq_true hb
      refine ⟨fun m => .slice (some ⟨m, 0, none⟩) n (szOf P e), _, e, h4, fun μ a w hf => ?_⟩
      have hpr := hvs μ a (slots o) (by intro t ht; simp only [slots, ho, Op.operands]; simpa using ht) hf
      rw [szOf_eq hi] at b5 b6 b7
      obtain ⟨g1, g2⟩ := zeros_rel (μ := μ) (n := n) (m := n * i.size) hp b5 b6 (Nat.le_refl _)
      have hlr : LRel μ (zerosN (Value.cellsL z) n) (madeCells z.cells (n * i.size)).toList := .of (by rw [zerosN_length, b5]; simp [size_madeCells]) (fun j v hj => by obtain ⟨v', h5, h6⟩ := g2 j v hj; exact ⟨v', by simpa using h5, h6⟩)
      obtain ⟨B, hB, hl⟩ := fill_rel hpr hlr hcs
      rw [szOf_eq hi] at hB
      have hlen : cs.length = B.size := by rw [hl.1]; simp
      have hout : cs.length = n * i.size := by
        have : ∀ (ps : List (Nat × Value)) (c0 out : List Value), fillL (fun i => some (i * szOf P e, szOf P e)) c0 ps = some out → out.length = c0.length := by
          intro ps
          induction ps with
          | nil => intro c0 out h; simp [fillL] at h; rw [h]
          | cons q ps ih =>
            intro c0 out h
            obtain ⟨j, v⟩ := q
            simp only [fillL] at h
            cases hb : (Nat.beq (Value.cellsL v).length (szOf P e) && decide (j * szOf P e + (Value.cellsL v).length ≤ c0.length)) with
            | false => rw [hb] at h; simp at h
            | true =>
              rw [hb] at h
              have := ih _ _ (by simpa using h)
              rw [this]
              simp only [Bool.and_eq_true, decide_eq_true_eq] at hb
              exact over_length hb.2
        rw [this _ _ _ hcs, zerosN_length, b5]
      have hrun := run_bSlice (P := P) w t e n i z (ps.map fun x => (x.1, a.eval x.2)) B hu hi hiz b7 (by simpa using hB)
      refine ⟨B, .slice (some ⟨w.heap.size, 0, none⟩) n n, by simp [execOp, ho, hrun], by omega, fun j v hj => by obtain ⟨v', h7, h8⟩ := hl.get hj; exact ⟨v', by simpa using h7, h8⟩, fun μ' m hput => ?_⟩
      have hile : i.size ≠ 0 := by omega
      refine .sl hput (Nat.le_refl _) (.inr rfl) (.inr ?_) ?_
      · rw [szOf_eq hi]; simp only; omega
      · have : n ≤ n * i.size := Nat.le_mul_of_pos_right _ b6
        unfold maxLen; omega
theorem lays_alloc {t : TypeId} {σ : St} {K : Value → St → Res} (ho : o.op = .alloc t)
    (h : (match zeroOf P t with | some z => K (.pointer (some ⟨σ.next, 0, none⟩)) (σ.new (.own (Value.cellsL z) t)) | none => none) = some r) :
    ∃ (val : Nat → Value) (vs : List Value) (e : TypeId), K (val σ.next) (σ.new (.own vs e)) = some r ∧ Lays P o fr val vs e := by
  split at h
  · rename_i z hz
    obtain ⟨i, hi, hiz, hp⟩ := zeroOf_inv hz
    refine ⟨fun n => .pointer (some ⟨n, 0, none⟩), _, t, h, fun μ a w hf => ?_⟩
    have hcl := (plain_rel μ z hp).cells
    exact ⟨z.cells, .pointer (some ⟨w.heap.size, 0, none⟩), by simp [execOp, ho, Instr.alloc, zeroValue, typeInfo, hi, hiz, newVar, newRow], by rw [hcl.1]; simp, fun j v hj => by obtain ⟨v', h3, h4⟩ := hcl.get hj; exact ⟨v', by simpa using h3, h4⟩, fun μ' n hput => .ptr hput⟩
  · cases h
theorem lays_box {x : Operand} {t : TypeId} {σ : St} {K : Value → St → Res} (ho : o.op = .box t x) (hx : okOpnd x = true)
    (h : opnd fr x (fun v => K (.pointer (some ⟨σ.next, 0, none⟩)) (σ.new (.own (Value.cellsL v) t))) = some r) : ∃ (val : Nat → Value) (vs : List Value) (e : TypeId), K (val σ.next) (σ.new (.own vs e)) = some r ∧ Lays P o fr val vs e := by
  obtain ⟨v, h1, hv⟩ := opnd_inv hx h
  refine ⟨fun n => .pointer (some ⟨n, 0, none⟩), _, t, h1, fun μ a w hf => ?_⟩
  have hcl := (hv μ a (slots o) (slots1 (by rw [ho]; rfl)) hf).cells
  exact ⟨(a.eval x).cells, .pointer (some ⟨w.heap.size, 0, none⟩), by simp [execOp, ho, Instr.box, newVar, newRow], by rw [hcl.1]; simp, fun j u hj => by obtain ⟨v', h3, h4⟩ := hcl.get hj; exact ⟨v', by simpa using h3, h4⟩, fun μ' n hput => .ptr hput⟩
def loose (o : Oper) : Bool :=
  match o.op with
  | .alloc _ => true
  | .box .. => true
  | .makeSlice .. => true
  | .buildSlice .. => true
  | _ => false
theorem loose_inv {call : FuncId → List Value → St → Res} {σ : St} {K : Value → St → Res} (hok : okOp P o = true) (hl : loose o = true) (h : aOp P call o fr σ K = some r) :
    ∃ (val : Nat → Value) (vs : List Value) (e : TypeId), K (val σ.next) (σ.new (.own vs e)) = some r ∧ Lays P o fr val vs e := by
  unfold okOp at hok
  rw [Bool.and_eq_true] at hok
  obtain ⟨hop, hok⟩ := hok
  unfold okOper at hop
  unfold loose at hl
  unfold aOp at h
  split at hl
  · rename_i t ho
    simp only [ho] at h hop
    exact lays_alloc ho h
  · rename_i t x ho
    simp only [ho] at h hop
    simp only [Op.operands, List.all_cons, List.all_nil, Bool.and_true] at hop
    exact lays_box ho hop h
  · rename_i t x y ho
    simp only [ho] at h hop
    simp only [Op.operands, List.all_cons, List.all_nil, Bool.and_true, Bool.and_eq_true] at hop
    exact lays_makeSlice ho hop.1 hop.2 h
  · rename_i t n ps ho
    simp only [ho] at h hop
    exact lays_buildSlice ho (by simpa [Op.operands] using hop) h
  · cases hl
end Go.AM

namespace Go.AM
open Go.RowKit
variable [Laid]
variable {P : Program} {call : FuncId → List Value → St → Res} {r : Value × St}
theorem guardIs_inv {all : List Oper} {fr : Fr} {g : Option (Nat × Bool)} {yes no : Fr → Res} (h : guardIs all fr g yes no = some r) :
    ∃ fr' b, (if b then yes fr' else no fr') = some r ∧ (∀ t, fr'.get t = fr.get t) ∧
      match g with
      | none => b = true
      | some (j, w) => ∃ d v, (all[j]?).bind (·.dst) = some d ∧ fr.get d = some v ∧ ((∃ c, v = .bool c ∧ b = (c == w)) ∨ (∃ A, v = .tuple A ∧ b = false)) := by
  unfold guardIs at h
  split at h
  · exact ⟨fr, true, h, fun _ => rfl, rfl⟩
  · rename_i j w
    split at h
    · cases h
    · rename_i d hd
      have hsame : ∀ c : Bool, fr.get d = some (.bool c) → ∀ t, Fr.get ((d, .bool c) :: fr) t = fr.get t := by
        intro c hc t
        simp only [Fr.get]
        by_cases hdt : d = t
        · subst hdt; simp [hc]
        · rw [nbeq_ne hdt]; rfl
      split at h
      · rename_i c hc
        rcases br_inv h with ⟨rfl, h1⟩ | ⟨rfl, h1⟩
        · cases w
          · exact ⟨_, false, h1, hsame _ hc, d, _, hd, hc, .inl ⟨true, rfl, rfl⟩⟩
          · exact ⟨_, true, h1, hsame _ hc, d, _, hd, hc, .inl ⟨true, rfl, rfl⟩⟩
        · cases w
          · exact ⟨_, true, h1, hsame _ hc, d, _, hd, hc, .inl ⟨false, rfl, rfl⟩⟩
          · exact ⟨_, false, h1, hsame _ hc, d, _, hd, hc, .inl ⟨false, rfl, rfl⟩⟩
      · rename_i A hA
        cases hE : A.toList.isEmpty with
        | true => rw [hE] at h; exact ⟨fr, false, h, fun _ => rfl, d, _, hd, hA, .inr ⟨A, rfl, rfl⟩⟩
        | false => rw [hE] at h; cases h
      · cases h
theorem wanted_of {ops : Array Oper} {o : Oper} {a : Act} {μ : Mp} {b : Bool} {F : Fr}
    (h : match o.guard with
      | none => b = true
      | some (j, w) => ∃ d v, (ops.toList[j]?).bind (·.dst) = some d ∧ F.get d = some v ∧ ((∃ c, v = .bool c ∧ b = (c == w)) ∨ (∃ A, v = .tuple A ∧ b = false)))
    (hf : ∀ j w, o.guard = some (j, w) → ∀ d, (ops.toList[j]?).bind (·.dst) = some d → ∀ v, F.get d = some v → ∃ v', a.tmps[d]? = some v' ∧ VRel μ v v') :
    Region.wanted o (yielded ops a.tmps) = b := by
  unfold Region.wanted
  cases hg : o.guard with
  | none => rw [hg] at h; simp only at h; rw [h]
  | some jw =>
    obtain ⟨j, w⟩ := jw
    rw [hg] at h
    obtain ⟨d, v, hd, hv, hc⟩ := h
    obtain ⟨v', hv', hr⟩ := hf j w hg d hd v hv
    have hd2 : (ops[j]?).bind (·.dst) = some d := by rw [← Array.getElem?_toList]; exact hd
    simp only
    rcases hc with ⟨c, rfl, rfl⟩ | ⟨A, rfl, rfl⟩
    · rw [hr.bool_inv] at hv'
      simp only [yielded, hd2, Option.bind_some, hv']
      cases c <;> cases w <;> rfl
    · obtain ⟨B, hB, _⟩ := hr.tuple_inv
      rw [hB] at hv'
      simp only [yielded, hd2, Option.bind_some, hv']
      rfl
theorem ops_sound (hcall : CallOK P call) {ops : Array Oper} {n : Nat} (hok : ∀ o ∈ ops.toList, okOp P o = true ∧ ∀ d, o.dst = some d → d < n) {W : Base} {Q : Exit → Act → World → Prop} {K : Fr → St → Res} :
    ∀ (rest : List Oper) (i : Nat) (past : Past) (fr : Fr) (σ : St), rest = ops.toList.drop i → aOps P call ops.toList none rest i past fr σ K = some r →
      ∀ (μ : Mp) (a : Act) (w : World), FrRel μ fr a → Rel W μ σ w → a.tmps.size = n → a.defers = [] →
      (∀ fr' σ' μ' a' w', K fr' σ' = some r → μ.le μ' → FrRel μ' fr' a' → Rel W μ' σ' w' → a'.tmps.size = n → a'.defers = [] → Q .normal a' w') →
      wpOps P ops Q (List.range' i rest.length) a w := by
  intro rest
  induction rest with
  | nil =>
    intro i past fr σ _ h μ a w hf hr hn hd hQ
    simp only [aOps] at h
    exact hQ fr σ μ a w h (Mp.le.refl μ) hf hr hn hd
  | cons o rest ih =>
    intro i past fr σ hrest h μ a w hf hr hn hd hQ
    have hoi : ops.toList[i]? = some o := by
      have : (ops.toList.drop i)[0]? = some o := by rw [← hrest]; rfl
      simpa using this
    have hnext : rest = ops.toList.drop (i + 1) := by
      rw [← List.drop_drop, ← hrest]; rfl
    obtain ⟨hop, hdst⟩ := hok o (List.mem_of_getElem? hoi)
    have hoi2 : ops[i]? = some o := by rw [← Array.getElem?_toList]; exact hoi
    simp only [aOps] at h
    obtain ⟨fr', b, h1, hsame, hg⟩ := guardIs_inv h
    have hf' : FrRel μ fr' a := fun t v hv => hf t v (by rw [← hsame]; exact hv)
    have hw := wanted_of (ops := ops) (F := fr) (a := a) (μ := μ) hg (fun _ _ _ d _ v hv => hf d v hv)
    simp only [List.length_cons, List.range'_succ, wpOps, hoi2, hw]
    cases b with
    | true =>
      simp only [if_true] at h1 ⊢
      obtain ⟨v, σ', h2, h3, _⟩ := aOp_inv hcall hop h1
      refine .inl (h3 W μ a w (hf'.on _) hr _ Q (fun v' w' μ' hle hv' hr' => ?_))
      refine ih (i + 1) _ _ _ hnext h2 μ' _ _ ((hf'.mono hle).put hv' (fun t ht => by rw [hn]; exact hdst t ht)) hr' ?_ ?_ (fun fr2 σ2 μ2 a2 w2 hK hle2 => hQ fr2 σ2 μ2 a2 w2 hK (hle.trans hle2))
      · cases ho : o.dst <;> simp [Act.put, hn]
      · cases ho : o.dst <;> simp [Act.put, hd]
    | false =>
      simp only [Bool.false_eq_true, if_false] at h1 ⊢
      refine ih (i + 1) _ _ _ hnext h1 μ _ _ (hf'.put (VRel.undef μ) (fun t ht => by rw [hn]; exact hdst t ht)) hr ?_ ?_ hQ
      · cases ho : o.dst <;> simp [Act.put, hn]
      · cases ho : o.dst <;> simp [Act.put, hd]
def maskOf (acc : List Nat) (es : List Edge) : Nat :=
  es.foldl (fun s e => bif Region.binds .any e then (s ||| (1 <<< e.on)) ||| acc.getD e.on 0 else s) 0
def befL : List Oper → List Nat → List Nat
  | [], acc => acc
  | o :: rest, acc => befL rest (acc ++ [maskOf acc o.after.toList])
theorem maskFold (acc : List Nat) (j : Nat) : ∀ (es : List Edge) (s : Nat), (es.foldl (fun s e => bif Region.binds .any e then (s ||| (1 <<< e.on)) ||| acc.getD e.on 0 else s) s).testBit j = true →
    s.testBit j = true ∨ ∃ e ∈ es, Region.binds .any e = true ∧ (j = e.on ∨ (acc.getD e.on 0).testBit j = true)
  | [], s, h => .inl h
  | e :: es, s, h => by
    simp only [List.foldl_cons] at h
    rcases maskFold acc j es _ h with h1 | ⟨e', he', h2⟩
    · cases hb : Region.binds .any e with
      | false => rw [hb] at h1; exact .inl h1
      | true =>
        rw [hb] at h1
        simp only [cond_true, Nat.testBit_or, Bool.or_eq_true] at h1
        rcases h1 with (h1 | h1) | h1
        · exact .inl h1
        · refine .inr ⟨e, by simp, hb, .inl ?_⟩
          rw [Nat.testBit_shiftLeft, Bool.and_eq_true] at h1
          have h2 : e.on ≤ j := by simpa using h1.1
          have h3 : (1 : Nat).testBit (j - e.on) = true := h1.2
          rcases Nat.eq_zero_or_pos (j - e.on) with h4 | h4
          · omega
          · obtain ⟨m, hm⟩ : ∃ m, j - e.on = m + 1 := ⟨j - e.on - 1, by omega⟩
            rw [hm, Nat.testBit_succ] at h3
            simp at h3
        · exact .inr ⟨e, by simp, hb, .inr h1⟩
    · exact .inr ⟨e', by simp [he'], h2⟩
theorem befL_spec {D : Nat → Prop} {all : List Oper} (hD : ∀ i o, all[i]? = some o → D i → ∀ e ∈ o.after.toList, Region.binds .any e = true → D e.on) :
    ∀ (rest : List Oper) (acc : List Nat), rest = all.drop acc.length → acc.length ≤ all.length →
      (∀ i o, i < acc.length → all[i]? = some o → (∀ e ∈ o.after.toList, Region.binds .any e = true → D e.on) → ∀ j, (acc.getD i 0).testBit j = true → D j) →
      ∀ i o, all[i]? = some o → (∀ e ∈ o.after.toList, Region.binds .any e = true → D e.on) → ∀ j, ((befL rest acc).getD i 0).testBit j = true → D j
  | [], acc, hr, hle, hacc => by
    intro i o ho
    have hlen : all.length ≤ acc.length := by
      rcases Nat.lt_or_ge acc.length all.length with h | h
      · have := congrArg List.length hr; simp at this; omega
      · exact h
    exact hacc i o (by have := (List.getElem?_eq_some_iff.1 ho).1; omega) ho
  | o :: rest, acc, hr, hle, hacc => by
    have hoi : all[acc.length]? = some o := by
      have : (all.drop acc.length)[0]? = some o := by rw [← hr]; rfl
      simpa using this
    have hnext : rest = all.drop (acc.length + 1) := by rw [← List.drop_drop, ← hr]; rfl
    simp only [befL]
    refine befL_spec hD rest _ (by simpa using hnext) (by have := (List.getElem?_eq_some_iff.1 hoi).1; simp; omega) ?_
    intro i o' hi ho' haft j hj
    simp only [List.length_append, List.length_cons, List.length_nil] at hi
    by_cases hlt : i < acc.length
    · refine hacc i o' hlt ho' haft j ?_
      simpa [List.getD, List.getElem?_append_left hlt] using hj
    · have hie : i = acc.length := by omega
      subst hie
      rw [hoi] at ho'
      cases ho'
      have hj2 : (maskOf acc o.after.toList).testBit j = true := by simpa [List.getD] using hj
      rcases maskFold acc j o.after.toList 0 hj2 with h1 | ⟨e, he, hb, h1⟩
      · simp at h1
      · rcases h1 with rfl | h1
        · exact haft e he hb
        · have hlt2 : e.on < acc.length := by
            rcases Nat.lt_or_ge e.on acc.length with h | h
            · exact h
            · rw [List.getD, List.getElem?_eq_none h] at h1; simp at h1
          have hlt3 : e.on < all.length := by omega
          exact hacc e.on all[e.on] hlt2 (List.getElem?_eq_getElem hlt3) (hD e.on _ (List.getElem?_eq_getElem hlt3) (haft e he hb)) j h1
def allPre (P : Program) (b j : Nat) : Nat → List Oper → Bool
  | _, [] => true
  | q, x :: l => (bif Nat.blt q j && acts P x then b.testBit q else true) && allPre P b j (q + 1) l
def aheadOf (P : Program) (all : List Oper) (B : List Nat) : Nat → List Oper → Nat
  | i, [] => i
  | i, o :: l => bif loose o && !allPre P (B.getD i 0) i 0 all then i else aheadOf P all B (i + 1) l
def okAt (P : Program) (n : Nat) (u : Nat → List Nat) (all : List Oper) (B : List Nat) (ja i : Nat) (o : Oper) : Bool :=
  okOp P o && (match o.dst with | some d => Nat.blt d n | none => true) && o.after.toList.all (fun e => !Region.binds .any e || Nat.blt e.on i) &&
  (match o.guard with | some (q, _) => (B.getD i 0).testBit q && !Nat.beq q ja | none => true) &&
  (!Nat.beq i ja || loose o) &&
  (match (all[ja]?).bind (·.dst) with | some t => !(slots o).contains t || allPre P (B.getD i 0) ja 0 all | none => true) &&
  go (slots o) 0 all
where
  go (sl : List Nat) : Nat → List Oper → Bool
    | _, [] => true
    | q, x :: l => (match x.dst with
        | some t => !(sl.contains t) || (B.getD i 0).testBit q || (!(looks P o && !acts P o) && (Nat.beq q i || (Nat.blt i q && (B.getD q 0).testBit i)))
        | none => true) &&
      (match x.dst, o.dst with | some t, some d => Nat.beq q i || !(Nat.beq t d) | _, _ => true) &&
      (bif Nat.blt q i then
        (bif acts P o then (bif acts P x then ((B.getD i 0).testBit q || Nat.beq i ja) else bif looks P x then ((B.getD i 0).testBit q || (u i).contains q) else true)
         else bif acts P x then (bif looks P o then ((B.getD i 0).testBit q || (u i).contains q) else true) else true) else true) && go sl (q + 1) l
def okAll (P : Program) (n : Nat) (u : Nat → List Nat) (all : List Oper) (B : List Nat) (ja : Nat) : Nat → List Oper → Bool
  | _, [] => true
  | i, o :: l => okAt P n u all B ja i o && okAll P n u all B ja (i + 1) l
def okDrawn (P : Program) (n : Nat) (u : Nat → List Nat) (all : List Oper) : Bool := okAll P n u all (befL all []) (aheadOf P all (befL all []) 0 all) 0 all
theorem allPre_at {b j : Nat} : ∀ (l : List Oper) (q : Nat), allPre P b j q l = true → ∀ k x, l[k]? = some x → q + k < j → acts P x = true → b.testBit (q + k) = true
  | [], _, _, k, x, h => by simp at h
  | y :: l, q, h, k, x, hx => by
    simp only [allPre, Bool.and_eq_true] at h
    cases k with
    | succ k => have := allPre_at l (q + 1) h.2 k x (by simpa using hx); rwa [show q + 1 + k = q + (k + 1) by omega] at this
    | zero =>
      simp only [List.getElem?_cons_zero, Option.some.injEq] at hx
      subst hx
      intro hlt ha
      have hb : Nat.blt q j = true := by simpa [Nat.blt_eq] using hlt
      have h1 := h.1
      rw [hb, ha] at h1
      exact h1
theorem okAll_at {n : Nat} {u : Nat → List Nat} {all : List Oper} {B : List Nat} {ja : Nat} : ∀ (l : List Oper) (i : Nat), okAll P n u all B ja i l = true → ∀ k o, l[k]? = some o → okAt P n u all B ja (i + k) o = true
  | [], _, _, k, o, h => by simp at h
  | x :: l, i, h, k, o, ho => by
    simp only [okAll, Bool.and_eq_true] at h
    cases k with
    | zero => simp at ho; subst ho; exact h.1
    | succ k => have := okAll_at l (i + 1) h.2 k o (by simpa using ho); rwa [show i + 1 + k = i + (k + 1) by omega] at this
theorem okGo {n : Nat} {u : Nat → List Nat} {all : List Oper} {B : List Nat} {ja i : Nat} {o : Oper} {sl : List Nat} : ∀ (l : List Oper) (q : Nat), okAt.go P u B ja i o sl q l = true → ∀ k x, l[k]? = some x →
    (∀ t, x.dst = some t → t ∈ sl → (B.getD i 0).testBit (q + k) = true ∨ (¬ (looks P o = true ∧ acts P o = false) ∧ (q + k = i ∨ (i < q + k ∧ (B.getD (q + k) 0).testBit i = true)))) ∧ (∀ t, x.dst = some t → o.dst = some t → q + k = i) ∧
    (q + k < i → (acts P o = true → acts P x = true → (B.getD i 0).testBit (q + k) = true ∨ i = ja) ∧ (acts P o = true → acts P x = false → looks P x = true → (B.getD i 0).testBit (q + k) = true ∨ q + k ∈ u i) ∧
      (acts P o = false → acts P x = true → looks P o = true → (B.getD i 0).testBit (q + k) = true ∨ q + k ∈ u i))
  | [], _, _, k, x, h => by simp at h
  | y :: l, q, h, k, x, hx => by
    simp only [okAt.go, Bool.and_eq_true] at h
    cases k with
    | succ k => have := okGo (n := n) (all := all) l (q + 1) h.2 k x (by simpa using hx); rwa [show q + 1 + k = q + (k + 1) by omega] at this
    | zero =>
      simp only [List.getElem?_cons_zero, Option.some.injEq] at hx
      subst hx
      obtain ⟨⟨⟨h1, h2⟩, h3⟩, _⟩ := h
      refine ⟨fun t ht hm => ?_, fun t ht ho => ?_, fun hlt => ?_⟩
      · rw [ht] at h1
        have hm' : sl.contains t = true := by simpa using hm
        simp only [hm', Bool.not_true, Bool.false_or, Bool.or_eq_true] at h1
        rcases h1 with h1 | h1
        · exact .inl h1
        · right
          simp only [Bool.and_eq_true, Bool.not_eq_true', Bool.or_eq_true, Nat.blt_eq, Nat.add_zero] at h1 ⊢
          refine ⟨fun hc => by rw [hc.1, hc.2] at h1; simp at h1, h1.2.imp (fun h => Nat.eq_of_beq_eq_true h) id⟩
      · rw [ht, ho] at h2
        simpa using h2
      · have hb : Nat.blt q i = true := by simpa [Nat.blt_eq] using hlt
        rw [hb] at h3
        simp only [cond_true] at h3
        refine ⟨fun ha hx => ?_, fun ha hx hl => ?_, fun ha hx hl => ?_⟩
        · rw [ha, hx] at h3; simpa using h3
        · rw [ha, hx, hl] at h3; simpa using h3
        · rw [ha, hx, hl] at h3; simpa using h3
end Go.AM

namespace Go.AM
open Go.RowKit
variable [Laid]
variable {P : Program} {call : FuncId → List Value → St → Res} {r : Value × St}
theorem FrOn.congr {μ : Mp} {fr F : Fr} {a : Act} {S : List Nat} (h : ∀ t ∈ S, fr.get t = F.get t) (hf : FrOn μ F a S) : FrOn μ fr a S := fun t ht v hv => hf t ht v (by rw [← h t ht]; exact hv)
theorem Sound.congr {o : Oper} {fr F : Fr} {σ σ' : St} {v : Value} (h : ∀ t ∈ slots o, fr.get t = F.get t) (hs : Sound P o fr σ v σ') : Sound P o F σ v σ' :=
  fun W μ a w hf hr next Q hn => hs W μ a w (FrOn.congr h hf) hr next Q hn
theorem again_inv (hcall : CallOK P call) {o : Oper} {fr : Fr} {v : Value} {K : Res} (hok : okOp P o = true) (ha : acts P o = false) : ∀ {l : List St}, again P call o fr v K l = some r →
    K = some r ∧ ∀ σ ∈ l, Sound P o fr σ v σ
  | [], h => ⟨h, fun _ h => by cases h⟩
  | σ :: l, h => by
    simp only [again] at h
    obtain ⟨u, σ', h1, h2, h3⟩ := aOp_inv hcall hok h
    obtain ⟨rfl, h4⟩ := chk_inv h1
    obtain ⟨h5, h6⟩ := again_inv hcall hok ha h4
    obtain ⟨rfl, _⟩ := h3 ha
    exact ⟨h5, fun x hx => by cases hx with | head => exact h2 | tail _ hx => exact h6 x hx⟩
theorem still_inv (hcall : CallOK P call) {fr : Fr} {σ : St} {K : Res} : ∀ {l : List (Oper × Value)}, (∀ x ∈ l, okOp P x.1 = true ∧ acts P x.1 = false) → still P call fr σ K l = some r →
    K = some r ∧ ∀ x ∈ l, Sound P x.1 fr σ x.2 σ
  | [], _, h => ⟨h, fun _ h => by cases h⟩
  | (o, v) :: l, hl, h => by
    simp only [still] at h
    obtain ⟨hok, ha⟩ := hl (o, v) (by simp)
    obtain ⟨u, σ', h1, h2, h3⟩ := aOp_inv hcall hok h
    obtain ⟨rfl, h4⟩ := chk_inv h1
    obtain ⟨h5, h6⟩ := still_inv hcall (fun x hx => hl x (by simp [hx])) h4
    obtain ⟨rfl, _⟩ := h3 ha
    exact ⟨h5, fun x hx => by cases hx with | head => exact h2 | tail _ hx => exact h6 x hx⟩
theorem those_mem {β : Type} {l : List (Nat × β)} {is : List Nat} {i : Nat} {x : β} (hi : i ∈ is) (h : oneOf i l = [x]) : x ∈ those l is := by
  induction is with
  | nil => cases hi
  | cons j is ih =>
    simp only [those, List.mem_append]
    cases hi with
    | head => left; rw [h]; simp
    | tail _ hi => exact .inr (ih hi)
theorem oneOf_sub {β : Type} {i : Nat} : ∀ {l : List (Nat × β)} {x : β}, x ∈ oneOf i l → ∃ j, (j, x) ∈ l
  | [], x, h => by cases h
  | (j, y) :: l, x, h => by
    simp only [oneOf] at h
    cases hb : Nat.beq i j with
    | true => rw [hb] at h; simp at h; subst h; exact ⟨j, by simp⟩
    | false => rw [hb] at h; obtain ⟨j', h'⟩ := oneOf_sub (by simpa using h); exact ⟨j', by simp [h']⟩
theorem those_sub {β : Type} {l : List (Nat × β)} {is : List Nat} {x : β} (h : x ∈ those l is) : ∃ j, (j, x) ∈ l := by
  induction is with
  | nil => cases h
  | cons i is ih =>
    simp only [those, List.mem_append] at h
    rcases h with h | h
    · exact oneOf_sub h
    · exact ih h
theorem oneOf_cons {β : Type} {k i : Nat} {x : β} {l : List (Nat × β)} (h : k ≠ i) : oneOf k ((i, x) :: l) = oneOf k l := by simp [oneOf, nbeq_ne h]
theorem oneOf_here {β : Type} {i : Nat} {x : β} {l : List (Nat × β)} : oneOf i ((i, x) :: l) = [x] := by simp [oneOf]
theorem loose_acts {o : Oper} (h : loose o = true) : acts P o = true := by
  unfold loose at h
  unfold acts
  split at h <;> simp_all
theorem aOp_inv2 (hcall : CallOK P call) {o : Oper} {fr : Fr} {σ : St} {K : Value → St → Res} (hok : okOp P o = true) (h : aOp P call o fr σ K = some r) :
    ∃ v σ', K v σ' = some r ∧ Told P o fr σ v σ' ∧ (loose o = true → ∃ (val : Nat → Value) (vs : List Value) (e : TypeId), v = val σ.next ∧ σ' = σ.new (.own vs e) ∧ Lays P o fr val vs e) := by
  by_cases hl : loose o = true
  · obtain ⟨val, vs, e, h1, h2⟩ := loose_inv hok hl h
    exact ⟨_, _, h1, ⟨(h2.ran σ).sound, fun ha => by rw [loose_acts hl] at ha; cases ha⟩, fun _ => ⟨val, vs, e, rfl, rfl, h2⟩⟩
  · obtain ⟨v, σ', h1, h2⟩ := aOp_inv hcall hok h
    exact ⟨v, σ', h1, h2, fun h => absurd h hl⟩
structure At (P : Program) (u : Nat → List Nat) (all : List Oper) (f0 F : Fr) (H : Nat → Fr) (v : Nat → Value) (s : Nat → St) (g : Nat → Bool) (j : Nat) (o : Oper) : Prop where
  guard : match o.guard with
    | none => g j = true
    | some (q, w) => ∃ d x, (all[q]?).bind (·.dst) = some d ∧ F.get d = some x ∧ ((∃ c, x = .bool c ∧ g j = (c == w)) ∨ (∃ A, x = .tuple A ∧ g j = false))
  dst : ∀ d, o.dst = some d → F.get d = some (v j)
  skip : g j = false → v j = undef ∧ s (j + 1) = s j
  own : ∀ t ∈ slots o, ∀ x, (H j).get t = some x → (∃ (k : Nat) (ok : Oper), k < j ∧ all[k]? = some ok ∧ ok.dst = some t ∧ x = v k) ∨ ((∀ (k : Nat) (ok : Oper), all[k]? = some ok → ok.dst = some t → j ≤ k) ∧ f0.get t = some x)
  run : g j = true → Sound P o (H j) (s j) (v j) (s (j + 1))
  quiet : g j = true → acts P o = false → s (j + 1) = s j
  reck : g j = true → acts P o = false → looks P o = false → Reckons P o (H j) (v j)
  act : g j = true → acts P o = true → ∀ k < j, k ∈ u j → g k = true → ∀ x, all[k]? = some x → acts P x = false → looks P x = true → Sound P x (H k) (s (j + 1)) (v k) (s (j + 1))
  look : g j = true → acts P o = false → looks P o = true → ∀ k < j, k ∈ u j → g k = true → ∀ x, all[k]? = some x → acts P x = true → Sound P o (H j) (s k) (v j) (s k)
  lays : g j = true → loose o = true → ∃ (val : Nat → Value) (vs : List Value) (e : TypeId), v j = val (s j).next ∧ s (j + 1) = (s j).new (.own vs e) ∧ Lays P o (H j) val vs e
structure Kept (P : Program) (all : List Oper) (f0 fr : Fr) (H : Nat → Fr) (v : Nat → Value) (s : Nat → St) (g : Nat → Bool) (i : Nat) (past : Past) : Prop where
  r1 : ∀ x ∈ past.reads, okOp P x.2.1 = true ∧ acts P x.2.1 = false
  r2 : ∀ k < i, g k = true → ∀ o, all[k]? = some o → acts P o = false → looks P o = true → oneOf k past.reads = [(o, v k)]
  a2 : ∀ k < i, g k = true → ∀ o, all[k]? = some o → acts P o = true → oneOf k past.acts = [s k]
  r3 : ∀ k < i, ∀ o, all[k]? = some o → acts P o = false → looks P o = true → ∀ t ∈ slots o, (H k).get t = fr.get t
  fr1 : ∀ t x, fr.get t = some x → (∃ (k : Nat) (ok : Oper), k < i ∧ all[k]? = some ok ∧ ok.dst = some t ∧ x = v k) ∨ ((∀ (k : Nat) (ok : Oper), all[k]? = some ok → ok.dst = some t → i ≤ k) ∧ f0.get t = some x)
structure Static (P : Program) (n : Nat) (u : Nat → List Nat) (all : List Oper) : Prop where
  ok : ∀ (i : Nat) (o : Oper), all[i]? = some o → okOp P o = true
  gd : ∀ (i : Nat) (o : Oper) (q : Nat) (w : Bool), all[i]? = some o → o.guard = some (q, w) → q < i
  dn : ∀ (i : Nat) (o : Oper) (d : Nat), all[i]? = some o → o.dst = some d → d < n
  dd : ∀ (i j : Nat) (o o' : Oper) (d : Nat), all[i]? = some o → all[j]? = some o' → o.dst = some d → o'.dst = some d → i = j
  sl : ∀ (i j : Nat) (o o' : Oper) (t : Nat), all[i]? = some o → all[j]? = some o' → o'.dst = some t → t ∈ slots o → acts P o = false → looks P o = true → j < i
theorem trace (hcall : CallOK P call) {n : Nat} {u : Nat → List Nat} {all : List Oper} (hst : Static P n u all) {K : Fr → St → Res} {f0 : Fr} :
    ∀ (rest : List Oper) (i : Nat) (past : Past) (fr : Fr) (H0 : Nat → Fr) (v0 : Nat → Value) (s0 : Nat → St) (g0 : Nat → Bool), rest = all.drop i → i + rest.length = all.length → aOps P call all (some u) rest i past fr (s0 i) K = some r →
      Kept P all f0 fr H0 v0 s0 g0 i past →
      ∃ (F : Fr) (H : Nat → Fr) (v : Nat → Value) (s : Nat → St) (g : Nat → Bool), K F (s all.length) = some r ∧ (∀ k < i, v k = v0 k ∧ g k = g0 k ∧ H k = H0 k) ∧ (∀ k ≤ i, s k = s0 k) ∧
        (∀ t, (∀ j o, i ≤ j → all[j]? = some o → o.dst ≠ some t) → fr.get t = F.get t) ∧ ∀ j o, i ≤ j → all[j]? = some o → At P u all f0 F H v s g j o := by
  intro rest
  induction rest with
  | nil =>
    intro i past fr H0 v0 s0 g0 hrest hlen h hk
    simp only [aOps] at h
    simp only [List.length_nil, Nat.add_zero] at hlen
    subst hlen
    exact ⟨fr, H0, v0, s0, g0, h, fun _ _ => ⟨rfl, rfl, rfl⟩, fun _ _ => rfl, fun _ _ => rfl, fun j o hj ho => by have := (List.getElem?_eq_some_iff.1 ho).1; omega⟩
  | cons o rest ih =>
    intro i past fr H0 v0 s0 g0 hrest hlen h hk
    have hoi : all[i]? = some o := by
      have : (all.drop i)[0]? = some o := by rw [← hrest]; rfl
      simpa using this
    have hnext : rest = all.drop (i + 1) := by rw [← List.drop_drop, ← hrest]; rfl
    have hlen2 : i + 1 + rest.length = all.length := by simp at hlen; omega
    have hop := hst.ok i o hoi
    simp only [aOps] at h
    obtain ⟨fr', b, h1, hsame, hg⟩ := guardIs_inv h
    -- one step on
    have step : ∀ (x : Value) (σ' : St) (past' : Past), aOps P call all (some u) rest (i + 1) past' (fr'.put o.dst x) σ' K = some r →
        (∀ y ∈ past'.reads, okOp P y.2.1 = true ∧ acts P y.2.1 = false) →
        (∀ k < i, oneOf k past'.reads = oneOf k past.reads) → (∀ k < i, oneOf k past'.acts = oneOf k past.acts) →
        (b = true → acts P o = false → looks P o = true → oneOf i past'.reads = [(o, x)]) → (b = true → acts P o = true → oneOf i past'.acts = [s0 i]) →
        ∃ (F : Fr) (H : Nat → Fr) (v : Nat → Value) (s : Nat → St) (g : Nat → Bool), K F (s all.length) = some r ∧ (∀ k < i, v k = v0 k ∧ g k = g0 k ∧ H k = H0 k) ∧ (∀ k ≤ i, s k = s0 k) ∧ H i = fr' ∧ v i = x ∧ g i = b ∧ s (i + 1) = σ' ∧
          (∀ t, (∀ j o, i ≤ j → all[j]? = some o → o.dst ≠ some t) → fr.get t = F.get t) ∧ (∀ d, o.dst = some d → F.get d = some x) ∧ ∀ j o, i + 1 ≤ j → all[j]? = some o → At P u all f0 F H v s g j o := by
      intro x σ' past' h2 hr1 hr2 ha2 hri hai
      let H1 : Nat → Fr := fun k => if k = i then fr' else H0 k
      let v1 : Nat → Value := fun k => if k = i then x else v0 k
      let g1 : Nat → Bool := fun k => if k = i then b else g0 k
      let s1 : Nat → St := fun k => if k = i + 1 then σ' else s0 k
      have hs1 : s1 (i + 1) = σ' := by simp [s1]
      obtain ⟨F, H, v, s, g, e1, e2, e3, e4, e5⟩ := ih (i + 1) past' (fr'.put o.dst x) H1 v1 s1 g1 hnext hlen2 (by rw [hs1]; exact h2) ⟨hr1, fun k hk1 hgk o' ho' hact hlk => by
          by_cases hki : k = i
          · subst hki
            rw [hoi] at ho'; cases ho'
            rw [hri (by simpa [g1] using hgk) hact hlk]
            simp [v1]
          · rw [hr2 k (by omega), hk.r2 k (by omega) (by simpa [g1, hki] using hgk) o' ho' hact hlk]
            simp [v1, hki], fun k hk1 hgk o' ho' hact => by
          by_cases hki : k = i
          · subst hki
            rw [hoi] at ho'; cases ho'
            rw [hai (by simpa [g1] using hgk) hact]
            simp [s1]
          · have hki2 : k ≠ i + 1 := by omega
            rw [ha2 k (by omega), hk.a2 k (by omega) (by simpa [g1, hki] using hgk) o' ho' hact]
            simp [s1, hki2], fun k hk1 o' ho' hact hlk t ht => by
          have hne : o.dst ≠ some t := fun e => by have := hst.sl k i o' o t ho' hoi e ht hact hlk; omega
          have hput : (fr'.put o.dst x).get t = fr'.get t := by
            cases hod : o.dst with
            | none => rfl
            | some d =>
              have hdt : d ≠ t := fun e => hne (by rw [hod, e])
              simp only [Fr.put, Fr.get, nbeq_ne hdt]; rfl
          rw [hput]
          by_cases hki : k = i
          · simp [H1, hki]
          · simp only [H1, hki, if_false]; rw [hsame t]; exact hk.r3 k (by omega) o' ho' hact hlk t ht, fun t y hy => by
          by_cases hod : o.dst = some t
          · rw [hod] at hy
            simp [Fr.put, Fr.get] at hy
            exact .inl ⟨i, o, by omega, hoi, hod, by simp [v1, hy]⟩
          · have hput : (fr'.put o.dst x).get t = fr'.get t := by
              cases hod2 : o.dst with
              | none => rfl
              | some d =>
                have hdt : d ≠ t := fun e => hod (by rw [hod2, e])
                simp only [Fr.put, Fr.get, nbeq_ne hdt]; rfl
            rw [hput, hsame t] at hy
            rcases hk.fr1 t y hy with ⟨k, ok, w1, w2, w3, w4⟩ | ⟨w1, w2⟩
            · exact .inl ⟨k, ok, by omega, w2, w3, by rw [w4]; simp [v1, show k ≠ i by omega]⟩
            · refine .inr ⟨fun k ok hok hkd => ?_, w2⟩
              have := w1 k ok hok hkd
              have hne : k ≠ i := fun e => by subst e; rw [hoi] at hok; cases hok; exact hod hkd
              omega⟩
      have hd : ∀ t, (∀ j o', i + 1 ≤ j → all[j]? = some o' → o'.dst ≠ some t) → (fr'.put o.dst x).get t = F.get t := e4
      refine ⟨F, H, v, s, g, e1, fun k hk1 => ?_, fun k hk1 => ?_, ?_, ?_, ?_, ?_, fun t ht => ?_, fun d hod => ?_, e5⟩
      · have := e2 k (by omega)
        have hki : k ≠ i := by omega
        simpa [v1, g1, H1, hki] using this
      · have := e3 k (by omega)
        have hki : k ≠ i + 1 := by omega
        simpa [s1, hki] using this
      · have := (e2 i (by omega)).2.2; simpa [H1] using this
      · have := (e2 i (by omega)).1; simpa [v1] using this
      · have := (e2 i (by omega)).2.1; simpa [g1] using this
      · have := e3 (i + 1) (by omega); simpa [s1] using this
      · rw [← hd t (fun j o' hj => ht j o' (by omega)), ← hsame t]
        have hne := ht i o (by omega) hoi
        cases hod : o.dst with
        | none => rfl
        | some d =>
          have hdt : d ≠ t := fun e => hne (by rw [hod, e])
          simp only [Fr.put, Fr.get, nbeq_ne hdt]; rfl
      · rw [← hd d (fun j o' hj ho' e => by have := hst.dd i j o o' d hoi ho' hod e; omega)]
        rw [hod]
        simp [Fr.put, Fr.get]
    have ownI : ∀ (v : Nat → Value), (∀ k < i, v k = v0 k) → ∀ t ∈ slots o, ∀ x, fr'.get t = some x → (∃ (k : Nat) (ok : Oper), k < i ∧ all[k]? = some ok ∧ ok.dst = some t ∧ x = v k) ∨ ((∀ (k : Nat) (ok : Oper), all[k]? = some ok → ok.dst = some t → i ≤ k) ∧ f0.get t = some x) := by
      intro v hv t _ x hx
      rw [hsame t] at hx
      rcases hk.fr1 t x hx with ⟨k, ok, w1, w2, w3, w4⟩ | h
      · exact .inl ⟨k, ok, w1, w2, w3, by rw [hv k w1]; exact w4⟩
      · exact .inr h
    have guardF : ∀ (F : Fr) (g : Nat → Bool), g i = b → (∀ d x, fr.get d = some x → (∃ q w, o.guard = some (q, w) ∧ (all[q]?).bind (·.dst) = some d) → F.get d = some x) → (match o.guard with
        | none => g i = true
        | some (q, w) => ∃ d x, (all[q]?).bind (·.dst) = some d ∧ F.get d = some x ∧ ((∃ c, x = .bool c ∧ g i = (c == w)) ∨ (∃ A, x = .tuple A ∧ g i = false))) := by
      intro F g hgi hF
      cases hgd : o.guard with
      | none => rw [hgd] at hg; simpa [hgi] using hg
      | some qw =>
        obtain ⟨q, w⟩ := qw
        rw [hgd] at hg
        obtain ⟨d, x, h3, h4, h5⟩ := hg
        exact ⟨d, x, h3, hF d x h4 ⟨q, w, hgd, h3⟩, by rw [hgi]; exact h5⟩
    have guardAll : ∀ (F : Fr), (∀ t, (∀ j o, i ≤ j → all[j]? = some o → o.dst ≠ some t) → fr.get t = F.get t) → ∀ d x, fr.get d = some x → (∃ q w, o.guard = some (q, w) ∧ (all[q]?).bind (·.dst) = some d) → F.get d = some x := by
      intro F hF d x hx ⟨q, w, hgd, hq⟩
      rw [← hF d (fun j o' hj ho' e => ?_)]
      · exact hx
      · obtain ⟨oq, hoq, hqd⟩ := Option.bind_eq_some_iff.1 hq
        have h3 := hst.dd q j oq o' d hoq ho' hqd e
        have h4 := hst.gd i o q w hoi hgd
        omega
    cases b with
    | false =>
      simp only [Bool.false_eq_true, if_false] at h1
      obtain ⟨F, H, v, s, g, e1, e2, e3, eH, e4, e5, e6, e7, e8, e9⟩ := step undef (s0 i) past h1 hk.r1 (fun _ _ => rfl) (fun _ _ => rfl) (fun h => by cases h) (fun h => by cases h)
      refine ⟨F, H, v, s, g, e1, e2, e3, e7, fun j o' hj ho' => ?_⟩
      by_cases hji : j = i
      · subst hji
        rw [hoi] at ho'; cases ho'
        refine ⟨guardF F g e5 (guardAll F e7), fun d hd => by rw [e4]; exact e8 d hd, fun _ => ⟨e4, by rw [e6, e3 j (Nat.le_refl _)]⟩, by rw [eH]; exact ownI v (fun k hk1 => (e2 k hk1).1), fun h => (by rw [e5] at h; cases h), fun h => (by rw [e5] at h; cases h), fun h => (by rw [e5] at h; cases h), fun h => (by rw [e5] at h; cases h), fun h => (by rw [e5] at h; cases h), fun h => (by rw [e5] at h; cases h)⟩
      · exact e9 j o' (by omega) ho'
    | true =>
      simp only [if_true] at h1
      obtain ⟨x, σ', h2, ⟨hsound, htold⟩, hlays⟩ := aOp_inv2 hcall hop h1
      cases hact : acts P o with
      | true =>
        rw [hact] at h2
        simp only [cond_true] at h2
        have hreads : ∀ y ∈ those past.reads (u i), okOp P y.1 = true ∧ acts P y.1 = false := by
          intro y hy
          obtain ⟨j, hj⟩ := those_sub hy
          exact hk.r1 _ hj
        obtain ⟨h3, h4⟩ := still_inv hcall hreads h2
        obtain ⟨F, H, v, s, g, e1, e2, e3, eH, e4, e5, e6, e7, e8, e9⟩ := step x σ' _ h3 hk.r1 (fun _ _ => rfl) (fun k hki => oneOf_cons (by omega)) (fun _ h => (by rw [hact] at h; cases h)) (fun _ _ => oneOf_here)
        refine ⟨F, H, v, s, g, e1, e2, e3, e7, fun j o' hj ho' => ?_⟩
        by_cases hji : j = i
        · subst hji
          rw [hoi] at ho'; cases ho'
          refine ⟨guardF F g e5 (guardAll F e7), fun d hd => by rw [e4]; exact e8 d hd, fun h => (by rw [e5] at h; cases h), by rw [eH]; exact ownI v (fun k hk1 => (e2 k hk1).1), fun _ => ?_, fun _ h => (by rw [hact] at h; cases h), fun _ h => (by rw [hact] at h; cases h), fun _ _ k hkj hku hgk y hy hya hyl => ?_, fun _ h => (by rw [hact] at h; cases h), fun _ hl => by rw [e3 j (Nat.le_refl _), e4, e6, eH]; exact hlays hl⟩
          · rw [e3 j (Nat.le_refl _), e4, e6, eH]; exact hsound
          · have h5 := hk.r2 k hkj (by rw [← (e2 k hkj).2.1]; exact hgk) y hy hya hyl
            have h6 := h4 _ (those_mem hku h5)
            rw [e6, (e2 k hkj).1, (e2 k hkj).2.2]
            exact h6.congr (fun t ht => by rw [hsame t]; exact (hk.r3 k hkj y hy hya hyl t ht).symm)
        · exact e9 j o' (by omega) ho'
      | false =>
        obtain ⟨hσ, hreck⟩ := htold hact
        subst hσ
        rw [hact] at h2
        simp only [cond_false] at h2
        cases hlk : looks P o with
        | true =>
          rw [hlk] at h2
          simp only [cond_true] at h2
          obtain ⟨h3, h4⟩ := again_inv hcall hop hact h2
          obtain ⟨F, H, v, s, g, e1, e2, e3, eH, e4, e5, e6, e7, e8, e9⟩ := step x (s0 i) _ h3 (fun y hy => by
            cases hy with
            | head => exact ⟨hop, hact⟩
            | tail _ hy => exact hk.r1 y hy) (fun k hki => oneOf_cons (by omega)) (fun _ _ => rfl) (fun _ _ _ => oneOf_here) (fun _ h => (by rw [hact] at h; cases h))
          refine ⟨F, H, v, s, g, e1, e2, e3, e7, fun j o' hj ho' => ?_⟩
          by_cases hji : j = i
          · subst hji
            rw [hoi] at ho'; cases ho'
            refine ⟨guardF F g e5 (guardAll F e7), fun d hd => by rw [e4]; exact e8 d hd, fun h => (by rw [e5] at h; cases h), by rw [eH]; exact ownI v (fun k hk1 => (e2 k hk1).1), fun _ => ?_, fun _ _ => by rw [e6, e3 j (Nat.le_refl _)], fun _ _ h => (by rw [hlk] at h; cases h), fun _ h => (by rw [hact] at h; cases h), fun _ _ _ k hkj hku hgk y hy hya => ?_, fun _ hl => by rw [loose_acts hl] at hact; cases hact⟩
            · rw [e3 j (Nat.le_refl _), e4, e6, eH]; exact hsound
            · have h5 := hk.a2 k hkj (by rw [← (e2 k hkj).2.1]; exact hgk) y hy hya
              have h6 := h4 _ (those_mem hku h5)
              rw [e3 k (by omega), e4, eH]
              exact h6
          · exact e9 j o' (by omega) ho'
        | false =>
          rw [hlk] at h2
          simp only [cond_false] at h2
          obtain ⟨F, H, v, s, g, e1, e2, e3, eH, e4, e5, e6, e7, e8, e9⟩ := step x (s0 i) past h2 hk.r1 (fun _ _ => rfl) (fun _ _ => rfl) (fun _ _ h => (by rw [hlk] at h; cases h)) (fun _ h => (by rw [hact] at h; cases h))
          refine ⟨F, H, v, s, g, e1, e2, e3, e7, fun j o' hj ho' => ?_⟩
          by_cases hji : j = i
          · subst hji
            rw [hoi] at ho'; cases ho'
            refine ⟨guardF F g e5 (guardAll F e7), fun d hd => by rw [e4]; exact e8 d hd, fun h => (by rw [e5] at h; cases h), by rw [eH]; exact ownI v (fun k hk1 => (e2 k hk1).1), fun _ => ?_, fun _ _ => by rw [e6, e3 j (Nat.le_refl _)], fun _ _ _ => ?_, fun _ h => (by rw [hact] at h; cases h), fun _ _ h => (by rw [hlk] at h; cases h), fun _ hl => by rw [loose_acts hl] at hact; cases hact⟩
            · rw [e3 j (Nat.le_refl _), e4, e6, eH]; exact hsound
            · rw [e4, eH]; exact hreck hlk
          · exact e9 j o' (by omega) ho'
end Go.AM
