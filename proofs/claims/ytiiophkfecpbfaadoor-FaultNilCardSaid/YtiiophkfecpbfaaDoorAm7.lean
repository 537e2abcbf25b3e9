/-
  THE ABSTRACT MACHINE IS SOUND, OPERATION BY OPERATION (sixth part): slices made, grown and copied; conversions; maps.
-/
import Derived.Test.YtiiophkfecpbfaaDoorAm6
set_option linter.unusedVariables false
set_option linter.unusedSimpArgs false
set_option linter.unusedSectionVars false
namespace Go.AM
open Go.RowKit
variable [Laid]

section
variable {P : Program} {o : Oper} {fr : Fr} {r : Value × St}

theorem zerosN_length (z : List Value) : ∀ n, (zerosN z n).length = n * z.length
  | 0 => by simp [zerosN]
  | n + 1 => by simp [zerosN, zerosN_length z n, Nat.add_mul, Nat.add_comm]
theorem zerosN_get (z : List Value) : ∀ (n i : Nat), i < n * z.length → (zerosN z n)[i]? = z[i % z.length]?
  | 0, i, h => by simp at h
  | n + 1, i, h => by
    simp only [zerosN]
    by_cases hi : i < z.length
    · rw [List.getElem?_append_left hi, Nat.mod_eq_of_lt hi]
    · rw [List.getElem?_append_right (by omega), zerosN_get z n (i - z.length) (by rw [Nat.add_mul] at h; omega), ← Nat.mod_eq_sub_mod (by omega)]
theorem madeCells_get (z : Array Value) (n i : Nat) (hi : i < n) (hz : 0 < z.size) : (madeCells z n)[i]? = z[i % z.size]? := by
  have hlt : i % z.size < z.size := Nat.mod_lt _ hz
  simp [madeCells, hi, hlt]
/-- The zeros of both machines. -/
theorem zeros_rel {μ : Mp} {z : Value} {sz n m : Nat} (hp : plainV z = true) (hsz : (Value.cellsL z).length = sz) (h0 : 0 < sz) (hm : n * sz ≤ m) :
    (zerosN (Value.cellsL z) n).length ≤ (madeCells z.cells m).size ∧ ∀ (i : Nat) (v : Value), (zerosN (Value.cellsL z) n)[i]? = some v → ∃ v', (madeCells z.cells m)[i]? = some v' ∧ VRel μ v v' := by
  have hcl := (plain_rel μ z hp).cells
  have hs : z.cells.size = sz := by have := hcl.1; rw [hsz] at this; simpa using this.symm
  refine ⟨by rw [zerosN_length, hsz, size_madeCells]; exact hm, fun i v hi => ?_⟩
  have hlt : i < n * (Value.cellsL z).length := by
    have := (List.getElem?_eq_some_iff.1 hi).1
    rwa [zerosN_length] at this
  rw [zerosN_get _ _ _ hlt] at hi
  obtain ⟨v', h1, h2⟩ := hcl.get hi
  refine ⟨v', ?_, h2⟩
  rw [madeCells_get _ _ _ (by rw [hsz] at hlt; omega) (by omega), hs, ← hsz]
  simpa using h1

theorem op_makeSlice {x y : Operand} {t : TypeId} {σ : St} {K : Value → St → Res} (ho : o.op = .makeSlice t x y) (hx : okOpnd x = true) (hy : okOpnd y = true)
    (h : opnd fr x (fun a => opnd fr y fun b => aMkSlice P t a b σ K) = some r) : ∃ v σ', K v σ' = some r ∧ Ran P o fr σ v σ' := by
  obtain ⟨vx, h1, hvx⟩ := opnd_inv hx h
  obtain ⟨vy, h2, hvy⟩ := opnd_inv hy h1
  unfold aMkSlice at h2
  split at h2
  · rename_i l c
    obtain ⟨e, hu, h3⟩ := elOf_inv h2
    split at h3
    · rename_i z hz
      obtain ⟨hb, h4⟩ := need_inv h3
      obtain ⟨i, hi, hiz, hp⟩ := zeroOf_inv hz
      have hb' : 0 ≤ l ∧ l ≤ c ∧ c.toNat * bytesOf P e ≤ roomTop ∧ c ≤ (sizeTop : Int) ∧ (Value.cellsL z).length = szOf P e ∧ 0 < szOf P e := by
        simp only [Bool.and_eq_true, decide_eq_true_eq] at hb
        obtain ⟨⟨⟨⟨⟨a1, a2⟩, a3⟩, a4⟩, a5⟩, a6⟩ := hb
        exact ⟨a1, a2, a3, a4, Nat.eq_of_beq_eq_true a5, a6⟩
      obtain ⟨b1, b2, b3, b4, b5, b6⟩ := hb'
      refine ⟨_, _, h4, fun W μ a w hf hr => ?_⟩
      have hgx := (hvx μ a (slots o) (slots2a (by rw [ho]; rfl)) hf).int_inv
      have hgy := (hvy μ a (slots o) (slots2b (by rw [ho]; rfl)) hf).int_inv
      rw [szOf_eq hi] at b5 b6
      rw [bytesOf_eq hi] at b3
      unfold sizeTop at b4
      unfold roomTop at b3
      have hbytes : (i.bytes : Int) * c ≤ 281474976710656 := by
        have h5 : ((c.toNat * i.bytes : Nat) : Int) ≤ 140737488355328 := by omega
        have h6 : ((c.toNat : Nat) : Int) = c := by omega
        rw [Int.natCast_mul, h6, Int.mul_comm] at h5
        omega
      have hrun := run_make (P := P) w t e i z hu hi hiz .i64 .i64 l c b1 b2 hbytes (by omega)
      obtain ⟨g1, g2⟩ := zeros_rel (μ := μ) (n := l.toNat) (m := c.toNat * i.size) hp b5 b6 (Nat.mul_le_mul_right _ (by omega))
      obtain ⟨h5, h6⟩ := hr.new (madeCells z.cells (c.toNat * i.size)) e _ g1 g2
      refine ⟨.value (.slice (some ⟨w.heap.size, 0, none⟩) l.toNat c.toNat), _, _, _, by simp [execOp, ho, hgx, hgy, hrun], .inl rfl, h5, ?_, h6⟩
      have hput : (μ.put σ.next ⟨w.heap.size, 0, (madeCells z.cells (c.toNat * i.size)).size⟩) σ.next = some ⟨w.heap.size, 0, (madeCells z.cells (c.toNat * i.size)).size⟩ := by simp [Mp.put]
      refine .sl hput (by omega) (.inr rfl) (.inr ?_) (by unfold maxLen; omega)
      rw [size_madeCells, szOf_eq hi]
      show 0 + c.toNat * i.size ≤ c.toNat * i.size
      omega
    · cases h3
  · cases h2

theorem run_bSlice (w : World) (t e : TypeId) (n : Nat) (i : TypeInfo) (z : Value) (parts : Array (Nat × Value)) (B : Array Value) (hu : P.underlying t = some (.slice e)) (hi : P.info? e = some i) (hz : i.zero = some z)
    (h24 : n * i.size ≤ 16777216) (hB : Instr.fill (fun j => some (j * i.size, i.size)) (madeCells z.cells (n * i.size)) parts.toList = some B) :
    (Instr.buildSlice t n parts).run P w = .ok (.slice (some ⟨w.heap.size, 0, none⟩) n n) (w.alloc (.cells B e)) := by
  have hn24 : ¬ (16777216 < n * i.size) := by omega
  by_cases hz0 : n * i.size = 0
  · have hmk : madeCells z.cells (n * i.size) = #[] := by simp [madeCells, hz0]
    rw [hmk] at hB
    have h0 : Array.map (fun _ : Nat => (default : Value)) (Array.range 0) = #[] := by simp [Array.range]
    simp [Instr.buildSlice, run_underlying hu, sizeOf, typeInfo, hi, hz0, h0, hB, newRow]
  · have hmk : (Array.range (n * i.size)).map (fun x => z.cells[x % z.cells.size]!) = madeCells z.cells (n * i.size) := rfl
    simp [Instr.buildSlice, run_underlying hu, sizeOf, typeInfo, hi, hz0, zeroValue, hz, hn24, hmk, hB, newRow]

theorem op_buildSlice {t : TypeId} {n : Nat} {ps : Array (Nat × Operand)} {σ : St} {K : Value → St → Res} (ho : o.op = .buildSlice t n ps) (hx : (ps.toList.map (·.2)).all okOpnd = true)
    (h : opndPs fr ps.toList (fun l => aBuildSlice P t n l σ K) = some r) : ∃ v σ', K v σ' = some r ∧ Ran P o fr σ v σ' := by
  obtain ⟨vs, h1, hvs⟩ := opndPs_inv hx h
  unfold aBuildSlice at h1
  obtain ⟨e, hu, h2⟩ := elOf_inv h1
  obtain ⟨hb, h3⟩ := need_inv h2
  split at h3
  · cases h3
  · rename_i z hz
    obtain ⟨hb2, h40⟩ := need_inv h3
    obtain ⟨cs, hcs0, h4⟩ := fillK_inv h40
    have hcs : fillL (fun i => some (i * szOf P e, szOf P e)) (zerosN (Value.cellsL z) n) vs = some cs := hcs0
    · obtain ⟨i, hi, hiz, hp⟩ := zeroOf_inv hz
      have hb' : (Value.cellsL z).length = szOf P e ∧ 0 < szOf P e := by
        simp only [Bool.and_eq_true, decide_eq_true_eq] at hb2
        exact ⟨Nat.eq_of_beq_eq_true hb2.1, hb2.2⟩
      obtain ⟨b5, b6⟩ := hb'
      have b7 : n * szOf P e ≤ 16777216 := of_decide_eq_true hb
      refine ⟨_, _, h4, fun W μ a w hf hr => ?_⟩
      have hpr := hvs μ a (slots o) (by intro t ht; simp only [slots, ho, Op.operands]; simpa using ht) hf
      rw [szOf_eq hi] at b5 b6 b7
      obtain ⟨g1, g2⟩ := zeros_rel (μ := μ) (n := n) (m := n * i.size) hp b5 b6 (Nat.le_refl _)
      have hlr : LRel μ (zerosN (Value.cellsL z) n) (madeCells z.cells (n * i.size)).toList := .of (by rw [zerosN_length, b5]; simp [size_madeCells]) (fun j v hj => by obtain ⟨v', h5, h6⟩ := g2 j v hj; exact ⟨v', by simpa using h5, h6⟩)
      obtain ⟨B, hB, hl⟩ := fill_rel hpr hlr hcs
      rw [szOf_eq hi] at hB
      have hlen : cs.length = B.size := by rw [hl.1]; simp
      obtain ⟨h5, h6⟩ := hr.new B e cs (by omega) (fun j v hj => by obtain ⟨v', h7, h8⟩ := hl.get hj; exact ⟨v', by simpa using h7, h8⟩)
      have hout : cs.length = n * i.size := by
        have : ∀ (ps : List (Nat × Value)) (c0 out : List Value), fillL (fun i => some (i * szOf P e, szOf P e)) c0 ps = some out → out.length = c0.length := by
          intro ps
          induction ps with
          | nil => intro c0 out h; simp [fillL] at h; rw [h]
          | cons q ps ih =>
            intro c0 out h
            obtain ⟨j, v⟩ := q
            simp only [fillL] at h
            cases hb : (Nat.beq (Value.cellsL v).length (szOf P e) && decide (j * szOf P e + (Value.cellsL v).length ≤ c0.length)) with
            | false => rw [hb] at h; simp at h
            | true =>
              rw [hb] at h
              have := ih _ _ (by simpa using h)
              rw [this]
              simp only [Bool.and_eq_true, decide_eq_true_eq] at hb
              exact over_length hb.2
        rw [this _ _ _ hcs, zerosN_length, b5]
      refine ⟨.value (.slice (some ⟨w.heap.size, 0, none⟩) n n), _, _, _, ?_, .inl rfl, h5, ?_, h6⟩
      · have hrun := run_bSlice (P := P) w t e n i z (ps.map fun x => (x.1, a.eval x.2)) B hu hi hiz b7 (by simpa using hB)
        simp [execOp, ho, hrun]
      · have hput : (μ.put σ.next ⟨w.heap.size, 0, B.size⟩) σ.next = some ⟨w.heap.size, 0, B.size⟩ := by simp [Mp.put]
        have hile : i.size ≠ 0 := by omega
        refine .sl hput (Nat.le_refl _) (.inr rfl) (.inr ?_) ?_
        · rw [szOf_eq hi]; simp only; omega
        · have : n ≤ n * i.size := Nat.le_mul_of_pos_right _ b6
          unfold maxLen; omega


/-! ### append -/
theorem row_inv {σ : St} {a : Option Addr} {n : Nat} {K : List Value → Res} (h : σ.row a n K = some r) :
    ∃ cs, K cs = some r ∧ cs.length = n ∧ ((n = 0 ∧ cs = []) ∨ ∃ q o vs, a = some ⟨q, o, none⟩ ∧ σ.cells q = some vs ∧ o + n ≤ vs.length ∧ cs = (vs.drop o).take n) := by
  unfold St.row at h
  split at h
  · rename_i h0; exact ⟨[], h, by simp [h0], .inl ⟨h0, rfl⟩⟩
  · obtain ⟨q, o, e, h1⟩ := adr_inv h
    obtain ⟨vs, hvs, hn, h2⟩ := lds_inv h1
    exact ⟨_, h2, by simp; omega, .inr ⟨q, o, vs, e, hvs, hn, rfl⟩⟩

/-- The cells of a slice that came, as the real machine takes them. -/
theorem row_rel {W : Base} {μ : Mp} {σ : St} {w : World} (hr : Rel W μ σ w) {a : Option Addr} {n : Nat} {cs : List Value} {a' : Option Addr} {m z c : Nat} (hv : VRel μ (.slice a m z) (.slice a' m c))
    (hc0 : 0 < n → 0 < m)
    (h : (n = 0 ∧ cs = []) ∨ ∃ q o vs, a = some ⟨q, o, none⟩ ∧ σ.cells q = some vs ∧ o + n ≤ vs.length ∧ cs = (vs.drop o).take n) :
    ∃ cs', LRel μ cs cs' ∧ cs'.length = n ∧ (n = 0 ∨ ∃ b o', a' = some ⟨b, o', none⟩ ∧ ∀ j v, cs'[j]? = some v → w.cell? ⟨b, o' + j, none⟩ = some v) := by
  rcases h with ⟨h0, h1⟩ | ⟨q, o, vs, h1, h2, h3, h4⟩
  · exact ⟨[], by rw [h1]; exact .nil μ, by simp [h0], .inl h0⟩
  · subst h1
    by_cases hn : n = 0
    · exact ⟨[], by rw [h4, hn]; simp; exact .nil μ, by simp [hn], .inl hn⟩
    · obtain ⟨p, cs', hp, hl, hlen, hcell⟩ := hr.many h2 h3
      rw [← h4] at hl
      have hm := hc0 (by omega)
      obtain ⟨p', o', c', hp', he, hmc, hoc, _⟩ := hv.sl_inv hm
      rw [hp] at hp'
      cases hp'
      cases he
      rcases hoc with h5 | h5
      · omega
      · subst h5
        exact ⟨cs', hl, hlen, .inr ⟨_, _, rfl, fun j v hj => hcell j v hj⟩⟩

theorem oneCells_mem {l : List Value} : (∀ u ∈ l, u.oneCell' = true) ↔ l.all Value.oneCell' = true := by simp

theorem grow_inv {e : TypeId} {sz by_ : Nat} {a : Option Addr} {n z m : Nat} {news : List Value} {σ : St} {K : Option Addr → Nat → Nat → St → Res} (h : grow e sz by_ a n z m news σ K = some r) :
    (m = 0 ∧ K a n z σ = some r) ∨ (0 < m ∧ (n + m) * by_ ≤ roomTop ∧ n + m ≤ sizeTop ∧ 0 < sz ∧ news.all oneCell = true ∧
      ((a = none ∧ n = 0 ∧ K (some ⟨σ.next, 0, none⟩) m sz (σ.new (.own news e)) = some r) ∨
       ∃ q off vs, a = some ⟨q, off, none⟩ ∧ σ.get q = some (.own vs e) ∧ z = sz ∧ off + n * sz ≤ vs.length ∧
         K (some ⟨σ.next, 0, none⟩) (n + m) sz ((σ.del q).new (.own ((vs.drop off).take (n * sz) ++ news) e)) = some r)) := by
  unfold grow at h
  split at h
  · exact .inl ⟨‹_›, h⟩
  · split at h
    · rename_i hm hc
      refine .inr ⟨by omega, hc.1, hc.2.1, hc.2.2.1, hc.2.2.2, ?_⟩
      split at h
      · split at h
        · exact .inl ⟨rfl, ‹_›, h⟩
        · cases h
      · rename_i q off
        split at h
        · rename_i vs e' hg
          split at h
          · rename_i hcc
            obtain ⟨c1, c2, c3⟩ := hcc
            subst c1
            exact .inr ⟨q, off, vs, rfl, hg, c2, c3, h⟩
          · cases h
        · cases h
      · cases h
    · cases h

/-- Both arms of the real append, for whatever is appended. -/
theorem run_app {w : World} {t u ty e : TypeId} {d : TypeDesc} {i : TypeInfo} {z : Value} (ht : P.underlying t = some (.slice e)) (hu : P.underlying u = some d) (hd : (∃ e2, d = .slice e2) ∨ d = .string)
    (hi : P.info? e = some i) (hz : i.zero = some z) {x : Value} {m : Nat} {news : List Value} (hlen : ∀ w', (Builtin.lenOf x).run P w' = .ok m w')
    (hnews : ∀ w', w'.heap = w.heap → (Builtin.firstCells i.size m x).run P w' = .ok news.toArray w') (hl : news.length = m * i.size) (h1 : ∀ u ∈ news, u.oneCell' = true)
    (base : Option Addr) (n c : Nat) (hnc : n ≤ c) (hb : base = none → c = 0)
    (h63 : n + m ≤ 4611686018427387904) (hby : (n + m) * i.bytes ≤ 140737488355328) :
    (n + m ≤ c → m = 0 → (Builtin.append_ #[t, u] ty #[.slice base n c, x]).run P w = .ok (.slice base n c) w) ∧
    (∀ b o cur, base = some ⟨b, o, none⟩ → n + m ≤ c → w.heap[b]? = some (.cells cur e (0, 0)) → o + n * i.size + news.length ≤ cur.size →
      (Builtin.append_ #[t, u] ty #[.slice base n c, x]).run P w = .ok (.slice base (n + m) c) (w.setRow b (cur.toList.take (o + n * i.size) ++ news ++ cur.toList.drop (o + n * i.size + news.length)).toArray)) ∧
    (∀ olds : List Value, c < n + m → olds.length = n * i.size → (∀ w', w'.heap = w.heap → (Builtin.firstCells i.size n (.slice base n c)).run P w' = .ok olds.toArray w') →
      (Builtin.append_ #[t, u] ty #[.slice base n c, x]).run P w = .ok (.slice (some ⟨w.heap.size, 0, none⟩) (n + m) (grownCap w (n + m) c e))
        (w.drew.alloc (.cells (olds.toArray ++ news.toArray ++ Builtin.zeroCells z.cells (grownCap w (n + m) c e - (n + m))) e))) := by
  refine ⟨?_, ?_, ?_⟩
  · intro hroom hm
    subst hm
    have hn0 : news = [] := List.eq_nil_of_length_eq_zero (by rw [hl]; simp)
    subst hn0
    have := hnews w rfl
    rcases hd with ⟨e2, rfl⟩ | rfl <;> cases base <;> simp [Builtin.append_, run_underlying ht, run_underlying hu, sizeOf, typeInfo, hi, hlen, hnc, this, storeCells]
  · intro b o cur hbase hroom hcur hfit
    subst hbase
    have hst := run_storeCells_at P b (o + n * i.size) e news 0 cur w hcur (by simpa using hfit) h1
    simp only [Nat.add_zero] at hst
    rcases hd with ⟨e2, rfl⟩ | rfl <;> simp [Builtin.append_, run_underlying ht, run_underlying hu, sizeOf, typeInfo, hi, hlen, hroom, hnews w rfl, addr_add, hst]
  · intro olds hg hlo holds
    have hn : ¬ (n + m ≤ c) := by omega
    have h63' : ¬ (9223372036854775807 < ((n : Int) + (m : Int))) := by omega
    have h48' : ¬ (281474976710656 < Builtin.nextslicecap (n + m) c * i.bytes) := by have := growslice_fits (old := c) (by omega) hby; omega
    rcases hd with ⟨e2, rfl⟩ | rfl <;>
    · simp [Builtin.append_, run_underlying ht, run_underlying hu, sizeOf, typeInfo, zeroValue, hi, hz, hlen, hn, h63', h48', Question.forced, hnews w.drew rfl, holds w.drew rfl, newRow, grownCap]
      congr 2
      apply Array.ext'
      simp [List.append_assoc]

/-- append(s, make(..)...) of a nil slice. -/
theorem run_appz {w : World} {t u ty e : TypeId} {k : IntKind} {i : TypeInfo} {z : Value} (ht : P.underlying t = some (.slice e)) (hu : P.underlying u = some (.int k))
    (hi : P.info? e = some i) (hz : i.zero = some z) (h0 : 0 < i.size) (m : Nat) (h1 : 1 ≤ m) (h63 : m ≤ 4611686018427387904) (hby : m * i.bytes ≤ 140737488355328) :
    (Builtin.append_ #[t, u] ty #[.slice none 0 0, .int .i64 m]).run P w = .ok (.slice (some ⟨w.heap.size, 0, none⟩) m (grownCap w (0 + m) 0 e))
        (w.drew.alloc (.cells (Builtin.zeroCells z.cells m ++ Builtin.zeroCells z.cells (grownCap w (0 + m) 0 e - m)) e)) := by
  have hn : ¬ (0 + m ≤ 0) := by omega
  have hm0 : ¬ m = 0 := by omega
  have hs0 : ¬ i.size = 0 := by omega
  have hw : IntKind.wrap .i64 (m : Int) = (m : Int) := by rw [IntKind.wrap_i64]; omega
  have h63' : ¬ (9223372036854775807 < (m : Int)) := by omega
  have hneg : ¬ ((m : Int) < 0) := by omega
  have h48 : ¬ (281474976710656 < (m : Int) * (i.bytes : Int)) := by
    have : ((m * i.bytes : Nat) : Int) ≤ 140737488355328 := by omega
    rw [Int.natCast_mul] at this; omega
  have h48' : ¬ (281474976710656 < Builtin.nextslicecap m 0 * i.bytes) := by have := growslice_fits (need := m) (old := 0) (by omega) hby; omega
  simp [Builtin.append_, run_underlying ht, run_underlying hu, sizeOf, typeInfo, zeroValue, hi, hz, asInt, asIntOf, hw, h63', hneg, h48, h48', hm0, hs0, Question.forced, newRow, grownCap, Builtin.firstCells]
  intro hz0
  exact absurd hz0 (Nat.ne_of_gt (Nat.mul_pos (by omega) h0))

end
end Go.AM
