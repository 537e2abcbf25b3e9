/-
  OPERATIONS THAT ONLY LAY A NEW BLOCK, whatever the store.
-/
import Derived.Test.YtiiophkfecpbfaaDoorAmL
import Derived.Test.YtiiophkfecpbfaaDoorAm10
set_option linter.unusedVariables false
set_option linter.unusedSimpArgs false
set_option linter.unusedSectionVars false
namespace Go.AM
open Go.RowKit
variable [Laid]
variable {P : Program} {o : Oper} {fr : Fr} {r : Value × St}

/-- It lays a new block, and answers with what points to it; the store plays no part. -/
def Lays (P : Program) (o : Oper) (fr : Fr) (val : Nat → Value) (vs : List Value) (e : TypeId) : Prop :=
  ∀ (μ : Mp) (a : Act) (w : World), FrOn μ fr a (slots o) → ∃ cur v', (execOp a.eval o).run P w = .ok (.value v') (w.alloc (.cells cur e)) ∧ vs.length ≤ cur.size ∧
    (∀ (i : Nat) (v : Value), vs[i]? = some v → ∃ v', cur[i]? = some v' ∧ VRel μ v v') ∧ ∀ (μ' : Mp) (n : Nat), μ' n = some ⟨w.heap.size, 0, cur.size⟩ → VRel μ' (val n) v'
theorem Lays.ran {val : Nat → Value} {vs : List Value} {e : TypeId} (h : Lays P o fr val vs e) (σ : St) : Ran P o fr σ (val σ.next) (σ.new (.own vs e)) := by
  intro W μ a w hf hr
  obtain ⟨cur, v', h1, h2, h3, h4⟩ := h μ a w hf
  obtain ⟨h5, h6⟩ := hr.new cur e vs h2 h3
  exact ⟨_, v', _, _, h1, .inl rfl, h5, h4 _ _ (by simp [Mp.put]), h6⟩

theorem lays_makeSlice {x y : Operand} {t : TypeId} {σ : St} {K : Value → St → Res} (ho : o.op = .makeSlice t x y) (hx : okOpnd x = true) (hy : okOpnd y = true)
    (h : opnd fr x (fun a => opnd fr y fun b => aMkSlice P t a b σ K) = some r) : ∃ (val : Nat → Value) (vs : List Value) (e : TypeId), K (val σ.next) (σ.new (.own vs e)) = some r ∧ Lays P o fr val vs e := by
  obtain ⟨vx, h1, hvx⟩ := opnd_inv hx h
  obtain ⟨vy, h2, hvy⟩ := opnd_inv hy h1
  unfold aMkSlice at h2
  split at h2
  · rename_i l c
    obtain ⟨e, hu, h3⟩ := elOf_inv h2
    split at h3
    · rename_i z hz
      obtain ⟨hb, h4⟩ := need_inv h3
      obtain ⟨i, hi, hiz, hp⟩ := zeroOf_inv hz
      have hb' : 0 ≤ l ∧ l ≤ c ∧ c.toNat * bytesOf P e ≤ roomTop ∧ c ≤ (sizeTop : Int) ∧ (Value.cellsL z).length = szOf P e ∧ 0 < szOf P e := by
        simp only [Bool.and_eq_true, decide_eq_true_eq] at hb
        obtain ⟨⟨⟨⟨⟨a1, a2⟩, a3⟩, a4⟩, a5⟩, a6⟩ := hb
        exact ⟨a1, a2, a3, a4, Nat.eq_of_beq_eq_true a5, a6⟩
      obtain ⟨b1, b2, b3, b4, b5, b6⟩ := hb'
      refine ⟨fun n => .slice (some ⟨n, 0, none⟩) l.toNat (szOf P e), _, e, h4, fun μ a w hf => ?_⟩
      have hgx := (hvx μ a (slots o) (slots2a (by rw [ho]; rfl)) hf).int_inv
      have hgy := (hvy μ a (slots o) (slots2b (by rw [ho]; rfl)) hf).int_inv
      rw [szOf_eq hi] at b5 b6
      rw [bytesOf_eq hi] at b3
      unfold sizeTop at b4
      unfold roomTop at b3
      have hbytes : (i.bytes : Int) * c ≤ 281474976710656 := by
        have h5 : ((c.toNat * i.bytes : Nat) : Int) ≤ 140737488355328 := by omega
        have h6 : ((c.toNat : Nat) : Int) = c := by omega
        rw [Int.natCast_mul, h6, Int.mul_comm] at h5
        omega
      have hrun := run_make (P := P) w t e i z hu hi hiz .i64 .i64 l c b1 b2 hbytes (by omega)
      obtain ⟨g1, g2⟩ := zeros_rel (μ := μ) (n := l.toNat) (m := c.toNat * i.size) hp b5 b6 (Nat.mul_le_mul_right _ (by omega))
      refine ⟨madeCells z.cells (c.toNat * i.size), .slice (some ⟨w.heap.size, 0, none⟩) l.toNat c.toNat, by simp [execOp, ho, hgx, hgy, hrun], g1, g2, fun μ' n hput => ?_⟩
      refine .sl hput (by omega) (.inr rfl) (.inr ?_) (by unfold maxLen; omega)
      rw [size_madeCells, szOf_eq hi]
      show 0 + c.toNat * i.size ≤ c.toNat * i.size
      omega
    · cases h3
  · cases h2


theorem lays_buildSlice {t : TypeId} {n : Nat} {ps : Array (Nat × Operand)} {σ : St} {K : Value → St → Res} (ho : o.op = .buildSlice t n ps) (hx : (ps.toList.map (·.2)).all okOpnd = true)
    (h : opndPs fr ps.toList (fun l => aBuildSlice P t n l σ K) = some r) : ∃ (val : Nat → Value) (vs : List Value) (e : TypeId), K (val σ.next) (σ.new (.own vs e)) = some r ∧ Lays P o fr val vs e := by
  obtain ⟨vs, h1, hvs⟩ := opndPs_inv hx h
  unfold aBuildSlice at h1
  obtain ⟨e, hu, h2⟩ := elOf_inv h1
  obtain ⟨hb, h3⟩ := need_inv h2
  split at h3
  · cases h3
  · rename_i z hz
    obtain ⟨hb2, h40⟩ := need_inv h3
    obtain ⟨cs, hcs0, h4⟩ := fillK_inv h40
    have hcs : fillL (fun i => some (i * szOf P e, szOf P e)) (zerosN (Value.cellsL z) n) vs = some cs := hcs0
    · obtain ⟨i, hi, hiz, hp⟩ := zeroOf_inv hz
      have hb' : (Value.cellsL z).length = szOf P e ∧ 0 < szOf P e := by
        simp only [Bool.and_eq_true, decide_eq_true_eq] at hb2
        exact ⟨Nat.eq_of_beq_eq_true hb2.1, hb2.2⟩
      obtain ⟨b5, b6⟩ := hb'
      have b7 : n * szOf P e ≤ 16777216 := of_decide_eq_true hb
      refine ⟨fun m => .slice (some ⟨m, 0, none⟩) n (szOf P e), _, e, h4, fun μ a w hf => ?_⟩
      have hpr := hvs μ a (slots o) (by intro t ht; simp only [slots, ho, Op.operands]; simpa using ht) hf
      rw [szOf_eq hi] at b5 b6 b7
      obtain ⟨g1, g2⟩ := zeros_rel (μ := μ) (n := n) (m := n * i.size) hp b5 b6 (Nat.le_refl _)
      have hlr : LRel μ (zerosN (Value.cellsL z) n) (madeCells z.cells (n * i.size)).toList := .of (by rw [zerosN_length, b5]; simp [size_madeCells]) (fun j v hj => by obtain ⟨v', h5, h6⟩ := g2 j v hj; exact ⟨v', by simpa using h5, h6⟩)
      obtain ⟨B, hB, hl⟩ := fill_rel hpr hlr hcs
      rw [szOf_eq hi] at hB
      have hlen : cs.length = B.size := by rw [hl.1]; simp
      have hout : cs.length = n * i.size := by
        have : ∀ (ps : List (Nat × Value)) (c0 out : List Value), fillL (fun i => some (i * szOf P e, szOf P e)) c0 ps = some out → out.length = c0.length := by
          intro ps
          induction ps with
          | nil => intro c0 out h; simp [fillL] at h; rw [h]
          | cons q ps ih =>
            intro c0 out h
            obtain ⟨j, v⟩ := q
            simp only [fillL] at h
            cases hb : (Nat.beq (Value.cellsL v).length (szOf P e) && decide (j * szOf P e + (Value.cellsL v).length ≤ c0.length)) with
            | false => rw [hb] at h; simp at h
            | true =>
              rw [hb] at h
              have := ih _ _ (by simpa using h)
              rw [this]
              simp only [Bool.and_eq_true, decide_eq_true_eq] at hb
              exact over_length hb.2
        rw [this _ _ _ hcs, zerosN_length, b5]
      have hrun := run_bSlice (P := P) w t e n i z (ps.map fun x => (x.1, a.eval x.2)) B hu hi hiz b7 (by simpa using hB)
      refine ⟨B, .slice (some ⟨w.heap.size, 0, none⟩) n n, by simp [execOp, ho, hrun], by omega, fun j v hj => by obtain ⟨v', h7, h8⟩ := hl.get hj; exact ⟨v', by simpa using h7, h8⟩, fun μ' m hput => ?_⟩
      have hile : i.size ≠ 0 := by omega
      refine .sl hput (Nat.le_refl _) (.inr rfl) (.inr ?_) ?_
      · rw [szOf_eq hi]; simp only; omega
      · have : n ≤ n * i.size := Nat.le_mul_of_pos_right _ b6
        unfold maxLen; omega

theorem lays_alloc {t : TypeId} {σ : St} {K : Value → St → Res} (ho : o.op = .alloc t)
    (h : (match zeroOf P t with | some z => K (.pointer (some ⟨σ.next, 0, none⟩)) (σ.new (.own (Value.cellsL z) t)) | none => none) = some r) :
    ∃ (val : Nat → Value) (vs : List Value) (e : TypeId), K (val σ.next) (σ.new (.own vs e)) = some r ∧ Lays P o fr val vs e := by
  split at h
  · rename_i z hz
    obtain ⟨i, hi, hiz, hp⟩ := zeroOf_inv hz
    refine ⟨fun n => .pointer (some ⟨n, 0, none⟩), _, t, h, fun μ a w hf => ?_⟩
    have hcl := (plain_rel μ z hp).cells
    exact ⟨z.cells, .pointer (some ⟨w.heap.size, 0, none⟩), by simp [execOp, ho, Instr.alloc, zeroValue, typeInfo, hi, hiz, newVar, newRow], by rw [hcl.1]; simp, fun j v hj => by obtain ⟨v', h3, h4⟩ := hcl.get hj; exact ⟨v', by simpa using h3, h4⟩, fun μ' n hput => .ptr hput⟩
  · cases h
theorem lays_box {x : Operand} {t : TypeId} {σ : St} {K : Value → St → Res} (ho : o.op = .box t x) (hx : okOpnd x = true)
    (h : opnd fr x (fun v => K (.pointer (some ⟨σ.next, 0, none⟩)) (σ.new (.own (Value.cellsL v) t))) = some r) : ∃ (val : Nat → Value) (vs : List Value) (e : TypeId), K (val σ.next) (σ.new (.own vs e)) = some r ∧ Lays P o fr val vs e := by
  obtain ⟨v, h1, hv⟩ := opnd_inv hx h
  refine ⟨fun n => .pointer (some ⟨n, 0, none⟩), _, t, h1, fun μ a w hf => ?_⟩
  have hcl := (hv μ a (slots o) (slots1 (by rw [ho]; rfl)) hf).cells
  exact ⟨(a.eval x).cells, .pointer (some ⟨w.heap.size, 0, none⟩), by simp [execOp, ho, Instr.box, newVar, newRow], by rw [hcl.1]; simp, fun j u hj => by obtain ⟨v', h3, h4⟩ := hcl.get hj; exact ⟨v', by simpa using h3, h4⟩, fun μ' n hput => .ptr hput⟩

/-- Operations of that kind. -/
def loose (o : Oper) : Bool :=
  match o.op with
  | .alloc _ => true
  | .box .. => true
  | .makeSlice .. => true
  | .buildSlice .. => true
  | _ => false
theorem loose_inv {call : FuncId → List Value → St → Res} {σ : St} {K : Value → St → Res} (hok : okOp P o = true) (hl : loose o = true) (h : aOp P call o fr σ K = some r) :
    ∃ (val : Nat → Value) (vs : List Value) (e : TypeId), K (val σ.next) (σ.new (.own vs e)) = some r ∧ Lays P o fr val vs e := by
  unfold okOp at hok
  rw [Bool.and_eq_true] at hok
  obtain ⟨hop, hok⟩ := hok
  unfold okOper at hop
  unfold loose at hl
  unfold aOp at h
  split at hl
  · rename_i t ho
    simp only [ho] at h hop
    exact lays_alloc ho h
  · rename_i t x ho
    simp only [ho] at h hop
    simp only [Op.operands, List.all_cons, List.all_nil, Bool.and_true] at hop
    exact lays_box ho hop h
  · rename_i t x y ho
    simp only [ho] at h hop
    simp only [Op.operands, List.all_cons, List.all_nil, Bool.and_true, Bool.and_eq_true] at hop
    exact lays_makeSlice ho hop.1 hop.2 h
  · rename_i t n ps ho
    simp only [ho] at h hop
    exact lays_buildSlice ho (by simpa [Op.operands] using hop) h
  · cases hl
end Go.AM
