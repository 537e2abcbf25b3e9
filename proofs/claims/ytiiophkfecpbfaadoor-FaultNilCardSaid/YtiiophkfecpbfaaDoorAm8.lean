/-
  THE ABSTRACT MACHINE IS SOUND, OPERATION BY OPERATION (seventh part): append, copy, lengths, conversions, maps, calls.
-/
import Derived.Test.YtiiophkfecpbfaaDoorAm7
set_option linter.unusedVariables false
set_option linter.unusedSimpArgs false
set_option linter.unusedSectionVars false
namespace Go.AM
open Go.RowKit
variable [Laid]

section
variable {P : Program} {o : Oper} {fr : Fr} {r : Value × St}

theorem mul_fit (s : Nat) {m c : Nat} (h : m ≤ c) : m * s + (c - m) * s = c * s := by rw [← Nat.add_mul]; congr 1; omega

theorem grow_sound {t u ty e : TypeId} {d : TypeDesc} {i : TypeInfo} {zv : Value} (ht : P.underlying t = some (.slice e)) (hu : P.underlying u = some d) (hd : (∃ e2, d = .slice e2) ∨ d = .string)
    (hi : P.info? e = some i) (hz : i.zero = some zv) (hzs : zv.cells.size = i.size) {a : Option Addr} {n z m : Nat} {news : List Value} {σ : St} {K : Option Addr → Nat → Nat → St → Res}
    (h : grow e i.size i.bytes a n z m news σ K = some r) :
    ∃ a1 n1 z1 σ1, K a1 n1 z1 σ1 = some r ∧ ∀ (W : Base) (μ : Mp) (w : World) (sv x : Value) (news' : List Value), Rel W μ σ w → VRel μ (.slice a n z) sv → LRel μ news news' → news.length = m * i.size →
      (∀ w', (Builtin.lenOf x).run P w' = .ok m w') → (∀ w', w'.heap = w.heap → (Builtin.firstCells i.size m x).run P w' = .ok news'.toArray w') →
      ∃ v' w' μ', (Builtin.append_ #[t, u] ty #[sv, x]).run P w = .ok v' w' ∧ μ.le μ' ∧ VRel μ' (.slice a1 n1 z1) v' ∧ Rel W μ' σ1 w' := by
  rcases grow_inv h with ⟨hm, h1⟩ | ⟨hm, hby, htop, hsz, hone, h1⟩
  · refine ⟨a, n, z, σ, h1, fun W μ w sv x news' hr hsv hnew hnl hlen hfc => ?_⟩
    subst hm
    have hnl' : news'.length = 0 * i.size := by rw [← hnew.1, hnl]
    have h0 : news' = [] := List.eq_nil_of_length_eq_zero (by simpa using hnl')
    subst h0
    rcases hsv.slice_inv with ⟨e1, e2, e3, e4⟩ | ⟨q, off, p, o', c, sp, e1, hp, e4, hn, hc, hzz, hmx, hsp⟩
    · subst e4; subst e2
      have := (run_app (P := P) (w := w) (ty := ty) ht hu hd hi hz (x := x) (m := 0) (news := []) hlen hfc (by simp) (by simp) none 0 0 (Nat.le_refl _) (fun _ => rfl) (by omega) (by simp)).1 (by simp) rfl
      exact ⟨_, w, μ, this, Mp.le.refl μ, hsv, hr⟩
    · subst e4
      by_cases hbig : n + 0 ≤ 4611686018427387904 ∧ (n + 0) * i.bytes ≤ 140737488355328
      · have := (run_app (P := P) (w := w) (ty := ty) ht hu hd hi hz (x := x) (m := 0) (news := []) hlen hfc (by simp) (by simp) (some ⟨p.b, o', sp⟩) n c hn (fun h => by cases h) hbig.1 hbig.2).1 (by omega) rfl
        exact ⟨_, w, μ, this, Mp.le.refl μ, hsv, hr⟩
      · -- the bounds play no part where nothing is appended
        have : (Builtin.append_ #[t, u] ty #[.slice (some ⟨p.b, o', sp⟩) n c, x]).run P w = .ok (.slice (some ⟨p.b, o', sp⟩) n c) w := by
          have hf := hfc w rfl
          rcases hd with ⟨e2, rfl⟩ | rfl <;> simp [Builtin.append_, run_underlying ht, run_underlying hu, sizeOf, typeInfo, hi, hlen, hn, hf, storeCells]
        exact ⟨_, w, μ, this, Mp.le.refl μ, hsv, hr⟩
  · have hby' : (n + m) * i.bytes ≤ 140737488355328 := hby
    have htop' : n + m ≤ 4611686018427387904 := htop
    rcases h1 with ⟨e1, e2, h2⟩ | ⟨q, off, vs, e1, hg, e2, hfit, h2⟩
    · subst e1; subst e2
      refine ⟨_, _, _, _, h2, fun W μ w sv x news' hr hsv hnew hnl hlen hfc => ?_⟩
      have hnl' : news'.length = m * i.size := by rw [← hnew.1, hnl]
      rcases hsv.slice_inv with ⟨_, _, e3, e4⟩ | ⟨q, off, p, o', c, sp, e1, _⟩
      · subst e4
        have hrun := (run_app (P := P) (w := w) (ty := ty) ht hu hd hi hz (x := x) (m := m) (news := news') hlen hfc hnl' (hnew.oneCells hone) none 0 0 (Nat.le_refl _) (fun _ => rfl) htop' hby').2.2 [] (by omega) (by simp) (fun w' _ => by simp [Builtin.firstCells])
        have hcap := grownCap_ge w (0 + m) 0 e
        have hcm := grownCap_le_maxLen w (0 + m) 0 e (by unfold maxLen; omega)
        have hrd := hr.drew
        obtain ⟨h3, h4⟩ := hrd.new ([].toArray ++ news'.toArray ++ Builtin.zeroCells zv.cells (grownCap w (0 + m) 0 e - (0 + m))) e news (by rw [hnew.1]; simp) (fun j v hj => by
          obtain ⟨v', h5, h6⟩ := hnew.get hj
          refine ⟨v', ?_, h6⟩
          have hlt : j < news'.length := (List.getElem?_eq_some_iff.1 h5).1
          rw [Array.getElem?_append_left (by simp; exact hlt)]
          simpa using h5)
        refine ⟨_, _, _, hrun, h3, ?_, h4⟩
        have hput : ∀ nn, (μ.put σ.next ⟨w.drew.heap.size, 0, nn⟩) σ.next = some ⟨w.drew.heap.size, 0, nn⟩ := fun nn => by simp [Mp.put]
        rw [show (0 : Nat) + m = m from by omega] at *
        refine .sl (hput _) (by omega) (.inr rfl) (.inr ?_) hcm
        simp only [Array.size_append, List.size_toArray, size_zeroCells, hzs, hnl']
        have := mul_fit i.size hcap
        simp only [List.length_nil]
        omega
      · cases e1
    · subst e1; subst e2
      refine ⟨_, _, _, _, h2, fun W μ w sv x news' hr hsv hnew hnl hlen hfc => ?_⟩
      have hnl' : news'.length = m * i.size := by rw [← hnew.1, hnl]
      obtain ⟨p, o', c, sp, hp, e4, hn, hc, hzz, hmx, hsp⟩ := hsv.slw_inv
      subst e4
      have hcN : o' + c * i.size ≤ p.n := by rcases hzz with h | h; omega; exact h
      obtain ⟨p', cur, hp', hWb, hcur, hcs, hsl, hcv⟩ := hr.own q vs e hg
      rw [hp] at hp'
      cases hp'
      have happ := run_app (P := P) (w := w) (ty := ty) ht hu hd hi hz (x := x) (m := m) (news := news') hlen hfc hnl' (hnew.oneCells hone) (some ⟨p.b, o', sp⟩) n c hn (fun h => by cases h) htop' hby'
      by_cases hroom : n + m ≤ c
      · have hsp0 : sp = none := by rcases hsp with h | h; exact h; omega
        subst hsp0
        have ho' : o' = p.s + off := by rcases hc with h | h; omega; exact h
        have e5 : (n + m) * i.size ≤ c * i.size := Nat.mul_le_mul_right _ hroom
        rw [Nat.add_mul] at e5
        have hfit2 : o' + n * i.size + news'.length ≤ cur.size := by omega
        have hrun := happ.2.1 p.b o' cur rfl hroom hcur hfit2
        obtain ⟨h3, h4⟩ := hr.move (e := e) hg rfl hp hWb hcur ((vs.drop off).take (n * i.size) ++ news) (cur.toList.take (o' + n * i.size) ++ news' ++ cur.toList.drop (o' + n * i.size + news'.length)).toArray o'
          (by simp; omega) (by simp; omega) (fun j v hj => by
            simp only [List.getElem?_toArray]
            have e6 : ((vs.drop off).take (n * i.size)).length = n * i.size := by simp; omega
            by_cases hjn : j < n * i.size
            · rw [List.getElem?_append_left (by omega), List.getElem?_take, if_pos hjn, List.getElem?_drop] at hj
              obtain ⟨v', h5, h6⟩ := hcv _ v hj
              refine ⟨v', ?_, h6⟩
              rw [List.append_assoc, List.getElem?_append_left (by simp; omega), List.getElem?_take, if_pos (by omega)]
              rw [ho', Nat.add_assoc]
              simpa using h5
            · rw [List.getElem?_append_right (by omega), e6] at hj
              obtain ⟨v', h5, h6⟩ := hnew.get hj
              refine ⟨v', ?_, h6⟩
              have e7 : (cur.toList.take (o' + n * i.size)).length = o' + n * i.size := by simp; omega
              have hlt : j - n * i.size < news'.length := (List.getElem?_eq_some_iff.1 h5).1
              rw [List.append_assoc, List.getElem?_append_right (by omega), e7, List.getElem?_append_left (by omega), show o' + j - (o' + n * i.size) = j - n * i.size by omega]
              exact h5)
        refine ⟨_, _, _, hrun, h3, ?_, h4⟩
        have hput : (μ.put σ.next ⟨p.b, o', p.n⟩) σ.next = some ⟨p.b, o', p.n⟩ := by simp [Mp.put]
        exact VRel.sl (p := ⟨p.b, o', p.n⟩) hput hroom (.inr rfl) (.inr hcN) hmx
      · -- a new block
        have hcell : ∀ j v, ((vs.drop off).take (n * i.size))[j]? = some v → ∃ v', w.cell? ⟨p.b, o' + j, none⟩ = some v' ∧ VRel μ v v' := by
          intro j v hj
          have hjn : j < n * i.size := by
            have := (List.getElem?_eq_some_iff.1 hj).1
            simp at this; omega
          have hn0 : n ≠ 0 := by intro h0; subst h0; simp at hjn
          have ho' : o' = p.s + off := by rcases hc with h | h; omega; exact h
          rw [List.getElem?_take, if_pos hjn, List.getElem?_drop] at hj
          obtain ⟨v', h5, h6⟩ := hcv _ v hj
          refine ⟨v', ?_, h6⟩
          rw [ho', Nat.add_assoc]
          simp only [World.cell?, hcur]
          simpa using h5
        have e6 : ((vs.drop off).take (n * i.size)).length = n * i.size := by simp; omega
        let olds' : List Value := (List.range (n * i.size)).map fun j => (w.cell? ⟨p.b, o' + j, none⟩).getD undef
        have holen : olds'.length = n * i.size := by simp [olds']
        have hold : ∀ j v, olds'[j]? = some v → w.cell? ⟨p.b, o' + j, none⟩ = some v := by
          intro j v hj
          have hjn : j < n * i.size := by have := (List.getElem?_eq_some_iff.1 hj).1; omega
          simp only [olds', List.getElem?_map, List.getElem?_range hjn, Option.map_some, Option.some.injEq] at hj
          obtain ⟨v', h5, _⟩ := hcell j _ (List.getElem?_eq_getElem (by omega))
          rw [h5] at hj ⊢
          simpa using hj
        have hlr : LRel μ ((vs.drop off).take (n * i.size)) olds' := .of (by omega) (fun j v hj => by
          obtain ⟨v', h5, h6⟩ := hcell j v hj
          have hjn : j < n * i.size := by have := (List.getElem?_eq_some_iff.1 hj).1; omega
          exact ⟨v', by simp only [olds', List.getElem?_map, List.getElem?_range hjn, Option.map_some, h5, Option.getD_some], h6⟩)
        have hrun := happ.2.2 olds' (by omega) holen (fun w' hw' => by
          rcases hsp with rfl | hc0
          · exact run_firstCells_some (P := P) w' i.size n ⟨p.b, o', none⟩ n c olds' holen (fun j v hj => by rw [addr_add]; have := hold j v hj; simp only [World.cell?, hw'] at this ⊢; exact this)
          · have hn0 : n = 0 := by omega
            have ho0 : olds' = [] := List.eq_nil_of_length_eq_zero (by rw [holen, hn0, Nat.zero_mul])
            rw [ho0, hn0]
            simp [Builtin.firstCells, loadCells, loadCellsFrom])
        have hcap := grownCap_ge w (n + m) c e
        have hcm := grownCap_le_maxLen w (n + m) c e (by unfold maxLen; omega)
        have hrd := hr.drew.del q
        have hall := hlr.append hnew
        obtain ⟨h3, h4⟩ := hrd.new (olds'.toArray ++ news'.toArray ++ Builtin.zeroCells zv.cells (grownCap w (n + m) c e - (n + m))) e ((vs.drop off).take (n * i.size) ++ news) (by rw [hall.1]; simp) (fun j v hj => by
          obtain ⟨v', h5, h6⟩ := hall.get hj
          refine ⟨v', ?_, h6⟩
          have hlt : j < (olds' ++ news').length := (List.getElem?_eq_some_iff.1 h5).1
          rw [Array.getElem?_append_left (by simpa using hlt)]
          simpa using h5)
        refine ⟨_, _, _, hrun, h3, ?_, h4⟩
        have hput : ∀ nn, (μ.put (σ.del q).next ⟨w.drew.heap.size, 0, nn⟩) σ.next = some ⟨w.drew.heap.size, 0, nn⟩ := fun nn => by simp [Mp.put, St.del]
        refine .sl (hput _) (by omega) (.inr rfl) (.inr ?_) hcm
        simp only [Array.size_append, List.size_toArray, size_zeroCells, hzs, hnl', holen]
        have e8 := mul_fit i.size hcap
        rw [Nat.add_mul] at e8
        omega

/-- The real machine's way to take the cells of what is appended. -/
theorem firstCells_slice {w' : World} {size n : Nat} {b o' c : Nat} {cs' : List Value} (hl : cs'.length = n * size) (h : ∀ j v, cs'[j]? = some v → w'.cell? ⟨b, o' + j, none⟩ = some v) :
    (Builtin.firstCells size n (.slice (some ⟨b, o', none⟩) n c)).run P w' = .ok cs'.toArray w' :=
  run_firstCells_some (P := P) w' size n ⟨b, o', none⟩ n c cs' hl (fun j v hj => by rw [addr_add]; exact h j v hj)

theorem byteCells_length (s : ByteArray) : (byteCells s).length = s.size := by unfold byteCells; rw [List.length_map, Array.length_toList]; rfl
theorem byteCells_one (s : ByteArray) : (byteCells s).all oneCell = true := by
  unfold byteCells
  rw [List.all_eq_true]
  intro x hx
  obtain ⟨b, _, rfl⟩ := List.mem_map.1 hx
  rfl
theorem byteCells_rel (μ : Mp) (s : ByteArray) : LRel μ (byteCells s) (byteCells s) := ⟨rfl, fun i x y hx hy => by
  rw [hx] at hy; cases hy
  simp only [byteCells, List.getElem?_map, Option.map_eq_some_iff] at hx
  obtain ⟨b, _, rfl⟩ := hx
  exact .int _ _⟩
theorem firstCells_string (w' : World) (s : ByteArray) (size : Nat) : (Builtin.firstCells size s.size (.string s)).run P w' = .ok (byteCells s).toArray w' := by
  have hx : s.extract 0 s.size = s := by simp
  simp only [Builtin.firstCells, Sem.run_pure, hx, byteCells]
  congr 1
  apply Array.ext'
  simp


/-! ### Calls of built-in functions -/
theorem slotsC {c : Call} (ho : o.op = .call c) : ∀ t ∈ c.args.toList.flatMap opT, t ∈ slots o := by
  intro t ht
  simp only [slots, ho, Op.operands, Call.operands]
  cases c.callee <;> simp only [Array.toList_append, List.flatMap_append, List.mem_append] <;> exact .inr ht

theorem exec_builtin {c : Call} {b : Builtin} (ho : o.op = .call c) (hc : c.callee = .builtin b) (ρ : Operand → Value) (w : World) (n : Next) (w' : World)
    (h : (builtin b c.argTypes o.type (c.args.map fun | .const _ => true | _ => false) (c.args.map ρ)).run P w = .ok n w') : (execOp ρ o).run P w = .ok n w' := by
  simp [execOp, ho, resolve, hc, invoke]
  exact h

theorem op_len {c : Call} {σ : St} {K : Value → St → Res} (ho : o.op = .call c) (hc : c.callee = .builtin .len) (hx : c.args.toList.all okOpnd = true)
    (h : opnds fr c.args.toList (fun vs => aLen P c.argTypes.toList vs fun v => K v σ) = some r) : ∃ v, K v σ = some r ∧ Reckons P o fr v := by
  obtain ⟨vs, h1, hv⟩ := opnds_inv hx h
  unfold aLen at h1
  split at h1
  · rename_i t x hts
    have hargs : c.argTypes = #[t] := by rw [← Array.toArray_toList (xs := c.argTypes), hts]
    split at h1
    · rename_i s hu
      refine ⟨_, h1, fun μ a w hf => ?_⟩
      have hl := hv μ a (slots o) (slotsC ho) hf
      obtain ⟨y, m, e1, e2, e3⟩ := hl.inv
      have e4 := e3.inv_nil
      subst e4
      have hmap : c.args.map a.eval = #[y] := by rw [← Array.toArray_toList (xs := c.args.map a.eval)]; simp [e1]
      refine ⟨_, exec_builtin ho hc a.eval w _ w ?_, .int .i64 _⟩
      rw [hmap, hargs, e2.string_inv]
      simp [builtin, run_len_string (P := P) w t o.type s hu, goInt]
    · rename_i e ad n z hu
      refine ⟨_, h1, fun μ a w hf => ?_⟩
      have hl := hv μ a (slots o) (slotsC ho) hf
      obtain ⟨y, m, e1, e2, e3⟩ := hl.inv
      have e4 := e3.inv_nil
      subst e4
      have hmap : c.args.map a.eval = #[y] := by rw [← Array.toArray_toList (xs := c.args.map a.eval)]; simp [e1]
      refine ⟨_, exec_builtin ho hc a.eval w _ w ?_, .int .i64 _⟩
      rw [hmap, hargs]
      rcases e2.slice_inv with ⟨_, e5, _, e6⟩ | ⟨_, _, _, _, _, _, _, _, e6, _⟩
      · subst e5; rw [e6]; simp [builtin, Builtin.len_, run_underlying hu, goInt]
      · rw [e6]; simp [builtin, Builtin.len_, run_underlying hu, goInt]
    · rename_i n e hu
      refine ⟨_, h1, fun μ a w hf => ?_⟩
      have hl := hv μ a (slots o) (slotsC ho) hf
      obtain ⟨y, m, e1, e2, e3⟩ := hl.inv
      have e4 := e3.inv_nil
      subst e4
      have hmap : c.args.map a.eval = #[y] := by rw [← Array.toArray_toList (xs := c.args.map a.eval)]; simp [e1]
      refine ⟨_, exec_builtin ho hc a.eval w _ w ?_, .int .i64 _⟩
      rw [hmap, hargs]
      simp [builtin, Builtin.len_, run_underlying (by assumption : P.underlying t = some (.array _ _)), goInt]
    · cases h1
  · cases h1

theorem op_cap {c : Call} {σ : St} {K : Value → St → Res} (ho : o.op = .call c) (hc : c.callee = .builtin .cap) (hx : c.args.toList.all okOpnd = true)
    (h : opnds fr c.args.toList (fun vs => aCap P c.argTypes.toList vs fun v => K v σ) = some r) : ∃ v, K v σ = some r ∧ Reckons P o fr v := by
  obtain ⟨vs, h1, hv⟩ := opnds_inv hx h
  unfold aCap at h1
  split at h1
  · rename_i t x hts
    have hargs : c.argTypes = #[t] := by rw [← Array.toArray_toList (xs := c.argTypes), hts]
    split at h1
    · rename_i e hu
      obtain ⟨ad, n, z, e1, h2⟩ := asSl_inv h1
      subst e1
      obtain ⟨hn, h3⟩ := need_inv h2
      refine ⟨_, h3, fun μ a w hf => ?_⟩
      have hl := hv μ a (slots o) (slotsC ho) hf
      obtain ⟨y, m, e1, e2, e3⟩ := hl.inv
      have e4 := e3.inv_nil
      subst e4
      have hmap : c.args.map a.eval = #[y] := by rw [← Array.toArray_toList (xs := c.args.map a.eval)]; simp [e1]
      refine ⟨_, exec_builtin ho hc a.eval w _ w ?_, .int .i64 _⟩
      rw [hmap, hargs]
      rcases e2.slice_inv with ⟨_, _, _, e6⟩ | ⟨_, _, _, _, _, _, e5, _⟩
      · rw [e6]; simp [builtin, Builtin.cap_, run_underlying hu, goInt]
      · rw [e5] at hn; cases hn
    · cases h1
  · cases h1

theorem run_min2 (w : World) (k k2 : IntKind) (x y : Int) : (Builtin.min2 (.int k x) (.int k2 y)).run P w = .ok (.int k (mn x y)) w := by simp [Builtin.min2, mn]

theorem op_maxmin {c : Call} {σ : St} {K : Value → St → Res} {b : Builtin} {f : Int → Int → Int} (hb : (b = .max ∧ f = mx) ∨ (b = .min ∧ f = mn)) (ho : o.op = .call c) (hc : c.callee = .builtin b) (hx : c.args.toList.all okOpnd = true)
    (h : opnds fr c.args.toList (fun vs => aMax f vs fun v => K v σ) = some r) : ∃ v, K v σ = some r ∧ Reckons P o fr v := by
  obtain ⟨vs, h1, hv⟩ := opnds_inv hx h
  unfold aMax at h1
  split at h1
  · rename_i k x k2 y
    refine ⟨_, h1, fun μ a w hf => ⟨_, exec_builtin ho hc a.eval w _ w ?_, .int k _⟩⟩
    have hl := hv μ a (slots o) (slotsC ho) hf
    obtain ⟨u, m, e1, e2, e3⟩ := hl.inv
    subst_vars
    obtain ⟨u2, m2, e4, e5, e6⟩ := e3.inv
    have e7 := e6.inv_nil
    subst e7; subst e4
    have hmap : c.args.map a.eval = #[u, u2] := by rw [← Array.toArray_toList (xs := c.args.map a.eval)]; simp [e1]
    rw [hmap, e2.int_inv, e5.int_inv]
    rcases hb with ⟨rfl, rfl⟩ | ⟨rfl, rfl⟩
    · simp [builtin, Builtin.max_, Builtin.max2, mx]
    · simp [builtin, Builtin.min_, Builtin.min2, mn]
  · rename_i k x k2 y k3 z
    refine ⟨_, h1, fun μ a w hf => ⟨_, exec_builtin ho hc a.eval w _ w ?_, .int k _⟩⟩
    have hl := hv μ a (slots o) (slotsC ho) hf
    obtain ⟨u, m, e1, e2, e3⟩ := hl.inv
    obtain ⟨u2, m2, e4, e5, e6⟩ := e3.inv
    obtain ⟨u3, m3, e7, e8, e9⟩ := e6.inv
    have e10 := e9.inv_nil
    subst e10; subst e7; subst e4
    have hmap : c.args.map a.eval = #[u, u2, u3] := by rw [← Array.toArray_toList (xs := c.args.map a.eval)]; simp [e1]
    rw [hmap, e2.int_inv, e5.int_inv, e8.int_inv]
    rcases hb with ⟨rfl, rfl⟩ | ⟨rfl, rfl⟩
    · simp [builtin, Builtin.max_, Builtin.max2, mx]
    · simp [builtin, Builtin.min_, run_min2]
  · cases h1

theorem op_append {c : Call} {σ : St} {K : Value → St → Res} (ho : o.op = .call c) (hc : c.callee = .builtin .append) (hx : c.args.toList.all okOpnd = true)
    (h : opnds fr c.args.toList (fun vs => aAppend P c.argTypes.toList vs σ K) = some r) : ∃ v σ', K v σ' = some r ∧ Ran P o fr σ v σ' := by
  obtain ⟨vs, h1, hv⟩ := opnds_inv hx h
  unfold aAppend at h1
  split at h1
  · rename_i t u s x hts
    have hargs : c.argTypes = #[t, u] := by rw [← Array.toArray_toList (xs := c.argTypes), hts]
    obtain ⟨ad, n, z, e1, h2⟩ := asSl_inv h1
    subst e1
    obtain ⟨e, hu, h3⟩ := elOf_inv h2
    split at h3
    · rename_i zv hz
      obtain ⟨hzl, h4⟩ := need_inv h3
      obtain ⟨i, hi, hiz, hpl⟩ := zeroOf_inv hz
      have hzs : zv.cells.size = i.size := by
        have h5 := Nat.eq_of_beq_eq_true hzl
        have h6 := (plain_rel (fun _ => none) zv hpl).cells.1
        rw [szOf_eq hi] at h5
        simp at h6; omega
      have hmap2 : ∀ (μ : Mp) (a : Act), FrOn μ fr a (slots o) → ∃ sv xv, c.args.map a.eval = #[sv, xv] ∧ VRel μ (.slice ad n z) sv ∧ VRel μ x xv := by
        intro μ a hf
        have hl := hv μ a (slots o) (slotsC ho) hf
        obtain ⟨y, m, e1, e2, e3⟩ := hl.inv
        obtain ⟨y2, m2, e4, e5, e6⟩ := e3.inv
        have e7 := e6.inv_nil
        subst e7; subst e4
        exact ⟨y, y2, by rw [← Array.toArray_toList (xs := c.args.map a.eval)]; simp [e1], e2, e5⟩
      split at h4
      · rename_i e2 hu2
        obtain ⟨a2, m, z2, e3, h5⟩ := asSl_inv h4
        subst e3
        rw [szOf_eq hi, bytesOf_eq hi] at h5
        obtain ⟨news, h6, hnl, hrow⟩ := row_inv h5
        obtain ⟨a1, n1, z1, σ1, h7, hsound⟩ := grow_sound (ty := o.type) hu hu2 (.inl ⟨e2, rfl⟩) hi hiz hzs h6
        refine ⟨_, _, h7, fun W μ a w hf hr => ?_⟩
        obtain ⟨sv, xv, hmap, hsv, hxv⟩ := hmap2 μ a hf
        have hxs : ∃ a2' c2, xv = .slice a2' m c2 := by
          rcases hxv.slice_inv with ⟨_, e5, _, e6⟩ | ⟨_, _, _, _, c2, _, _, _, e6, _⟩
          · subst e5; exact ⟨_, _, e6⟩
          · exact ⟨_, _, e6⟩
        obtain ⟨a2', c2, e5⟩ := hxs
        subst e5
        obtain ⟨news', hl, hll, hcells⟩ := row_rel hr hxv (by intro h0; rcases Nat.eq_zero_or_pos m with h | h; subst h; simp at h0; exact h) hrow
        obtain ⟨v', w', μ', g1, g2, g3, g4⟩ := hsound W μ w sv (.slice a2' m c2) news' hr hsv hl hnl (fun w' => by simp [Builtin.lenOf]) (fun w' hw' => by
          rcases hcells with h0 | ⟨b, o', e6, hcell⟩
          · have h1 : news' = [] := List.eq_nil_of_length_eq_zero (by omega)
            subst h1
            cases a2' with
            | none => simp [Builtin.firstCells]
            | some ad2 => simp [Builtin.firstCells, h0, loadCells, loadCellsFrom]
          · subst e6
            exact firstCells_slice hll (fun j v hj => by have := hcell j v hj; simp only [World.cell?, hw'] at this ⊢; exact this))
        exact ⟨.value v', v', w', μ', exec_builtin ho hc a.eval w _ w' (by rw [hmap, hargs]; simp [builtin, g1]), .inl rfl, g2, g3, g4⟩
      · rename_i hu2
        obtain ⟨b, e3, h50⟩ := asS_inv h4
        subst e3
        obtain ⟨hone0, h5⟩ := need_inv h50
        have hone : i.size = 1 := by rw [← szOf_eq hi]; exact Nat.eq_of_beq_eq_true hone0
        rw [szOf_eq hi, bytesOf_eq hi] at h5
        obtain ⟨a1, n1, z1, σ1, h7, hsound⟩ := grow_sound (ty := o.type) hu hu2 (.inr rfl) hi hiz hzs h5
        refine ⟨_, _, h7, fun W μ a w hf hr => ?_⟩
        obtain ⟨sv, xv, hmap, hsv, hxv⟩ := hmap2 μ a hf
        rw [hxv.string_inv] at hmap
        · obtain ⟨v', w', μ', g1, g2, g3, g4⟩ := hsound W μ w sv (.string b) (byteCells b) hr hsv (byteCells_rel μ b) (by rw [byteCells_length, hone]; omega) (fun w' => by simp [Builtin.lenOf]) (fun w' hw' => firstCells_string w' b i.size)
          exact ⟨.value v', v', w', μ', exec_builtin ho hc a.eval w _ w' (by rw [hmap, hargs]; simp [builtin, g1]), .inl rfl, g2, g3, g4⟩
      · rename_i ik hu2
        obtain ⟨m, e3, h5⟩ := asI_inv h4
        subst e3
        obtain ⟨hb, h6⟩ := need_inv h5
        simp only [Bool.and_eq_true, decide_eq_true_eq, szOf_eq hi, bytesOf_eq hi] at hb
        obtain ⟨⟨⟨⟨hb1, hb2⟩, hb3⟩, hb4⟩, hb5⟩ := hb
        have hadn : ad = none := by cases ad with | none => rfl | some _ => cases hb1
        subst hadn
        rw [szOf_eq hi] at h6
        unfold sizeTop at hb4
        unfold roomTop at hb3
        refine ⟨_, _, h6, fun W μ a w hf hr => ?_⟩
        obtain ⟨sv, xv, hmap, hsv, hxv⟩ := hmap2 μ a hf
        rw [hxv.int_inv] at hmap
        rcases hsv.slice_inv with ⟨_, _, _, e6⟩ | ⟨_, _, _, _, _, _, e5, _⟩
        rotate_left
        · cases e5
        subst e6
        have hmn : ((m.toNat : Nat) : Int) = m := by omega
        have hrun := run_appz (P := P) (w := w) (ty := o.type) hu hu2 hi hiz hb5 m.toNat (by omega) (by omega) hb3
        rw [hmn] at hrun
        have hcap := grownCap_ge w (0 + m.toNat) 0 e
        have hcm := grownCap_le_maxLen w (0 + m.toNat) 0 e (by unfold maxLen; omega)
        rw [Nat.zero_add] at hrun hcap hcm
        have hzl : (Value.cellsL zv).length = i.size := by have := Nat.eq_of_beq_eq_true hzl; rwa [szOf_eq hi] at this
        obtain ⟨g1, g2⟩ := zeros_rel (μ := μ) (n := m.toNat) (m := m.toNat * i.size) hpl hzl hb5 (Nat.le_refl _)
        have hzc : Builtin.zeroCells zv.cells m.toNat = madeCells zv.cells (m.toNat * i.size) := by unfold Builtin.zeroCells madeCells; rw [hzs]
        obtain ⟨h3, h4⟩ := hr.drew.new (Builtin.zeroCells zv.cells m.toNat ++ Builtin.zeroCells zv.cells (grownCap w (m.toNat) 0 e - m.toNat)) e (zerosN (Value.cellsL zv) m.toNat) (by rw [Array.size_append, hzc]; omega) (fun j v hj => by
          obtain ⟨v', h7, h8⟩ := g2 j v hj
          have hlt : j < (madeCells zv.cells (m.toNat * i.size)).size := (Array.getElem?_eq_some_iff.1 h7).1
          exact ⟨v', by rw [hzc, Array.getElem?_append_left hlt]; exact h7, h8⟩)
        refine ⟨.value _, _, _, _, exec_builtin ho hc a.eval w _ _ (by rw [hmap, hargs]; simp [builtin, hrun]; rfl), .inl rfl, h3, ?_, h4⟩
        have hput : ∀ nn, (μ.put σ.next ⟨w.drew.heap.size, 0, nn⟩) σ.next = some ⟨w.drew.heap.size, 0, nn⟩ := fun nn => by simp [Mp.put]
        refine .sl (hput _) (by omega) (.inr rfl) (.inr ?_) hcm
        simp only [Array.size_append, size_zeroCells, hzs]
        have := mul_fit i.size hcap
        omega
      · cases h4
    · cases h3
  · cases h1

end
end Go.AM
