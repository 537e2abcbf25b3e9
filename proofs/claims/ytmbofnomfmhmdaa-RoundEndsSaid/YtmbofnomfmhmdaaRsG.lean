/-
  RoundEnds, in plain words: the answers ahead; all of it.
-/
import Derived.Test.YtmbofnomfmhmdaaRsF
set_option linter.unusedVariables false
set_option linter.unusedSimpArgs false
set_option linter.unusedSectionVars false
namespace Go.AM.Rs
open Go.Proofs

structure Op (σ0 : St) where
  kind : Int
  ck : Int
  cv : Int
  cn : Int
  ad : Option Addr
  l : List Int
  told : Bool
  hs : Holds σ0 1 c1 ad l
def c6 {σ0 : St} (o : Op σ0) : List Value := [.int .i64 o.kind, .int .i64 o.ck, .int .i64 o.cv, .int .i64 o.cn, .slice o.ad o.l.length 0, .bool o.told]
theorem c6_len {σ0 : St} (o : Op σ0) : (c6 o).length = 6 := rfl

theorem intOf {σ : St} {row : List Value} (h : Img Try.prog σ 3 row) : ∃ n : Int, row = c1 n := by
  obtain ⟨n, h1, _⟩ := Img.int_inv Try.underlying3 h
  exact ⟨n, h1⟩
set_option maxRecDepth 20000 in
theorem cmdOf {σ : St} {row : List Value} (h : Img Try.prog σ 49 row) : ∃ c : Int × Int × Int, row = c3i c := by
  obtain ⟨h1, h2⟩ := h.struct_inv Try.underlying49
  have hl : row.length = 3 := by rw [h1]; kernel_rfl
  match row, hl with
  | [x, y, z], _ =>
    have hx := h2 _ (List.mem_of_getElem? (i := 0) rfl)
    have hy := h2 _ (List.mem_of_getElem? (i := 1) rfl)
    have hz := h2 _ (List.mem_of_getElem? (i := 2) rfl)
    have e3 : Try.prog.cellsOf 3 = 1 := by kernel_rfl
    simp only [e3] at hx hy hz
    obtain ⟨n0, w0, v0⟩ := Img.int_inv Try.underlying3 hx
    obtain ⟨n1, w1, v1⟩ := Img.int_inv Try.underlying3 hy
    obtain ⟨n2, w2, v2⟩ := Img.int_inv Try.underlying3 hz
    simp at w0 w1 w2
    exact ⟨(n0, n1, n2), by rw [w0, w1, w2]; rfl⟩
set_option maxRecDepth 20000 in
theorem opOf {ads : List Addr} {W : World} {row : List Value} (h : Img Try.prog (stOfD ads W) 51 row) : ∃ o : Op (stOfD ads W), row = c6 o := by
  obtain ⟨h1, h2⟩ := h.struct_inv Try.underlying51
  have hl : row.length = 6 := by rw [h1]; kernel_rfl
  match row, hl with
  | [x, r0, r1, r2, s, b], _ =>
    have hx := h2 _ (List.mem_of_getElem? (i := 0) rfl)
    have hr := h2 _ (List.mem_of_getElem? (i := 1) rfl)
    have hs := h2 _ (List.mem_of_getElem? (i := 2) rfl)
    have hb := h2 _ (List.mem_of_getElem? (i := 3) rfl)
    have e3 : Try.prog.cellsOf 3 = 1 := by kernel_rfl
    have e49 : Try.prog.cellsOf 49 = 3 := by kernel_rfl
    have e23 : Try.prog.cellsOf 23 = 1 := by kernel_rfl
    have e4 : Try.prog.cellsOf 4 = 1 := by kernel_rfl
    simp only [e3] at hx
    simp only [e49] at hr
    simp only [e23] at hs
    simp only [e4] at hb
    obtain ⟨n0, w0, v0⟩ := Img.int_inv Try.underlying3 hx
    obtain ⟨r, w2⟩ := cmdOf hr
    obtain ⟨c, w3⟩ := Img.bool_inv Try.underlying4 hb
    obtain ⟨l, ad, w1, _, hH⟩ := Img.holdsD (sz := 1) (α := Int) Try.underlying23 (show Img Try.prog (stOfD ads W) 23 [s] from hs) c1 (fun row hr => intOf hr) (fun _ => rfl) (by kernel_rfl)
    simp [c3i] at w0 w2 w3
    obtain ⟨a0, a1, a2⟩ := w2
    exact ⟨⟨n0, r.1, r.2.1, r.2.2, ad, l, c, hH⟩, by rw [w0, w1, w3, a0, a1, a2]; rfl⟩

theorem few_loop (L k : Nat) {σ0 σ : St} {ad : Option Addr} {l : List (Op σ0)} (hl : l.length ≤ 300) (hH : Holds σ0 6 c6 ad l) (hK : Kept' σ0.next σ0 σ) : ∀ (n i : Nat), i ≤ l.length → l.length - i < n → (∀ (j : Nat) (o : Op σ0), j < i → l[j]? = some o → o.l.length ≤ 20) →
    ∃ b, lpAt Try.prog env L k 14 [true, true, false, true] [] n [(0, .slice ad l.length 0), (8, .int .i64 l.length), (9, .int .i64 i)] σ = some (.bool b, σ) ∧ (b = true → ∀ (j : Nat) (o : Op σ0), l[j]? = some o → o.l.length ≤ 20)
  | 0, i, _, h, _ => by omega
  | n + 1, i, h1, h2, h3 => by
    rw [f14_l4]
    by_cases hi : i = l.length
    · rw [decide_eq_false (by omega), br_false]
      exact ⟨true, rfl, fun _ j o hj => h3 j o (by have := (List.getElem?_eq_some_iff.1 hj).1; omega) hj⟩
    · have hget : l[i]? = some l[i] := List.getElem?_eq_getElem (by omega)
      obtain ⟨q0, e0, hat⟩ := hH.ld hK hget
      generalize l[i] = o at hat hget
      rw [decide_eq_true (by omega), br_true, need_of (by simp [inRange]; omega), e0, adr_some, hat 4 (.slice o.ad o.l.length 0) _ (by omega) rfl (by omega), asSl_s]
      by_cases hc : ((o.l.length : Int)) > 20
      · rw [decide_eq_true hc, br_true]; exact ⟨false, rfl, by simp⟩
      · rw [decide_eq_false hc, br_false, wrap_in _ (by omega) (by omega), ← e0]
        exact few_loop L k hl hH hK n (i + 1) (by omega) (by omega) (fun j o' hj hjo => by
          by_cases hji : j = i
          · subst hji; rw [hget] at hjo; cases hjo; omega
          · exact h3 j o' (by omega) hjo)
theorem few_spec (L k : Nat) (hL : 400 < L) {σ0 σ : St} {ad : Option Addr} {l : List (Op σ0)} (hH : Holds σ0 6 c6 ad l) (hK : Kept' σ0.next σ0 σ) :
    ∃ b, evCall Try.prog env L (k + 1) 14 [.slice ad l.length 0] σ = some (.bool b, σ) ∧ (b = true → l.length ≤ 300 ∧ ∀ (j : Nat) (o : Op σ0), l[j]? = some o → o.l.length ≤ 20) := by
  rw [f14_eq]
  by_cases h : (l.length : Int) > 300
  · rw [decide_eq_true h, br_true]; exact ⟨false, rfl, by simp⟩
  · rw [decide_eq_false h, br_false]
    obtain ⟨b, hb, hb2⟩ := few_loop L k (by omega) hH hK L 0 (by omega) (by omega) (fun j o hj => by omega)
    exact ⟨b, hb, fun h => ⟨by omega, hb2 h⟩⟩


theorem tickOf {σ : St} {row : List Value} (h : Img Try.prog σ 5 row) : ∃ n : U8, row = cu8 n := by
  obtain ⟨n, w0, v0⟩ := Img.int_inv Try.underlying5 h
  exact ⟨⟨n, by have := wf_u8 v0; omega⟩, w0⟩

theorem ahead_ok (L k : Nat) (hL : 2000 < L) {σ0 : St} {a : Nat} {N r : Int} (hN : N ≠ 0) (hr : IntKind.wrap .i64 (1 + IntKind.wrap .i64 r) = N) {ad2 ad3 : Option Addr} {tk : List U8} (htk : tk.length ≤ 50) (hH : Holds σ0 1 cu8 ad3 tk) {sp : List (Op σ0)} (hsp : sp.length ≤ 300) (hH2 : Holds σ0 6 c6 ad2 sp) :
    ∀ (n i : Nat) {σ : St} {s : RS} {ad : Option Addr} {z : Nat} {out : List Cmd} {R : List Nat}, Que σ0 σ a s ad z out R → Cov N s out 0 false → i ≤ sp.length → sp.length - i < n → out.length ≤ 20 + 20 * i →
      ∃ σ9, lpAt Try.prog env L (k + 5) 6 P9 [] n [(0, .int .u16 r), (2, .slice ad2 sp.length 0), (3, .slice ad3 tk.length 0), (9, pt a), (10, .slice ad out.length z), (12, .int .i64 0), (58, .int .i64 sp.length), (59, .int .i64 i)] σ = some (.bool true, σ9)
  | 0, i, σ, s, ad, z, out, R, _, _, _, hn, _ => by omega
  | n + 1, i, σ, s, ad, z, out, R, h, hc, hi, hn, h3 => by
    rw [f6_l9]
    by_cases hie : i = sp.length
    · rw [decide_eq_false (by omega), br_false]
      exact main_ok L k hL hN hr htk hH L 0 h hc (by omega) (by omega) (by omega) (by omega) (by simp) (by omega)
    · obtain ⟨F, q, hS, hT, hO⟩ := h.ex
      have hget : sp[i]? = some sp[i] := List.getElem?_eq_getElem (by omega)
      obtain ⟨q0, e0, hlds⟩ := hH2.lds hO.kept c6_len hget
      generalize sp[i] = o at hlds
      obtain ⟨v, x, adO, zO, σ1, ad', z', s', σ2, g1, g2, g3, hq, hx, hor⟩ := answer_step h L k hL (by omega) (o.ck, o.cv, o.cn)
      rw [decide_eq_true (by omega), br_true, need_of (by simp [inRange]; omega), e0, adr_some, hlds 1 3 (0 + (i : Int).toNat * 6 + 1) (by omega) (by simp), show ((c6 o).drop 1).take 3 = [.int .i64 o.ck, .int .i64 o.cv, .int .i64 o.cn] from rfl, uncons_c, asI_i, uncons_c, asI_i, uncons_c, asI_i, endl_n, show Value.agg #[Value.int .i64 o.ck, .int .i64 o.cv, .int .i64 o.cn] = .agg (c3i (o.ck, o.cv, o.cn)).toArray from rfl, g1, bnd_some, asT_t, toList2, uncons_c, asSl_s, uncons_c, endl_n, g2, g3, ← e0, show IntKind.wrap .i64 ((i : Int) + 1) = ((i + 1 : Nat) : Int) by rw [wrap_in _ (by omega) (by omega)]; omega]
      have hc' : Cov N s' (out ++ x) 0 false := by
        rcases hor with ⟨y1, y2, y3, y4, ha⟩ | ⟨hno, rfl, rfl⟩
        · exact hc.answered hN y1 h.inv ha
        · rw [List.append_nil]; exact hc
      exact ahead_ok L k hL hN hr htk hH hsp hH2 n (i + 1) hq hc' (by omega) (by omega) (by rw [List.length_append]; omega)

theorem ends (L k : Nat) (hL : 2000 < L) {σ0 : St} {ad1 ad2 ad3 : Option Addr} {l : List Int} {sp : List (Op σ0)} {tk : List U8} (hH1 : Holds σ0 1 c1 ad1 l) (hH2 : Holds σ0 6 c6 ad2 sp) (hH3 : Holds σ0 1 cu8 ad3 tk) (r : Int) (h1 : 0 ≤ r ∧ r ≤ 65535) :
    ∃ σ', evCall Try.prog env L (k + 6) 6 [.int .u16 r, .slice ad1 l.length 0, .slice ad2 sp.length 0, .slice ad3 tk.length 0] σ0 = some (.bool true, σ') := by
  rw [f6_eq]
  have hk0 : Kept' σ0.next σ0 σ0 := ⟨Nat.le_refl _, fun _ _ => rfl⟩
  obtain ⟨σ1, g1, s1⟩ := awake_spec L k hL σ0
  have hk1 := hk0.step s1 (by simp)
  have hend : ∃ σ', (bnd (evCall Try.prog env L (k + 5) 7 [] σ1) fun v10 v11 => asB v10 fun v12 => some (Value.bool v12, v11)) = some (.bool true, σ') := by
    obtain ⟨σ3, g3, _⟩ := awake_spec L k hL σ1
    rw [g3, bnd_some, asB_b]; exact ⟨σ3, rfl⟩
  obtain ⟨x, hx, hx2⟩ := few_spec L (k + 4) (by omega) hH2 hk1
  rw [g1, bnd_some, asB_b, not_true, br_false, hx, bnd_some, asB_b]
  cases x with
  | false => rw [not_false, br_true]; exact hend
  | true =>
    obtain ⟨hlen, hsm⟩ := hx2 rfl
    rw [not_true, br_false]
    by_cases hN : (tk.length : Int) > 50
    · rw [decide_eq_true hN, br_true]; exact hend
    rw [decide_eq_false hN, br_false]
    by_cases hl : (l.length : Int) > 20
    · rw [decide_eq_true hl, br_true]; exact hend
    rw [decide_eq_false hl, br_false]
    obtain ⟨hS2, s2⟩ := new_rnd σ1
    rw [show hd zero none 0 none = [Value.int .i64 0, .int .i64 0, .slice none 0 0, .int .i64 0, .map none, .int .i64 0, .bool false, .int .i64 0, .bool false] from rfl] at hS2 s2
    have n2 : (σ1.new (Blk.own [Value.int .i64 0, .int .i64 0, .slice none 0 0, .int .i64 0, .map none, .int .i64 0, .bool false, .int .i64 0, .bool false] 28)).next = σ1.next + 1 := rfl
    generalize σ1.new (Blk.own [Value.int .i64 0, .int .i64 0, .slice none 0 0, .int .i64 0, .map none, .int .i64 0, .bool false, .int .i64 0, .bool false] 28) = σ2 at hS2 s2 n2
    have hk2 := hk1.step s2 (by simp)
    have hO2 : Owns σ0 σ2 [[σ1.next]] := ((Owns.start σ0).idle s1).more s2 (fun q hq => by simp at hq; subst hq; omega)
    obtain ⟨q, hsrc, hql⟩ := src_of hH1 hk2
    have e1 : IntKind.wrap .i64 ((1 : Int) + IntKind.wrap .i64 r) = 1 + r := by rw [wrap_in r (by omega) (by omega), wrap_in _ (by omega) (by omega)]
    rcases begin_spec hS2 L (k + 1) hL (1 + r) (z := 0) (by omega) hsrc (fun h => by have := hql h; have := s1.1; simp; omega) with ⟨_, _, hgood, adO, zO, qO, F', σ4, g4, hO4, hS4, hT4, hq4⟩ | ⟨hno, v, σ4, g4, s4⟩
    · rw [e1, g4, bnd_some, asT_t, toList2, uncons_c, asSl_s, uncons_c, endl_n, eqNil_nil, not_true, br_false]
      have hOw := hO2.turned 0 rfl hT4
      have hOq : Owns σ0 σ4 [F', qO, []] := by
        refine ⟨hOw.kept, fun G hG q hq => ?_, fun i j A B hij hA hB x hxA hxB => ?_⟩
        · simp at hG
          rcases hG with rfl | rfl | rfl
          · exact hOw.own _ (by simp) q hq
          · have := (hq4 q hq).1; have := hO4.lt q hq; have := hk2.1; omega
          · simp at hq
        · have hsel : ∀ (p : Nat) (C : List Nat), [F', qO, []][p]? = some C → (p = 0 ∧ C = F') ∨ (p = 1 ∧ C = qO) ∨ C = [] := fun p C hC => by
            match p, hC with
            | 0, hC => exact .inl ⟨rfl, by simpa using hC.symm⟩
            | 1, hC => exact .inr (.inl ⟨rfl, by simpa using hC.symm⟩)
            | 2, hC => exact .inr (.inr (by simpa using hC.symm))
            | p + 3, hC => simp at hC
          rcases hsel i A hA with ⟨p1, rfl⟩ | ⟨p1, rfl⟩ | rfl
          · rcases hsel j B hB with ⟨p2, rfl⟩ | ⟨p2, rfl⟩ | rfl
            · omega
            · exact (hq4 x hxB).2 hxA
            · simp at hxB
          · rcases hsel j B hB with ⟨p2, rfl⟩ | ⟨p2, rfl⟩ | rfl
            · exact (hq4 x hxA).2 hxB
            · omega
            · simp at hxB
          · simp at hxA
      have hlm : (l.map fun v => ((1 : Int), v, 1 + r)).length = l.length := List.length_map ..
      have := ahead_ok L k hL (N := 1 + r) (by omega) e1 (by omega) hH3 (by omega) hH2 L 0 ⟨⟨F', qO, hS4, .row hO4, hOq⟩, .begin hgood (by omega)⟩ (.begin (by omega)) (by omega) (by omega) (by rw [hlm]; omega)
      rw [hlm] at this
      exact this
    · rw [e1, g4, bnd_some, asT_t, toList2, uncons_c, asSl_s, uncons_c, endl_n, eqNil_iface, not_false, br_true, number_spec (hS2.idle s4) L (k + 4), bnd_some, asI_i]
      exact ⟨σ4, rfl⟩
end Go.AM.Rs
