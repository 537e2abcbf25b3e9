/-
  RoundSafe: the rounds; all of it.
-/
import Derived.Test.YtmbofnomfmhmdaaRqG
import Derived.Test.YtmbofnomfmhmdaaAm22
set_option linter.unusedVariables false
set_option linter.unusedSimpArgs false
set_option linter.unusedSectionVars false
namespace Go.AM.Rq
open Go.Proofs

structure Op (σ0 : St) where
  kind : Int
  ck : Int
  cv : Int
  cn : Int
  ad : Option Addr
  l : List Int
  told : Bool
  hs : Holds σ0 1 c1 ad l
def c6 {σ0 : St} (o : Op σ0) : List Value := [.int .i64 o.kind, .int .i64 o.ck, .int .i64 o.cv, .int .i64 o.cn, .slice o.ad o.l.length 0, .bool o.told]
theorem c6_len {σ0 : St} (o : Op σ0) : (c6 o).length = 6 := rfl

theorem intOf {σ : St} {row : List Value} (h : Img Try.prog σ 3 row) : ∃ n : Int, row = c1 n := by
  obtain ⟨n, h1, _⟩ := Img.int_inv Try.underlying3 h
  exact ⟨n, h1⟩
set_option maxRecDepth 20000 in
theorem cmdOf {σ : St} {row : List Value} (h : Img Try.prog σ 49 row) : ∃ c : Int × Int × Int, row = c3i c := by
  obtain ⟨h1, h2⟩ := h.struct_inv Try.underlying49
  have hl : row.length = 3 := by rw [h1]; kernel_rfl
  match row, hl with
  | [x, y, z], _ =>
    have hx := h2 _ (List.mem_of_getElem? (i := 0) rfl)
    have hy := h2 _ (List.mem_of_getElem? (i := 1) rfl)
    have hz := h2 _ (List.mem_of_getElem? (i := 2) rfl)
    have e3 : Try.prog.cellsOf 3 = 1 := by kernel_rfl
    simp only [e3] at hx hy hz
    obtain ⟨n0, w0, v0⟩ := Img.int_inv Try.underlying3 hx
    obtain ⟨n1, w1, v1⟩ := Img.int_inv Try.underlying3 hy
    obtain ⟨n2, w2, v2⟩ := Img.int_inv Try.underlying3 hz
    simp at w0 w1 w2
    exact ⟨(n0, n1, n2), by rw [w0, w1, w2]; rfl⟩
set_option maxRecDepth 20000 in
theorem opOf {ads : List Addr} {W : World} {row : List Value} (h : Img Try.prog (stOfD ads W) 51 row) : ∃ o : Op (stOfD ads W), row = c6 o := by
  obtain ⟨h1, h2⟩ := h.struct_inv Try.underlying51
  have hl : row.length = 6 := by rw [h1]; kernel_rfl
  match row, hl with
  | [x, r0, r1, r2, s, b], _ =>
    have hx := h2 _ (List.mem_of_getElem? (i := 0) rfl)
    have hr := h2 _ (List.mem_of_getElem? (i := 1) rfl)
    have hs := h2 _ (List.mem_of_getElem? (i := 2) rfl)
    have hb := h2 _ (List.mem_of_getElem? (i := 3) rfl)
    have e3 : Try.prog.cellsOf 3 = 1 := by kernel_rfl
    have e49 : Try.prog.cellsOf 49 = 3 := by kernel_rfl
    have e23 : Try.prog.cellsOf 23 = 1 := by kernel_rfl
    have e4 : Try.prog.cellsOf 4 = 1 := by kernel_rfl
    simp only [e3] at hx
    simp only [e49] at hr
    simp only [e23] at hs
    simp only [e4] at hb
    obtain ⟨n0, w0, v0⟩ := Img.int_inv Try.underlying3 hx
    obtain ⟨r, w2⟩ := cmdOf hr
    obtain ⟨c, w3⟩ := Img.bool_inv Try.underlying4 hb
    obtain ⟨l, ad, w1, _, hH⟩ := Img.holdsD (sz := 1) (α := Int) Try.underlying23 (show Img Try.prog (stOfD ads W) 23 [s] from hs) c1 (fun row hr => intOf hr) (fun _ => rfl) (by kernel_rfl)
    simp [c3i] at w0 w2 w3
    obtain ⟨a0, a1, a2⟩ := w2
    exact ⟨⟨n0, r.1, r.2.1, r.2.2, ad, l, c, hH⟩, by rw [w0, w1, w3, a0, a1, a2]; rfl⟩

theorem few_loop (L k : Nat) {σ0 σ : St} {ad : Option Addr} {l : List (Op σ0)} (hl : l.length ≤ 300) (hH : Holds σ0 6 c6 ad l) (hK : Kept' σ0.next σ0 σ) : ∀ (n i : Nat), i ≤ l.length → l.length - i < n → (∀ (j : Nat) (o : Op σ0), j < i → l[j]? = some o → o.l.length ≤ 20) →
    ∃ b, lpAt Try.prog env L k 14 [true, true, false, true] [] n [(0, .slice ad l.length 0), (8, .int .i64 l.length), (9, .int .i64 i)] σ = some (.bool b, σ) ∧ (b = true → ∀ (j : Nat) (o : Op σ0), l[j]? = some o → o.l.length ≤ 20)
  | 0, i, _, h, _ => by omega
  | n + 1, i, h1, h2, h3 => by
    rw [f14_l4]
    by_cases hi : i = l.length
    · rw [decide_eq_false (by omega), br_false]
      exact ⟨true, rfl, fun _ j o hj => h3 j o (by have := (List.getElem?_eq_some_iff.1 hj).1; omega) hj⟩
    · have hget : l[i]? = some l[i] := List.getElem?_eq_getElem (by omega)
      obtain ⟨q0, e0, hat⟩ := hH.ld hK hget
      generalize l[i] = o at hat hget
      rw [decide_eq_true (by omega), br_true, need_of (by simp [inRange]; omega), e0, adr_some, hat 4 (.slice o.ad o.l.length 0) _ (by omega) rfl (by omega), asSl_s]
      by_cases hc : ((o.l.length : Int)) > 20
      · rw [decide_eq_true hc, br_true]; exact ⟨false, rfl, by simp⟩
      · rw [decide_eq_false hc, br_false, wrap_in _ (by omega) (by omega), ← e0]
        exact few_loop L k hl hH hK n (i + 1) (by omega) (by omega) (fun j o' hj hjo => by
          by_cases hji : j = i
          · subst hji; rw [hget] at hjo; cases hjo; omega
          · exact h3 j o' (by omega) hjo)
theorem few_spec (L k : Nat) (hL : 400 < L) {σ0 σ : St} {ad : Option Addr} {l : List (Op σ0)} (hH : Holds σ0 6 c6 ad l) (hK : Kept' σ0.next σ0 σ) :
    ∃ b, evCall Try.prog env L (k + 1) 14 [.slice ad l.length 0] σ = some (.bool b, σ) ∧ (b = true → l.length ≤ 300 ∧ ∀ (j : Nat) (o : Op σ0), l[j]? = some o → o.l.length ≤ 20) := by
  rw [f14_eq]
  by_cases h : (l.length : Int) > 300
  · rw [decide_eq_true h, br_true]; exact ⟨false, rfl, by simp⟩
  · rw [decide_eq_false h, br_false]
    obtain ⟨b, hb, hb2⟩ := few_loop L k (by omega) hH hK L 0 (by omega) (by omega) (fun j o hj => by omega)
    exact ⟨b, hb, fun h => ⟨by omega, hb2 h⟩⟩



section
variable {σ0 σ : St} {a : Nat} {s s' : RS} {ad : Option Addr} {z : Nat} {tl : List Cmd} {f m : Nat} {fz mk : List Bool} {adO : Option Addr} {zO : Nat} {x : List Cmd} {R : List Nat} {adv : Option Addr} {vs : List Int} {late : Bool}
/-- What is looked at behind a call. -/
theorem fin (L k m0 : Nat) (hL : 2000 < L) {α : Type} (ad0 : Option Addr) (sc : List α) (hZ : Z σ0 σ a s' ad z tl f m fz mk adO zO x R) (hJ : J s' vs fz mk late) (hO : Okay s s' x vs fz mk late) (hH : Holds σ0 1 c1 adv vs) (hvl : vs.length ≤ 20) (hx : x.length ≤ 20) (s36 s37 : Int) {num : Int} (hnum : num = s.number) :
    lpAt Try.prog env L (k + 1) 5 P37 [m0] L [(0, .slice ad0 sc.length 0), (3, .pointer (some ⟨a, 0, none⟩)), (4, .slice ad tl.length z), (5, .slice adv vs.length 0), (6, .slice (some ⟨f, 0, none⟩) 4 1), (7, .slice (some ⟨m, 0, none⟩) 4 1), (8, .bool late), (10, .slice adO x.length zO), (11, .int .i64 num), (17, .bool true), (18, .bool true), (36, .int .i64 s36), (37, .int .i64 s37), (140, .int .i64 vs.length), (141, .int .i64 0)] σ = lpAt Try.prog env L (k + 1) 5 P9 [] m0 [(0, .slice ad0 sc.length 0), (3, .pointer (some ⟨a, 0, none⟩)), (4, .slice ad tl.length z), (5, .slice adv vs.length 0), (6, .slice (some ⟨f, 0, none⟩) 4 1), (7, .slice (some ⟨m, 0, none⟩) 4 1), (8, .bool late), (36, .int .i64 s36), (37, .int .i64 (IntKind.wrap .i64 (s37 + 1)))] σ := by
  obtain ⟨F, q, qO, h1, h2, h3, h4, h5, h6⟩ := hZ.ex
  obtain ⟨qv, hS, _⟩ := src_of hH h4.kept
  subst hnum
  have e1 := all_loop L (k + 1) m0 ad0 sc a ad tl z adv vs f m late adO x zO s.number s36 s37 hS hvl h5 h6 hJ.fl hJ.ml hJ.rng L 0 true true (by omega) (by omega)
  have e2 := chk_loop L k m0 ad0 sc a ad tl z adv vs f m late adO x zO s.number s36 s37 h1 h3 hx (A := true && allB fz (vs.drop 0)) (D := true && allB mk (vs.drop 0)) (by simpa using hO.1) (by simpa using hO.2) L 0 (by omega) (by omega)
  exact e1.trans e2

theorem ans_ok (L k n : Nat) (hL : 2000 < L) {α : Type} (ad0 : Option Addr) (sc : List α) {t : Nat} {c : Cmd} (hZ : Z σ0 σ a s ad z tl f m fz mk adO zO x [t]) (ht : σ.get t = some (.own (c3i c) 37)) (hJ : J s vs fz mk late) (hI : Inv s) (hH : Holds σ0 1 c1 adv vs) (hvl : vs.length ≤ 20) (htl : tl.length ≤ 10000) (s36 s37 : Int) :
    ∃ ad' z' tl' σ' s' fz' mk' adO' zO' x', ans L (k + 5) n σ t ad0 sc.length 0 a 0 ad tl.length z adv vs.length 0 (some ⟨f, 0, none⟩) 4 1 (some ⟨m, 0, none⟩) 4 1 late s.number s36 s37 = lpAt Try.prog env L (k + 5) 5 P9 [] n [(0, .slice ad0 sc.length 0), (3, .pointer (some ⟨a, 0, none⟩)), (4, .slice ad' tl'.length z'), (5, .slice adv vs.length 0), (6, .slice (some ⟨f, 0, none⟩) 4 1), (7, .slice (some ⟨m, 0, none⟩) 4 1), (8, .bool late), (36, .int .i64 s36), (37, .int .i64 (IntKind.wrap .i64 (s37 + 1)))] σ' ∧
      Z σ0 σ' a s' ad' z' tl' f m fz' mk' adO' zO' x' [t] ∧ J s' vs fz' mk' late ∧ Inv s' ∧ tl'.length ≤ tl.length + 20 := by
  unfold ans
  obtain ⟨F, q, qO, h1, h2, h3, h4, h5, h6⟩ := hZ.ex
  have hl := hI.len
  rw [lds_all (n := 3) ht rfl, show c3i c = [.int .i64 c.1, .int .i64 c.2.1, .int .i64 c.2.2] from rfl, uncons_c, asI_i, uncons_c, asI_i, uncons_c, asI_i, endl_n, show (Value.agg #[Value.int .i64 c.1, Value.int .i64 c.2.1, Value.int .i64 c.2.2]) = .agg (c3i c).toArray from rfl]
  rcases answer_spec h1 L k hL (by omega) hI.p hI.live c with ⟨y1, y2, y3, y4, adO1, zO1, qO1, F1, x1, s1, σ1, g1, r1, hS1, hT1, n1, ha⟩ | ⟨hno, v, σ1, g1, s1⟩
  · obtain ⟨hI1, hx1⟩ := hI.answered y1 ha
    obtain ⟨hJ1, hO1⟩ := hJ.answered y1 y4 ha
    obtain ⟨hZ1, hk1⟩ := Z.call h1 h2 h4 h5 h6 hS1 r1 hT1 n1
    have hv4 : 0 ≤ c.2.1 ∧ c.2.1 < 4 := hJ.rng _ ((hJ.on y1).1 ▸ y4)
    have r0 : ∀ {σ' : St}, σ'.get t = σ.get t → ∀ K : Value → Res, σ'.ld t 0 K = K (.int .i64 c.1) := fun h K => by rw [ht] at h; exact ld_own K h rfl
    have r1' : ∀ {σ' : St}, σ'.get t = σ.get t → ∀ K : Value → Res, σ'.ld t 1 K = K (.int .i64 c.2.1) := fun h K => by rw [ht] at h; exact ld_own K h rfl
    have k1 : σ1.get t = σ.get t := hk1 t (by simp)
    have nn : inRange c.2.1 ((4 : Nat) : Int) = true := by simp [inRange]; omega
    rw [g1, bnd_some, asT_t, toList2, uncons_c, asSl_s, uncons_c, endl_n, eqNil_nil, br_true, r0 k1, asI_i]
    by_cases c1' : c.1 = 1
    · obtain ⟨σ2, p2, hZ2, hk2⟩ := hZ1.setF hJ.fl hv4
      have k2 : σ2.get t = σ.get t := (hk2 t (by simp)).trans k1
      obtain ⟨ad', z', σ3, g3, hZ3⟩ := hZ2.grow (by omega) hx1
      have hp : s.phase = 1 := by omega
      rw [if_pos hp, if_neg (by omega)] at hJ1 hO1
      have hf := fin L (k + 4) n hL ad0 sc hZ3 hJ1 hO1 hH hvl hx1 s36 s37 rfl
      rw [show (c.1 == 1) = true by simpa using c1', br_true, r1' k1, asI_i, need_of nn, adr_some, p2, eqNil_nil, br_true, r0 k2, asI_i, show (c.1 == 2) = false by simp; omega, br_false, g3]
      exact ⟨ad', z', _, σ3, s1, _, _, _, _, _, hf, hZ3, hJ1, hI1, by rw [List.length_append]; omega⟩
    · rw [show (c.1 == 1) = false by simpa using c1', br_false, eqNil_nil, br_true, r0 k1, asI_i]
      by_cases c2' : c.1 = 2
      · obtain ⟨σ2, p2, hZ2, hk2⟩ := hZ1.setM hJ.ml hv4
        obtain ⟨ad', z', σ3, g3, hZ3⟩ := hZ2.grow (by omega) hx1
        have hp : s.phase = 2 := by omega
        rw [if_neg (by omega), if_pos hp] at hJ1 hO1
        have hf := fin L (k + 4) n hL ad0 sc hZ3 hJ1 hO1 hH hvl hx1 s36 s37 rfl
        rw [show (c.1 == 2) = true by simpa using c2', br_true, r1' k1, asI_i, need_of nn, adr_some, p2, g3]
        exact ⟨ad', z', _, σ3, s1, _, _, _, _, _, hf, hZ3, hJ1, hI1, by rw [List.length_append]; omega⟩
      · obtain ⟨ad', z', σ3, g3, hZ3⟩ := hZ1.grow (by omega) hx1
        rw [if_neg (by omega), if_neg (by omega)] at hJ1 hO1
        have hf := fin L (k + 4) n hL ad0 sc hZ3 hJ1 hO1 hH hvl hx1 s36 s37 rfl
        rw [show (c.1 == 2) = false by simpa using c2', br_false, g3]
        exact ⟨ad', z', _, σ3, s1, _, _, _, _, _, hf, hZ3, hJ1, hI1, by rw [List.length_append]; omega⟩
  · obtain ⟨hZ1, hk1⟩ := hZ.blank.idle s1
    obtain ⟨ad', z', σ3, g3, hZ3⟩ := hZ1.grow (by omega) (by simp)
    have hf := fin L (k + 4) n hL ad0 sc hZ3 hJ (Okay.idle (s := s)) hH hvl (by simp) s36 s37 rfl
    rw [g1, bnd_some, asT_t, toList2, uncons_c, asSl_s, uncons_c, endl_n, eqNil_iface, br_false, eqNil_iface, br_false]
    exact ⟨ad', z', _, σ3, s, _, _, _, _, _, (g3 _).trans hf, hZ3, hJ, hI, by rw [List.length_append]; simp⟩
end

theorem safe_loop (L k : Nat) (hL : 2000 < L) {σ0 : St} {ad0 : Option Addr} {sc : List (Op σ0)} (hlen : sc.length ≤ 300) (hfew : ∀ (j : Nat) (o : Op σ0), sc[j]? = some o → o.l.length ≤ 20) (hH0 : Holds σ0 6 c6 ad0 sc) {a : Nat} : ∀ (n i : Nat) {σ : St} {s : RS} {ad : Option Addr} {z : Nat} {tl : List Cmd} {f m : Nat} {fz mk : List Bool} {adO : Option Addr} {zO : Nat} {x : List Cmd} {R : List Nat} {adv : Option Addr} {vs : List Int} {late : Bool},
    i ≤ sc.length → sc.length - i < n → Z σ0 σ a s ad z tl f m fz mk adO zO x R → J s vs fz mk late → Inv s → Holds σ0 1 c1 adv vs → vs.length ≤ 20 → tl.length ≤ 20 * i →
    ∃ σ9, lpAt Try.prog env L (k + 5) 5 P9 [] n [(0, .slice ad0 sc.length 0), (3, .pointer (some ⟨a, 0, none⟩)), (4, .slice ad tl.length z), (5, .slice adv vs.length 0), (6, .slice (some ⟨f, 0, none⟩) 4 1), (7, .slice (some ⟨m, 0, none⟩) 4 1), (8, .bool late), (36, .int .i64 sc.length), (37, .int .i64 i)] σ = some (.bool true, σ9)
  | 0, i, σ, s, ad, z, tl, f, m, fz, mk, adO, zO, x, R, adv, vs, late, _, h, _, _, _, _, _, _ => by omega
  | n + 1, i, σ, s, ad, z, tl, f, m, fz, mk, adO, zO, x, R, adv, vs, late, hi, h, hZ, hJ, hI, hH, hvl, htl => by
    rw [f5_l9]
    by_cases hie : i = sc.length
    · rw [decide_eq_false (by omega), br_false]
      exact ⟨σ, rfl⟩
    · obtain ⟨F, q, qO, h1, h2, h3, h4, h5, h6⟩ := hZ.ex
      have hget : sc[i]? = some sc[i] := List.getElem?_eq_getElem (by omega)
      have hfo := hfew i _ hget
      have hat := fun {σ' : St} (hk : Kept' σ0.next σ0 σ') => hH0.ld hk hget
      have hlds := fun {σ' : St} (hk : Kept' σ0.next σ0 σ') => hH0.lds hk c6_len hget
      generalize sc[i] = o at hat hlds hfo
      obtain ⟨q0, e0, rd⟩ := hat h4.kept
      subst e0
      have rd' : ∀ {σ' : St}, Kept' σ0.next σ0 σ' → ∀ (j : Nat) (v : Value) (p : Nat), j < 6 → (c6 o)[j]? = some v → p = i * 6 + j → ∀ K : Value → Res, σ'.ld q0 p K = K v := fun hk => by
        obtain ⟨q1, e1, g⟩ := hat hk
        cases e1
        exact g
      have hw : IntKind.wrap .i64 ((i : Int) + 1) = ((i + 1 : Nat) : Int) := by rw [wrap_in _ (by omega) (by omega)]; omega
      have ni : inRange (i : Int) (sc.length : Int) = true := by simp [inRange]; omega
      rw [decide_eq_true (by omega), br_true, number_spec h1, bnd_some, asI_i, need_of ni, adr_some, rd 0 (.int .i64 o.kind) _ (by omega) rfl (by simp), asI_i]
      by_cases k1 : o.kind = 1
      · rw [show (o.kind == 1) = true by simpa using k1, br_true, need_of ni, adr_some, rd 3 (.int .i64 o.cn) _ (by omega) rfl (by simp), asI_i, need_of ni, adr_some, rd 4 (.slice o.ad o.l.length 0) _ (by omega) rfl (by simp), asSl_s]
        obtain ⟨qv, hS, hqv⟩ := src_of o.hs h4.kept
        rcases begin_spec h1 L (k + 1) hL o.cn (z := 0) (by omega) hS (fun hne hq => by have := hqv hne; have := (h4.own F (by simp) qv hq).1; omega) with ⟨y1, y2, y3, adO1, zO1, qO1, F1, σ1, g1, r1, hS1, hT1, n1⟩ | ⟨hno, v, σ1, g1, s1⟩
        · obtain ⟨hJ1, hO1⟩ := J.begin (s := s) (number := o.cn) y3 y1
          have hI1 : Inv _ := Inv.begin (s := s) (number := o.cn) y3 hfo
          obtain ⟨hZ1, _⟩ := Z.call h1 h2 h4 h5 h6 hS1 r1 hT1 n1
          obtain ⟨_, _, _, _, _, _, hO1', _, _⟩ := hZ1.ex
          have hZ2 := hZ1.zeros
          have hxl : (o.l.map fun v => ((1, v, o.cn) : Cmd)).length ≤ 20 := by rw [List.length_map]; exact hfo
          obtain ⟨ad', z', σ3, g3, hZ3⟩ := hZ2.grow (by omega) hxl
          have hf := fin L (k + 4) n hL (some ⟨q0, 0, none⟩) sc hZ3 hJ1 hO1 o.hs hfo hxl sc.length i rfl
          have hl1 : (o.l.map fun v => ((1, v, o.cn) : Cmd)).length = o.l.length := List.length_map ..
          simp only [hl1] at g3 hf
          rw [g1, bnd_some, asT_t, toList2, uncons_c, asSl_s, uncons_c, endl_n, eqNil_nil, br_true, need_of ni, adr_some, rd' hO1'.kept 4 (.slice o.ad o.l.length 0) _ (by omega) rfl (by simp), asSl_s]
          have hr := safe_loop L k hL hlen hfew hH0 n (i + 1) (by omega) (by omega) hZ3 hJ1 hI1 o.hs hfo (by rw [List.length_append]; omega)
          rw [hw] at hf
          obtain ⟨σ9, e9⟩ := hr
          exact ⟨σ9, (g3 _).trans (hf.trans e9)⟩
        · obtain ⟨hZ1, _⟩ := hZ.blank.idle s1
          obtain ⟨ad', z', σ3, g3, hZ3⟩ := hZ1.grow (by omega) (by simp)
          have hf := fin L (k + 4) n hL (some ⟨q0, 0, none⟩) sc hZ3 hJ (Okay.idle (s := s)) hH hvl (by simp) sc.length i rfl
          rw [g1, bnd_some, asT_t, toList2, uncons_c, asSl_s, uncons_c, endl_n, eqNil_iface, br_false]
          rw [hw] at hf
          obtain ⟨σ9, e9⟩ := safe_loop L k hL hlen hfew hH0 n (i + 1) (by omega) (by omega) hZ3 hJ hI hH hvl (by rw [List.length_append]; simp; omega)
          exact ⟨σ9, (g3 _).trans (hf.trans e9)⟩
      rw [show (o.kind == 1) = false by simpa using k1, br_false]
      by_cases k2 : o.kind = 2
      · obtain ⟨q1, e1, rl⟩ := hlds h4.kept
        cases e1
        rw [show (o.kind == 2) = true by simpa using k2, br_true, need_of ni, adr_some, rl 1 3 (0 + (i : Int).toNat * 6 + 1) (by omega) (by simp), show ((c6 o).drop 1).take 3 = [.int .i64 o.ck, .int .i64 o.cv, .int .i64 o.cn] from rfl, uncons_c, asI_i, uncons_c, asI_i, uncons_c, asI_i, endl_n]
        obtain ⟨σ1, hput, ht1, hs1, hn1⟩ := tmp_put σ [Value.int IntKind.i64 0, Value.int IntKind.i64 0, Value.int IntKind.i64 0] [Value.int IntKind.i64 o.ck, Value.int IntKind.i64 o.cv, Value.int IntKind.i64 o.cn] 37 rfl rfl
        have ht1' : σ1.get σ.next = some (.own (c3i (o.ck, o.cv, o.cn)) 37) := ht1
        have hZ1 := hZ.other hs1 (t := σ.next) (by omega)
        obtain ⟨_, _, _, _, _, _, hO1, _, _⟩ := hZ1.ex
        have go : ∀ {σ2 : St} {ad2 : Option Addr} {z2 : Nat} {tl2 : List Cmd} {c : Cmd}, Z σ0 σ2 a s ad2 z2 tl2 f m fz mk adO zO x [σ.next] → σ2.get σ.next = some (.own (c3i c) 37) → tl2.length ≤ 20 * i →
            ∃ σ9, ans L (k + 5) n σ2 σ.next (some ⟨q0, 0, none⟩) sc.length 0 a 0 ad2 tl2.length z2 adv vs.length 0 (some ⟨f, 0, none⟩) 4 1 (some ⟨m, 0, none⟩) 4 1 late s.number sc.length i = some (.bool true, σ9) := by
          intro σ2 ad2 z2 tl2 c hZ2 ht2 hl2
          obtain ⟨ad', z', tl', σ', s', fz', mk', adO', zO', x', e, hZ', hJ', hI', hl'⟩ := ans_ok L k n hL (some ⟨q0, 0, none⟩) sc hZ2 ht2 hJ hI hH hvl (by omega) sc.length i
          rw [hw] at e
          obtain ⟨σ9, e9⟩ := safe_loop L k hL hlen hfew hH0 n (i + 1) (by omega) (by omega) hZ' hJ' hI' hH hvl (by omega)
          exact ⟨σ9, e.trans e9⟩
        rw [hput, need_of ni, adr_some, rd' hO1.kept 5 (.bool o.told) _ (by omega) rfl (by simp), asB_b]
        cases o.told with
        | false => rw [br_false]; exact go hZ1 ht1' htl
        | true =>
          rw [br_true]
          cases tl with
          | nil => rw [decide_eq_false (by simp), br_false]; exact go hZ1 ht1' htl
          | cons c rest =>
            obtain ⟨q2, o2, e2, e3, rh, hZ2⟩ := hZ1.pop
            subst e2 e3
            have hp : σ1.put σ.next 0 (c3i c) = fun K => K (σ1.set σ.next (.own (c3i c) 37)) := by
              funext K; exact put_all (ws := c3i c) ht1 rfl rfl K
            have hp' : ∀ K : St → Res, σ1.put σ.next 0 [.int .i64 c.1, .int .i64 c.2.1, .int .i64 c.2.2] K = K (σ1.set σ.next (.own (c3i c) 37)) := fun K => congrFun hp K
            have hZ3 := hZ2.keep (σ' := σ1.set σ.next (.own (c3i c) 37)) (Same.set _ _ _)
            rw [decide_eq_true (by simp), br_true, need_of (by simp [inRange]), adr_some, rh, show c3i c = [.int .i64 c.1, .int .i64 c.2.1, .int .i64 c.2.2] from rfl, uncons_c, asI_i, uncons_c, asI_i, uncons_c, asI_i, endl_n, hp', need_of (show (Nat.beq 3 0 || Nat.beq 3 3) = true from rfl), need_of (by simp [inRange]; omega)]
            have := go hZ3 (get_set_same _ _ _) (by simp at htl; omega)
            exact this
      rw [show (o.kind == 2) = false by simpa using k2, br_false]
      by_cases k3 : o.kind = 3
      · have hl := hI.len
        have hfl := hI.left
        obtain ⟨v, σ1, g1, adO1, zO1, qO1, F1, x1, s1, rfl, r1, hS1, hT1, n1, ha⟩ := tick_spec h1 L (k + 1) hL (by omega) (by omega)
        obtain ⟨hI1, hx1⟩ := hI.ticked ha
        obtain ⟨hJ1, hO1⟩ := hJ.ticked hI ha
        obtain ⟨hZ1, _⟩ := Z.call h1 h2 h4 h5 h6 hS1 r1 hT1 n1
        obtain ⟨ad', z', σ3, g3, hZ3⟩ := hZ1.grow (by omega) hx1
        have hf := fin L (k + 4) n hL (some ⟨q0, 0, none⟩) sc hZ3 hJ1 hO1 hH hvl hx1 sc.length i rfl
        rw [hw] at hf
        obtain ⟨σ9, e9⟩ := safe_loop L k hL hlen hfew hH0 n (i + 1) (by omega) (by omega) hZ3 hJ1 hI1 hH hvl (by rw [List.length_append]; omega)
        rw [show (o.kind == 3) = true by simpa using k3, br_true, g1, bnd_some, asSl_s]
        have hd : decide (x1 ≠ []) = decide ((x1.length : Int) > 0) := by
          cases x1 with
          | nil => rfl
          | cons c r => rw [decide_eq_true (by simp), decide_eq_true (by simp)]
        cases late with
        | true => rw [br_true]; exact ⟨σ9, (g3 _).trans (hf.trans e9)⟩
        | false =>
          rw [Bool.false_or, hd] at hf e9
          rw [br_false]; exact ⟨σ9, (g3 _).trans (hf.trans e9)⟩
      · have hZ1 := hZ.blank
        obtain ⟨ad', z', σ3, g3, hZ3⟩ := hZ1.grow (by omega) (by simp)
        have hf := fin L (k + 4) n hL (some ⟨q0, 0, none⟩) sc hZ3 hJ (Okay.idle (s := s)) hH hvl (by simp) sc.length i rfl
        rw [hw] at hf
        obtain ⟨σ9, e9⟩ := safe_loop L k hL hlen hfew hH0 n (i + 1) (by omega) (by omega) hZ3 hJ hI hH hvl (by rw [List.length_append]; simp; omega)
        rw [show (o.kind == 3) = false by simpa using k3, br_false]
        exact ⟨σ9, (g3 _).trans (hf.trans e9)⟩

theorem safe_holds (L k : Nat) (hL : 2000 < L) {σ0 : St} {ad0 : Option Addr} {sc : List (Op σ0)} (hH0 : Holds σ0 6 c6 ad0 sc) : ∃ σ', evCall Try.prog env L (k + 6) 5 [.slice ad0 sc.length 0] σ0 = some (.bool true, σ') := by
  rw [f5_eq]
  have hend : ∀ σ2, ∃ σ', (bnd (evCall Try.prog env L (k + 5) 7 [] σ2) fun v10 v11 => asB v10 fun v12 => some (Value.bool v12, v11)) = some (.bool true, σ') := by
    intro σ2
    obtain ⟨σ3, g3, _⟩ := awake_spec L k hL σ2
    rw [g3, bnd_some, asB_b]; exact ⟨σ3, rfl⟩
  obtain ⟨σ2, g2, hs2⟩ := awake_spec L k hL σ0
  have hO2 := (Owns.start σ0).idle hs2
  rw [g2, bnd_some, asB_b, not_true, br_false]
  obtain ⟨b, g3, hb⟩ := few_spec L (k + 4) (by omega) hH0 hO2.kept
  rw [g3, bnd_some, asB_b]
  cases b with
  | false => rw [not_false, br_true]; exact hend σ2
  | true =>
  rw [not_true, br_false]
  obtain ⟨h1, h2⟩ := hb rfl
  obtain ⟨hS3, hs3⟩ := new_rnd σ2
  have n3 : (σ2.new (.own (hd zero none 0 none) 28)).next = σ2.next + 1 := rfl
  have hO3 := hO2.more hs3 (F := [σ2.next]) (by simp [n3])
  have e3 : σ2.new (Blk.own [Value.int .i64 0, Value.int .i64 0, Value.slice none 0 0, Value.int .i64 0, Value.map none, Value.int .i64 0, Value.bool false, Value.int .i64 0, Value.bool false] 28) = σ2.new (.own (hd zero none 0 none) 28) := rfl
  rw [e3]
  generalize σ2.new (.own (hd zero none 0 none) 28) = σ3 at hS3 hs3 n3 hO3
  have e4 : ([Value.bool false, Value.bool false, Value.bool false, Value.bool false] : List Value) = bs [false, false, false, false] := rfl
  rw [e4]
  have s4 := Same.new σ3 (.own (bs [false, false, false, false]) 4) []
  have g4 : (σ3.new (.own (bs [false, false, false, false]) 4)).get σ3.next = some (.own (bs [false, false, false, false]) 4) := get_new_same _ _
  have n4 : (σ3.new (.own (bs [false, false, false, false]) 4)).next = σ3.next + 1 := rfl
  have hO4 := hO3.more s4 (F := [σ3.next]) (by simp [n4])
  generalize σ3.new (.own (bs [false, false, false, false]) 4) = σ4 at s4 g4 n4 hO4
  have s5 := Same.new σ4 (.own (bs [false, false, false, false]) 4) []
  have g5 : (σ4.new (.own (bs [false, false, false, false]) 4)).get σ4.next = some (.own (bs [false, false, false, false]) 4) := get_new_same _ _
  have n5 : (σ4.new (.own (bs [false, false, false, false]) 4)).next = σ4.next + 1 := rfl
  have hO5 := hO4.more s5 (F := [σ4.next]) (by simp [n5])
  generalize σ4.new (.own (bs [false, false, false, false]) 4) = σ5 at s5 g5 n5 hO5
  have hO6 := (((hO5.add (S := []) (by simp) (by simp)).add (S := []) (by simp) (by simp)).add (S := []) (by simp) (by simp)).pick [5, 0, 4, 3, 1, 2] (by decide)
  have hZ : Z σ0 σ5 σ2.next zero none 0 [] σ3.next σ4.next [false, false, false, false] [false, false, false, false] none 0 [] [] :=
    ⟨[σ2.next], [], [], (hS3.idle s4).idle s5, ⟨by simp, .inl ⟨rfl, rfl, rfl, rfl⟩⟩, Row.nil _ _ _ _, hO6, by rw [s5.2 _ (by omega) (by simp)]; exact g4, g5⟩
  have hJ : J zero [] [false, false, false, false] [false, false, false, false] false := ⟨rfl, rfl, by simp, fun h => absurd rfl h⟩
  have hI : Inv zero := ⟨fun h => absurd rfl h, fun h => absurd rfl h, by simp [zero], by simp [zero], fun h => absurd rfl h, fun h => absurd rfl h⟩
  exact safe_loop L k hL h1 h2 hH0 L 0 (by omega) (by omega) hZ hJ hI (adv := none) (fun h => absurd rfl h) (by simp) (by simp)
end Go.AM.Rq
