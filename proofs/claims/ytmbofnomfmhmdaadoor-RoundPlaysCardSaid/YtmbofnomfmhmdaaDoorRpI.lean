/-
  RoundPlays, in plain words: the script.
-/
import Derived.Test.YtmbofnomfmhmdaaDoorRpH
set_option linter.unusedVariables false
set_option linter.unusedSimpArgs false
set_option linter.unusedSectionVars false
namespace Go.AM.Rp
open Go.Proofs

structure Op (σ0 : St) where
  kind : Int
  ck : Int
  cv : Int
  cn : Int
  ad : Option Addr
  l : List Int
  told : Bool
  hs : Holds σ0 1 c1 ad l
def c6 {σ0 : St} (o : Op σ0) : List Value := [.int .i64 o.kind, .int .i64 o.ck, .int .i64 o.cv, .int .i64 o.cn, .slice o.ad o.l.length 0, .bool o.told]
theorem c6_len {σ0 : St} (o : Op σ0) : (c6 o).length = 6 := rfl

theorem intOf {σ : St} {row : List Value} (h : Img Tryd.prog σ 3 row) : ∃ n : Int, row = c1 n := by
  obtain ⟨n, h1, _⟩ := Img.int_inv Tryd.underlying3 h
  exact ⟨n, h1⟩
set_option maxRecDepth 20000 in
theorem cmdOf {σ : St} {row : List Value} (h : Img Tryd.prog σ 36 row) : ∃ c : Int × Int × Int, row = c3i c := by
  obtain ⟨h1, h2⟩ := h.struct_inv Tryd.underlying36
  have hl : row.length = 3 := by rw [h1]; kernel_rfl
  match row, hl with
  | [x, y, z], _ =>
    have hx := h2 _ (List.mem_of_getElem? (i := 0) rfl)
    have hy := h2 _ (List.mem_of_getElem? (i := 1) rfl)
    have hz := h2 _ (List.mem_of_getElem? (i := 2) rfl)
    have e3 : Tryd.prog.cellsOf 3 = 1 := by kernel_rfl
    simp only [e3] at hx hy hz
    obtain ⟨n0, w0, v0⟩ := Img.int_inv Tryd.underlying3 hx
    obtain ⟨n1, w1, v1⟩ := Img.int_inv Tryd.underlying3 hy
    obtain ⟨n2, w2, v2⟩ := Img.int_inv Tryd.underlying3 hz
    simp at w0 w1 w2
    exact ⟨(n0, n1, n2), by rw [w0, w1, w2]; rfl⟩
set_option maxRecDepth 20000 in
theorem opOf {ads : List Addr} {W : World} {row : List Value} (h : Img Tryd.prog (stOfD ads W) 38 row) : ∃ o : Op (stOfD ads W), row = c6 o := by
  obtain ⟨h1, h2⟩ := h.struct_inv Tryd.underlying38
  have hl : row.length = 6 := by rw [h1]; kernel_rfl
  match row, hl with
  | [x, r0, r1, r2, s, b], _ =>
    have hx := h2 _ (List.mem_of_getElem? (i := 0) rfl)
    have hr := h2 _ (List.mem_of_getElem? (i := 1) rfl)
    have hs := h2 _ (List.mem_of_getElem? (i := 2) rfl)
    have hb := h2 _ (List.mem_of_getElem? (i := 3) rfl)
    have e3 : Tryd.prog.cellsOf 3 = 1 := by kernel_rfl
    have e36 : Tryd.prog.cellsOf 36 = 3 := by kernel_rfl
    have e26 : Tryd.prog.cellsOf 26 = 1 := by kernel_rfl
    have e4 : Tryd.prog.cellsOf 4 = 1 := by kernel_rfl
    simp only [e3] at hx
    simp only [e36] at hr
    simp only [e26] at hs
    simp only [e4] at hb
    obtain ⟨n0, w0, v0⟩ := Img.int_inv Tryd.underlying3 hx
    obtain ⟨r, w2⟩ := cmdOf hr
    obtain ⟨c, w3⟩ := Img.bool_inv Tryd.underlying4 hb
    obtain ⟨l, ad, w1, _, hH⟩ := Img.holdsD (sz := 1) (α := Int) Tryd.underlying26 (show Img Tryd.prog (stOfD ads W) 26 [s] from hs) c1 (fun row hr => intOf hr) (fun _ => rfl) (by kernel_rfl)
    simp [c3i] at w0 w2 w3
    obtain ⟨a0, a1, a2⟩ := w2
    exact ⟨⟨n0, r.1, r.2.1, r.2.2, ad, l, c, hH⟩, by rw [w0, w1, w3, a0, a1, a2]; rfl⟩

theorem few_loop (L k : Nat) {σ0 σ : St} {ad : Option Addr} {l : List (Op σ0)} (hl : l.length ≤ 300) (hH : Holds σ0 6 c6 ad l) (hK : Kept' σ0.next σ0 σ) : ∀ (n i : Nat), i ≤ l.length → l.length - i < n → (∀ (j : Nat) (o : Op σ0), j < i → l[j]? = some o → o.l.length ≤ 20) →
    ∃ b, lpAt Tryd.prog env L k 6 [true, true, false, true] [] n [(0, .slice ad l.length 0), (8, .int .i64 l.length), (9, .int .i64 i)] σ = some (.bool b, σ) ∧ (b = true → ∀ (j : Nat) (o : Op σ0), l[j]? = some o → o.l.length ≤ 20)
  | 0, i, _, h, _ => by omega
  | n + 1, i, h1, h2, h3 => by
    rw [f6_l4]
    by_cases hi : i = l.length
    · rw [decide_eq_false (by omega), br_false]
      exact ⟨true, rfl, fun _ j o hj => h3 j o (by have := (List.getElem?_eq_some_iff.1 hj).1; omega) hj⟩
    · have hget : l[i]? = some l[i] := List.getElem?_eq_getElem (by omega)
      obtain ⟨q0, e0, hat⟩ := hH.ld hK hget
      generalize l[i] = o at hat hget
      rw [decide_eq_true (by omega), br_true, need_of (by simp [inRange]; omega), e0, adr_some, hat 4 (.slice o.ad o.l.length 0) _ (by omega) rfl (by omega), asSl_s]
      by_cases hc : ((o.l.length : Int)) > 20
      · rw [decide_eq_true hc, br_true]; exact ⟨false, rfl, by simp⟩
      · rw [decide_eq_false hc, br_false, wrap_in _ (by omega) (by omega), ← e0]
        exact few_loop L k hl hH hK n (i + 1) (by omega) (by omega) (fun j o' hj hjo => by
          by_cases hji : j = i
          · subst hji; rw [hget] at hjo; cases hjo; omega
          · exact h3 j o' (by omega) hjo)
theorem few_spec (L k : Nat) (hL : 400 < L) {σ0 σ : St} {ad : Option Addr} {l : List (Op σ0)} (hH : Holds σ0 6 c6 ad l) (hK : Kept' σ0.next σ0 σ) :
    ∃ b, evCall Tryd.prog env L (k + 1) 6 [.slice ad l.length 0] σ = some (.bool b, σ) ∧ (b = true → l.length ≤ 300 ∧ ∀ (j : Nat) (o : Op σ0), l[j]? = some o → o.l.length ≤ 20) := by
  rw [f6_eq]
  by_cases h : (l.length : Int) > 300
  · rw [decide_eq_true h, br_true]; exact ⟨false, rfl, by simp⟩
  · rw [decide_eq_false h, br_false]
    obtain ⟨b, hb, hb2⟩ := few_loop L k (by omega) hH hK L 0 (by omega) (by omega) (fun j o hj => by omega)
    exact ⟨b, hb, fun h => ⟨by omega, hb2 h⟩⟩

set_option maxRecDepth 20000 in
theorem plays (L k : Nat) (hL : 2000 < L) {σ0 : St} {ad : Option Addr} {sp : List (Op σ0)} (hlen : sp.length ≤ 300) (hsm : ∀ (j : Nat) (o : Op σ0), sp[j]? = some o → o.l.length ≤ 20) (hH : Holds σ0 6 c6 ad sp) {a b : Nat} : ∀ (n i : Nat) (σ : St) (s : RS) (ad5 : Option Addr) (z5 n5 : Nat) (R : List Nat),
    i ≤ sp.length → sp.length - i < n → Two σ0 σ a b s ad5 z5 n5 R → n5 ≤ 20 * i →
    ∃ σ9, lpAt Tryd.prog env L (k + 5) 3 P6 [] n [(0, .slice ad sp.length 0), (3, pt a), (4, pt b), (5, .slice ad5 n5 z5), (37, .int .i64 sp.length), (38, .int .i64 i)] σ = some (.bool true, σ9)
  | 0, i, σ, s, ad5, z5, n5, R, _, h, _, _ => by omega
  | n + 1, i, σ, s, ad5, z5, n5, R, hi, h, hT, hn => by
    rw [f3_l6]
    by_cases hie : i = sp.length
    · rw [decide_eq_false (by omega), br_false]
      exact ⟨σ, rfl⟩
    · have hget : sp[i]? = some sp[i] := List.getElem?_eq_getElem (by omega)
      obtain ⟨F, G, q5, hS, hR, hTo, hO⟩ := hT.ex
      obtain ⟨q0, e0, hlds⟩ := hH.lds hO.kept c6_len hget
      have hsm' := hsm i _ hget
      generalize sp[i] = o at hlds hsm'
      rw [decide_eq_true (by omega), br_true, need_of (by simp [inRange]; omega), e0, adr_some, hlds 0 6 (0 + (i : Int).toNat * 6) (by omega) (by simp), show ((c6 o).drop 0).take 6 = c6 o from rfl]
      unfold c6
      rw [uncons_c, asI_i, uncons_c, asI_i, uncons_c, asI_i, uncons_c, asI_i, uncons_c, asSl_s, uncons_c, asB_b, endl_n]
      obtain ⟨σ1, hput, ht1, s1, n1⟩ := tmp_put σ [Value.int IntKind.i64 0, Value.int IntKind.i64 0, Value.int IntKind.i64 0, Value.int IntKind.i64 0, Value.slice none 0 0, Value.bool false] [Value.int IntKind.i64 o.kind, Value.int IntKind.i64 o.ck, Value.int IntKind.i64 o.cv, Value.int IntKind.i64 o.cn, Value.slice o.ad o.l.length 0, Value.bool o.told] 38 rfl rfl
      rw [hput, lds_own _ ht1 (by simp), show (List.drop 1 [Value.int IntKind.i64 o.kind, Value.int IntKind.i64 o.ck, Value.int IntKind.i64 o.cv, Value.int IntKind.i64 o.cn, Value.slice o.ad o.l.length 0, Value.bool o.told]).take 3 = [Value.int IntKind.i64 o.ck, Value.int IntKind.i64 o.cv, Value.int IntKind.i64 o.cn] from rfl, uncons_c, asI_i, uncons_c, asI_i, uncons_c, asI_i, endl_n]
      obtain ⟨σ2, hput2, ht2, s2, n2⟩ := tmp_put σ1 [Value.int IntKind.i64 0, Value.int IntKind.i64 0, Value.int IntKind.i64 0] [Value.int IntKind.i64 o.ck, Value.int IntKind.i64 o.cv, Value.int IntKind.i64 o.cn] 36 rfl rfl
      have ht1' : σ2.get σ.next = _ := (s2.2 σ.next (by omega) (by simp)).trans ht1
      have s12 := s1.trans s2
      have hO2 : Owns σ0 σ2 [F, G, q5, [σ.next, σ1.next]] := (hO.more s12 (F := [σ.next, σ1.next]) (fun q hq => by simp at hq; omega)).pick [1, 2, 3, 0] (by decide)
      have hS2 := hS.idle s12
      have hR2 := hR.idle s12
      have hTo2 := hTo.same s12 (by simp)
      have hw : IntKind.wrap .i64 ((i : Int) + 1) = ((i + 1 : Nat) : Int) := by rw [wrap_in _ (by omega) (by omega)]; omega
      have hrec : ∀ (σ' : St) (s' : RS) (ad' : Option Addr) (z' n' : Nat), Two σ0 σ' a b s' ad' z' n' [σ.next, σ1.next] → n' ≤ 20 * (i + 1) →
          ∃ σ9, lpAt Tryd.prog env L (k + 5) 3 P6 [] n [(0, .slice ad sp.length 0), (3, pt a), (4, pt b), (5, .slice ad' n' z'), (37, .int .i64 sp.length), (38, .int .i64 (IntKind.wrap .i64 ((i : Int) + 1)))] σ' = some (.bool true, σ9) := fun σ' s' ad' z' n' h1 h2 => by
        rw [hw]
        exact plays L k hL hlen hsm hH n (i + 1) σ' s' ad' z' n' _ (by omega) (by omega) h1 h2
      rw [hput2, ← e0, ld_at ht1' 5 _ rfl, asB_b]
      cases hb : o.told with
      | false =>
        rw [hb] at ht1'
        rw [br_false]
        exact sw_ok L k n i hL ⟨⟨F, G, q5, hS2, hR2, hTo2, hO2⟩, hT.inv⟩ (by omega) hn hsm' o.hs ht1' ht2 hrec
      | true =>
        rw [hb] at ht1'
        rw [br_true]
        cases n5 with
        | zero =>
          rw [decide_eq_false (by omega), br_false]
          exact sw_ok L k n i hL ⟨⟨F, G, q5, hS2, hR2, hTo2, hO2⟩, hT.inv⟩ (by omega) hn hsm' o.hs ht1' ht2 hrec
        | succ m =>
          obtain ⟨q, ofs, c, e5, hz, hc, hTo3⟩ := hTo2.head
          have g3 := fun K => put_all (ws := c3i c) ht2 rfl rfl K
          have s3 := Same.set σ2 σ1.next (.own (c3i c) 36)
          have ht23 : (σ2.set σ1.next (.own (c3i c) 36)).get σ1.next = some (.own (c3i c) 36) := get_set_same _ _ _
          have ht13 : (σ2.set σ1.next (.own (c3i c) 36)).get σ.next = _ := (s3.2 σ.next (by omega) (by simp; omega)).trans ht1'
          have n3 : (σ2.set σ1.next (.own (c3i c) 36)).next = σ2.next := rfl
          have hTn : Turn σ2 (σ2.set σ1.next (.own (c3i c) 36)) [σ.next, σ1.next] [σ.next, σ1.next] := ⟨s3.mono (by simp), fun q hq => ⟨.inl hq, by simp at hq; omega⟩⟩
          generalize σ2.set σ1.next (.own (c3i c) 36) = σ3 at g3 s3 ht23 ht13 n3 hTn
          have hO3 := hO2.turned 3 rfl hTn
          rw [decide_eq_true (by omega), br_true, need_of (by simp [inRange] <;> omega), e5, adr_some, hc, show c3i c = [.int .i64 c.1, .int .i64 c.2.1, .int .i64 c.2.2] from rfl, uncons_c, asI_i, uncons_c, asI_i, uncons_c, asI_i, endl_n]
          rw [show c3i c = [.int .i64 c.1, .int .i64 c.2.1, .int .i64 c.2.2] from rfl] at g3
          rw [g3, need_of (by rw [hz]; rfl), need_of (by simp [inRange]; omega), ← e5]
          exact sw_ok L k n i hL (n5 := m) ⟨⟨F, G, q5, hS2.same hTn.same (hO2.off 0 3 (by omega) rfl rfl), hR2.same hTn.same (hO2.off 1 3 (by omega) rfl rfl), hTo3.same hTn.same (hO2.off 2 3 (by omega) rfl rfl), hO3⟩, hT.inv⟩ (by omega) (by omega) hsm' o.hs ht13 ht23 hrec

theorem plays_holds (L k : Nat) (hL : 2000 < L) {σ : St} {ad : Option Addr} {sp : List (Op σ)} (hH : Holds σ 6 c6 ad sp) :
    ∃ σ9, evCall Tryd.prog env L (k + 6) 3 [.slice ad sp.length 0] σ = some (.bool true, σ9) := by
  rw [f3_eq]
  have hk0 : Kept' σ.next σ σ := ⟨Nat.le_refl _, fun _ _ => rfl⟩
  obtain ⟨σ1, g1, s1⟩ := awake_spec L k hL σ
  have hk1 := hk0.step s1 (by simp)
  rw [g1, bnd_some, asB_b, not_true, br_false]
  obtain ⟨x, hx, hx2⟩ := few_spec L (k + 4) (by omega) hH hk1
  rw [hx, bnd_some, asB_b]
  cases x with
  | false =>
    obtain ⟨σ2, g2, _⟩ := awake_spec L k hL σ1
    rw [not_false, br_true, g2, bnd_some, asB_b]
    exact ⟨σ2, rfl⟩
  | true =>
    obtain ⟨hlen, hsm⟩ := hx2 rfl
    rw [not_true, br_false]
    obtain ⟨hS2, s2⟩ := new_rnd σ1
    rw [show hd zero none 0 none = [Value.int .i64 0, .int .i64 0, .slice none 0 0, .int .i64 0, .map none, .int .i64 0, .bool false, .int .i64 0, .bool false] from rfl] at hS2 s2
    have n2 : (σ1.new (Blk.own [Value.int .i64 0, .int .i64 0, .slice none 0 0, .int .i64 0, .map none, .int .i64 0, .bool false, .int .i64 0, .bool false] 29)).next = σ1.next + 1 := rfl
    generalize σ1.new (Blk.own [Value.int .i64 0, .int .i64 0, .slice none 0 0, .int .i64 0, .map none, .int .i64 0, .bool false, .int .i64 0, .bool false] 29) = σ2 at hS2 s2 n2
    have s3 : Same σ2 (σ2.new (.own (rhd zero none 0 none 0) 33)) [] := Same.new _ _ _
    have hR3 : Ref (σ2.new (.own (rhd zero none 0 none 0) 33)) σ2.next [σ2.next] zero := ⟨⟨[], [], none, 0, none, 0, rfl, by simp, by simp, by simp, get_new_same _ _, Row.nil _ _ _ _, Row.nil _ _ _ _⟩, by simp⟩
    have n3 : (σ2.new (.own (rhd zero none 0 none 0) 33)).next = σ2.next + 1 := rfl
    rw [show rhd zero none 0 none 0 = [Value.int .i64 0, .int .i64 0, .slice none 0 0, .int .i64 0, .slice none 0 0, .int .i64 0, .bool false, .int .i64 0, .bool false] from rfl] at s3 hR3 n3
    generalize σ2.new (Blk.own [Value.int .i64 0, .int .i64 0, .slice none 0 0, .int .i64 0, .slice none 0 0, .int .i64 0, .bool false, .int .i64 0, .bool false] 33) = σ3 at s3 hR3 n3
    have hO1 : Owns σ σ1 [[], []] := ⟨hk1, by simp, fun i j F G _ hi hj q hq => by
      have : F = [] := by
        match i, hi with
        | 0, hi => simpa using hi.symm
        | 1, hi => simpa using hi.symm
        | i + 2, hi => simp at hi
      rw [this] at hq; simp at hq⟩
    have hO2 := hO1.more s2 (F := [σ1.next]) (fun q hq => by simp at hq; subst hq; omega)
    have hO3 := hO2.more s3 (F := [σ2.next]) (fun q hq => by simp at hq; subst hq; omega)
    exact plays L k hL hlen hsm hH L 0 σ3 zero none 0 0 [] (by omega) (by omega) ⟨⟨[σ1.next], [σ2.next], [], hS2.idle s3, hR3, ⟨by simp, .inl ⟨rfl, rfl, rfl, rfl⟩⟩, hO3.pick [1, 0, 2, 3] (by decide)⟩, .zero⟩ (by omega)
end Go.AM.Rp
