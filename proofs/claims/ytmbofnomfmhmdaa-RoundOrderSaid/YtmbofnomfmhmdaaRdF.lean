/-
  RoundOrder: the answers, the phases, the whole.
-/
import Derived.Test.YtmbofnomfmhmdaaRdE
set_option linter.unusedVariables false
set_option linter.unusedSimpArgs false
namespace Go.AM.Rd
open Go.Proofs

theorem lack_nil {s : RS} {A : List Int} : RS.lack { s with an := A } = [] ↔ ∀ v ∈ s.vols, v ∈ A := by
  unfold RS.lack
  rw [List.filter_eq_nil_iff]
  constructor
  · intro h v hv
    have := h v hv
    simpa using this
  · intro h v hv
    simpa using h v hv

section
variable (L k : Nat) {s0 : Int} {r : Int} {ad1 ad2 : Option Addr} {l : List Int} {N : Nat} {σ0 : St} {a : Nat}

theorem answers_loop {m0 : Nat} (hL : 2000 < L) (hl : l.length ≤ 20) (hg : Good l) (hr0 : r ≠ 0) (p : Int) (hp : p = 1 ∨ p = 2 ∨ p = 3) {ad : Option Addr} {z : Nat} {q : List Nat} {out : List (Int × Int × Int)} (hperm : out.Perm (l.map fun v => (p, v, r))) {mk : Bool} (hmk : p = 3 → mk = true)
    (go : ∀ (σ' : St) (F' q' : List Nat) (ad' : Option Addr) (z' : Nat) (out' : List (Int × Int × Int)) (s' : RS), Rnd σ' a F' s' → Owns σ0 σ' [F', q'] → Row c3i 3 37 σ' ad' z' q' out' →
      ((p ≠ 3 ∧ s'.number = r ∧ s'.vols = l ∧ s'.phase = p + 1 ∧ s'.an = [] ∧ s'.live = true ∧ (p + 1 = 3 → s'.marked = true) ∧ out' = l.map fun v => (p + 1, v, r)) ∨ (p = 3 ∧ out' = [] ∧ s'.done = r ∧ s'.complete = true)) →
      ∃ σ9, lpAt Try.prog env L (k + 5) 4 [true, true, true, true, true, false, true] [] m0 [(0, .int .u16 s0), (1, .slice ad1 l.length 0), (2, .slice ad2 N 0), (7, .pointer (some ⟨a, 0, none⟩)), (8, .slice ad' out'.length z'), (10, .int .i64 (IntKind.wrap .i64 (p + 1)))] σ' = some (.bool true, σ9)) :
    ∀ (n j : Nat) (σ : St) (F : List Nat) (s : RS) (ad3 : Option Addr) (n3 z3 : Nat), j < l.length → l.length - j < n → Rnd σ a F s → Owns σ0 σ [F, q] → Row c3i 3 37 σ ad z q out → s.number = r → s.vols = l → s.phase = p → s.live = true → s.marked = mk → s.an = (out.take j).map (fun x => x.2.1) →
    ∃ σ9, lpAt Try.prog env L (k + 5) 4 [true, true, true, true, true, false, true, false, true, false, true, true, true, true, false, true] [m0] n [(0, .int .u16 s0), (1, .slice ad1 l.length 0), (2, .slice ad2 N 0), (7, .pointer (some ⟨a, 0, none⟩)), (8, .slice ad l.length z), (10, .int .i64 p), (14, .slice ad3 n3 z3), (106, .int .i64 l.length), (107, .int .i64 j)] σ = some (.bool true, σ9)
  | 0, j, σ, F, s, ad3, n3, z3, _, h, _, _, _, _, _, _, _, _, _ => by omega
  | n + 1, j, σ, F, s, ad3, n3, z3, hj, h, hS, hO, hR, e1, e2, e3, e4, e5, e6 => by
    rw [f4_l26]
    have hol : out.length = l.length := by rw [hperm.length_eq, List.length_map]
    have hget : out[j]? = some out[j] := List.getElem?_eq_getElem (by omega)
    have hmem := hperm.mem_iff.1 (List.mem_of_getElem? hget)
    obtain ⟨q0, e0, hat⟩ := hR.lds c3i_len hget
    have htk : out.take (j + 1) = out.take j ++ [out[j]] := by rw [List.take_add_one, hget]; rfl
    have hvp : (out.map fun x => x.2.1).Perm l := by
      have := hperm.map (fun x : Int × Int × Int => x.2.1)
      rw [List.map_map] at this
      have hid : (fun x : Int × Int × Int => x.2.1) ∘ (fun v : Int => (p, v, r)) = id := rfl
      rw [hid, List.map_id] at this
      exact this
    have hvn : (out.map fun x => x.2.1).Nodup := hvp.nodup_iff.2 hg.2.1
    generalize hx : out[j] = x at hat hmem htk
    obtain ⟨v, hv, rfl⟩ := List.mem_map.1 hmem
    -- what is told next isn't answered yet
    have hnew : v ∉ s.an := by
      rw [e6]
      have h9 := hvn
      rw [← List.take_append_drop j (out.map fun x => x.2.1), ← List.map_take, ← List.map_drop, List.nodup_append] at h9
      intro hin
      refine h9.2.2 v hin v ?_ rfl
      rw [List.drop_eq_getElem_cons (by omega : j < out.length), hx]
      simp
    have hadd : addTo v s.an = (out.take (j + 1)).map (fun x => x.2.1) := by
      unfold addTo
      rw [if_neg hnew, e6, htk, List.map_append]; rfl
    have hw : IntKind.wrap .i64 ((j : Int) + 1) = ((j + 1 : Nat) : Int) := by rw [wrap_in _ (by omega) (by omega)]; omega
    have hlk : RS.lack { s with an := addTo v s.an } = [] ↔ j + 1 = l.length := by
      rw [lack_nil, hadd, e2]
      constructor
      · intro hall
        by_cases hlt : j + 1 < out.length
        · exfalso
          have hget2 : out[j + 1]? = some out[j + 1] := List.getElem?_eq_getElem hlt
          have hvin : out[j + 1].2.1 ∈ l := hvp.mem_iff.1 (List.mem_map.2 ⟨_, List.mem_of_getElem? hget2, rfl⟩)
          have h8 := hall _ hvin
          have h9 := hvn
          rw [← List.take_append_drop (j + 1) (out.map fun x => x.2.1), ← List.map_take, ← List.map_drop, List.nodup_append] at h9
          exact h9.2.2 _ h8 out[j + 1].2.1 (List.mem_map.2 ⟨out[j + 1], by rw [List.drop_eq_getElem_cons hlt]; exact List.mem_cons_self, rfl⟩) rfl
        · omega
      · intro hje u hu
        rw [show j + 1 = out.length by omega, List.take_length]
        exact hvp.mem_iff.2 hu
    rcases answer_spec hS L k hL (by rw [e2]; omega) (fun _ => by rw [e3]; exact hp) (fun _ => e4) (p, v, r) with ⟨_, _, _, _, adO, zO, qO, F', out', s', σ1, g1, hO1, hR1, hT1, hq1, hans⟩ | ⟨hno, _⟩
    case inr => exact absurd ⟨by rw [e1]; exact hr0, e1.symm, e3.symm, by rw [e2]; exact hv⟩ hno
    rw [decide_eq_true (by omega), br_true, need_of (by simp [inRange]; omega), e0, adr_some, hat _ (by simp), show c3i (p, v, r) = [.int .i64 p, .int .i64 v, .int .i64 r] from rfl, uncons_c, asI_i, uncons_c, asI_i, uncons_c, asI_i, endl_n]
    have g1' : evCall Try.prog env L (k + 5) 13 [Value.pointer (some { block := a, off := 0 }), Value.agg #[Value.int .i64 p, Value.int .i64 v, Value.int .i64 r]] σ = some (.tuple #[.slice adO out'.length zO, .nilIface], σ1) := g1
    have hoff := hO.off 1 0 (by omega) rfl rfl
    rw [g1', bnd_some, asT_t, toList2, uncons_c, asSl_s, uncons_c, endl_n, eqNil_nil, not_true, br_false]
    by_cases hlast : j + 1 = l.length
    · -- the last one
      have hlk0 := hlk.2 hlast
      rcases hans with ⟨hne, _⟩ | ⟨_, hans⟩
      · exact absurd hlk0 hne
      obtain ⟨n', rfl⟩ : ∃ n', n = n' + 1 := ⟨n - 1, by omega⟩
      have hO2 : Owns σ0 σ1 [F', qO] := owns_told hO hT1 (fun x hx => hq1 x hx) hO1.lt
      have fin : ∃ σ9, lpAt Try.prog env L (k + 5) 4 [true, true, true, true, true, false, true, false, true, false, true, true, true, true, false, true] [m0] (n' + 1) [(0, .int .u16 s0), (1, .slice ad1 l.length 0), (2, .slice ad2 N 0), (7, .pointer (some ⟨a, 0, none⟩)), (8, .slice ad l.length z), (10, .int .i64 p), (14, .slice adO out'.length zO), (106, .int .i64 l.length), (107, .int .i64 (IntKind.wrap .i64 ((j : Int) + 1)))] σ1 = some (.bool true, σ9) := by
        rw [e0, f4_l26, hw, decide_eq_false (by omega), br_false]
        refine go σ1 F' qO adO zO out' s' hR1 hO2 hO1 ?_
        rcases hans with ⟨h1, h2, h3⟩ | ⟨h1, h2, h3⟩ | ⟨h1, h2, h3⟩
        · rw [e3] at h1
          refine .inl ⟨by omega, by rw [h3]; exact e1, by rw [h3]; exact e2, by rw [h3, h1]; rfl, by rw [h3], by rw [h3], fun h => by omega, by rw [h2, e2, e1, h1]; rfl⟩
        · rw [e3] at h1
          refine .inl ⟨by omega, by rw [h3]; exact e1, by rw [h3]; exact e2, by rw [h3, h1]; rfl, by rw [h3], by rw [h3], fun h => by rw [h3], by rw [h2, e2, e1, h1]; rfl⟩
        · rw [e3] at h1
          exact .inr ⟨h1, h2, by rw [h3]; exact e1, by rw [h3]; show s.marked = true; rw [e5, hmk h1]⟩
      rw [e0] at fin
      by_cases hpos : (out'.length : Int) > 0
      · rw [decide_eq_true hpos, br_true, wrap_in ((l.length : Int) - 1) (by omega) (by omega), decide_eq_false (by omega), br_false]
        exact fin
      · rw [decide_eq_false hpos, br_false]
        exact fin
    · rcases hans with ⟨_, h1, h2⟩ | ⟨hnil, _⟩
      case inr => exact absurd (hlk.1 hnil) hlast
      subst h1
      subst h2
      have hO2 : Owns σ0 σ1 [F', q] := hO.turned 0 rfl hT1
      have := answers_loop hL hl hg hr0 p hp hperm hmk go n (j + 1) σ1 F' _ adO 0 zO (by omega) (by omega) hR1 hO2 (hR.same hT1.same hoff) e1 e2 e3 e4 e5 hadd
      rw [e0] at this
      rw [decide_eq_false (by simp), br_false, hw]
      exact this

theorem order_loop (hL : 2000 < L) (hl : l.length ≤ 20) (hg : Good l) (hr0 : r ≠ 0) (hH : Holds σ0 1 c1 ad1 l) {ord : List U64} (hN : ord.length ≤ 50) (hH2 : Holds σ0 1 cu64 ad2 ord) (hr : IntKind.wrap .i64 ((1 : Int) + IntKind.wrap .i64 s0) = r) :
    ∀ (n : Nat) (p : Int) (σ : St) (F q : List Nat) (ad : Option Addr) (z : Nat) (out : List (Int × Int × Int)) (s : RS), 1 ≤ p → 4 - p < n → Rnd σ a F s → Owns σ0 σ [F, q] → Row c3i 3 37 σ ad z q out →
      ((p ≤ 3 ∧ s.number = r ∧ s.vols = l ∧ s.phase = p ∧ s.an = [] ∧ s.live = true ∧ (p = 3 → s.marked = true) ∧ out = l.map fun v => (p, v, r)) ∨ (p = 4 ∧ out = [] ∧ s.done = r ∧ s.complete = true)) →
      ∃ σ9, lpAt Try.prog env L (k + 5) 4 [true, true, true, true, true, false, true] [] n [(0, .int .u16 s0), (1, .slice ad1 l.length 0), (2, .slice ad2 ord.length 0), (7, .pointer (some ⟨a, 0, none⟩)), (8, .slice ad out.length z), (10, .int .i64 p)] σ = some (.bool true, σ9)
  | 0, p, σ, F, q, ad, z, out, s, _, h, _, _, _, hor => by
    rcases hor with ⟨h1, _⟩ | ⟨h1, _⟩
    · omega
    · omega
  | n + 1, p, σ, F, q, ad, z, out, s, hp1, h, hS, hO, hR, hor => by
    rw [f4_l8]
    rcases hor with ⟨h1, h2, h3, h4, h5, h6, h7, h8⟩ | ⟨h1, h2, h3, h4⟩
    · have hol : out.length = l.length := by rw [h8, List.length_map]
      have hlp : 0 < l.length := List.length_pos_iff.2 hg.2.2
      rw [decide_eq_true h1, br_true, hol, show ((l.length : Int) != (l.length : Int)) = false by simp, br_false]
      rw [h8] at hR
      refine same_loop L k hl hH hr p hO.kept hR ?_ L 0 (by omega) (by omega)
      have hml : (l.map fun v => (p, v, r)).length = l.length := List.length_map _
      have mix := mix_loop (s0 := s0) (ad1 := ad1) (ln := l.length) L k (m0 := n) hN hH2 p (F := F) (q := q) (s := s) (a := a) (ad := ad) (z := z) (out0 := l.map fun v => (p, v, r)) (by omega) (by omega) (fun σ' out' hS' hO' hR' hperm => by
        rw [hml]
        have hol' : out'.length = l.length := by rw [hperm.length_eq, hml]
        refine answers_loop L k hL hl hg hr0 p (by omega) hperm (mk := s.marked) h7 (fun σ2 F2 q2 ad2' z2 out2 s2 k1 k2 k3 k4 => ?_) L 0 σ' F s none 0 0 hlp (by omega) hS' hO' hR' h2 h3 h4 h6 rfl (by rw [h5]; rfl)
        rw [wrap_in (p + 1) (by omega) (by omega)]
        refine order_loop hL hl hg hr0 hH hN hH2 hr n (p + 1) σ2 F2 q2 ad2' z2 out2 s2 (by omega) (by omega) k1 k2 k3 ?_
        rcases k4 with ⟨c0, c1', c2, c3, c4, c5, c6, c7⟩ | ⟨c0, c1', c2, c3⟩
        · exact .inl ⟨by omega, c1', c2, c3, c4, c5, c6, c7⟩
        · exact .inr ⟨by omega, c1', c2, c3⟩) L 0 σ (l.map fun v => (p, v, r)) (by omega) (by omega) hS hO hR (List.Perm.refl _)
      rw [hml] at mix
      exact mix
    · subst h1; subst h2
      rw [show decide ((4 : Int) ≤ 3) = false from rfl, br_false, done_spec hS L (k + 4), bnd_some, asT_t, toList2, uncons_c, asI_i, uncons_c, asB_b, endl_n, show ((((([] : List (Int × Int × Int)).length : Nat)) : Int) == 0) = true from rfl, br_true, hr, h3, h4, show (r == r) = true by simp, br_true]
      exact ⟨σ, rfl⟩
end

theorem order {σ0 : St} {ad1 ad2 : Option Addr} {l : List Int} {ord : List U64} (hH : Holds σ0 1 c1 ad1 l) (hH2 : Holds σ0 1 cu64 ad2 ord) (r : Int) (h1 : 0 ≤ r ∧ r ≤ 65535) : ∃ σ', evCall Try.prog env 10000 12 4 [.int .u16 r, .slice ad1 l.length 0, .slice ad2 ord.length 0] σ0 = some (.bool true, σ') := by
  rw [f4_eq]
  obtain ⟨σ2, g2, hs2⟩ := awake_spec 10000 6 (by omega) σ0
  have hO2 : Owns σ0 σ2 [] := (Owns.start σ0).idle hs2
  have hend : ∃ σ', (bnd (evCall Try.prog env 10000 11 7 [] σ2) fun v10 v11 => asB v10 fun v12 => some (Value.bool v12, v11)) = some (.bool true, σ') := by
    obtain ⟨σ3, g3, _⟩ := awake_spec 10000 6 (by omega) σ2
    rw [g3, bnd_some, asB_b]; exact ⟨σ3, rfl⟩
  rw [g2, bnd_some, asB_b, not_true, br_false]
  by_cases hl : (l.length : Int) > 20
  · rw [decide_eq_true hl, br_true]; exact hend
  rw [decide_eq_false hl, br_false]
  by_cases hN : (ord.length : Int) > 50
  · rw [decide_eq_true hN, br_true]; exact hend
  rw [decide_eq_false hN, br_false]
  obtain ⟨hR3, hs3⟩ := new_rnd σ2
  rw [show hd zero none 0 none = [Value.int .i64 0, .int .i64 0, .slice none 0 0, .int .i64 0, .map none, .int .i64 0, .bool false, .int .i64 0, .bool false] from rfl] at hR3 hs3
  generalize σ2.new (Blk.own [Value.int .i64 0, .int .i64 0, .slice none 0 0, .int .i64 0, .map none, .int .i64 0, .bool false, .int .i64 0, .bool false] 28) = σ3 at hR3 hs3
  have hO3 : Owns σ0 σ3 [[σ2.next]] := hO2.more hs3 (fun q hq => by simp at hq; subst hq; exact ⟨Nat.le_refl _, hR3.lt _ (by simp)⟩)
  obtain ⟨q, hsrc, hql⟩ := src_of hH hO3.kept
  have e1 : IntKind.wrap .i64 ((1 : Int) + IntKind.wrap .i64 r) = 1 + r := by rw [wrap_in r (by omega) (by omega), wrap_in _ (by omega) (by omega)]
  rcases begin_spec hR3 10000 7 (by omega) (1 + r) (z := 0) (by omega) hsrc (fun h => by have := hql h; have := hs2.1; simp; omega) with ⟨_, _, hgood, adO, zO, qO, F', σ4, g4, hO4, hR4, hT4, hq4⟩ | ⟨hno, v, σ4, g4, hs4⟩
  · rw [e1, g4, bnd_some, asT_t, toList2, uncons_c, asSl_s, uncons_c, endl_n, eqNil_nil, not_true, br_false]
    have := order_loop 10000 6 (by omega) (by omega) hgood (by omega) hH (by omega) hH2 e1 10000 1 σ4 F' qO adO zO _ _ (by omega) (by omega) hR4 (owns_told hO3 hT4 hq4 hO4.lt) hO4 (.inl ⟨by omega, rfl, rfl, rfl, rfl, rfl, fun h => by omega, rfl⟩)
    rw [List.length_map] at this
    exact this
  · rw [e1, g4, bnd_some, asT_t, toList2, uncons_c, asSl_s, uncons_c, endl_n, eqNil_iface, not_false, br_true]
    exact ⟨σ4, rfl⟩

theorem uintOf {σ : St} {row : List Value} (h : Img Try.prog σ 43 row) : ∃ n : U64, row = cu64 n := by
  obtain ⟨n, w0, v0⟩ := Img.int_inv Try.underlying43 h
  exact ⟨⟨n, wf_u64 v0⟩, w0⟩

end Go.AM.Rd
