/-
  RoundTimes, in plain words: a round that nobody answers is told to thaw behind so many ticks, and once more behind each so many.
-/
import Derived.Test.YtmbofnomfmhmdaaRdB
import Derived.Test.YtmbofnomfmhmdaaAm17
set_option linter.unusedVariables false
set_option linter.unusedSimpArgs false
namespace Go.AM.Rd
open Go.Proofs

theorem times_loop (L k : Nat) (hL : 2000 < L) {ad1 : Option Addr} {l : List Int} (hl : l.length ≤ 20) (hl0 : l ≠ []) {a : Nat} {s0 r : Int} (hr : IntKind.wrap .i64 ((1 : Int) + IntKind.wrap .i64 s0) = r) (hr1 : r ≠ 0) {N : Nat} (hN : N ≤ 40) : ∀ (n i : Nat) (σ : St) (F : List Nat) (s : RS),
    i ≤ N → N - i < n → Rnd σ a F s → s.number = r → s.vols = l → s.an = [] → s.done = 0 → s.complete = false → s.left = 6 - ((i % 6 : Nat) : Int) →
    ∃ σ9, lpAt Try.prog env L (k + 4) 3 [true, true, true, true, true, false, true] [] n [(0, .int .u16 s0), (1, .slice ad1 l.length 0), (7, .pointer (some ⟨a, 0, none⟩)), (45, .int .i64 N), (46, .int .i64 i)] σ = some (.bool true, σ9)
  | 0, i, σ, F, s, _, h, _, _, _, _, _, _, _ => by omega
  | n + 1, i, σ, F, s, hi, h, hR, e1, e2, e3, e4, e5, e6 => by
    rw [f3_l8]
    have hlp : 0 < l.length := List.length_pos_iff.2 hl0
    have hlk : s.lack = l := by unfold RS.lack; rw [e2, e3]; simp
    by_cases hie : i = N
    · obtain ⟨v, σ1, g1, ad, z, q, rfl, hO, hs, hq⟩ := lacks_spec L (k + 3) hL hR (by rw [e2]; omega)
      rw [decide_eq_false (by omega), br_false, done_spec hR L (k + 3), bnd_some, asT_t, toList2, uncons_c, asI_i, uncons_c, asB_b, endl_n, e4, e5, show ((0 : Int) == 0) = true from rfl, br_true, not_false, br_true, g1, bnd_some, asSl_s, hlk]
      exact ⟨σ1, by simp⟩
    · obtain ⟨v, σ1, g1, ad, z, q, F1, out, s', rfl, hO, hR1, hT1, hq1, hcase⟩ := tick_spec hR L k hL (by rw [e2]; omega) (by omega)
      have hw : IntKind.wrap .i64 ((i : Int) + 1) = ((i + 1 : Nat) : Int) := by rw [wrap_in _ (by omega) (by omega)]; omega
      have hmod : (Int.tmod ((i + 1 : Nat) : Int) 6 == 0) = decide ((i + 1) % 6 = 0) := by
        rw [show Int.tmod ((i + 1 : Nat) : Int) 6 = (((i + 1) % 6 : Nat) : Int) from rfl]
        by_cases h6 : (i + 1) % 6 = 0
        · rw [decide_eq_true h6, h6]; rfl
        · rw [decide_eq_false h6]; simp only [beq_eq_false_iff_ne]; omega
      have next : ∀ (σ' : St) (F' : List Nat) (s' : RS), Rnd σ' a F' s' → s'.number = r → s'.vols = l → s'.an = [] → s'.done = 0 → s'.complete = false → s'.left = 6 - (((i + 1) % 6 : Nat) : Int) →
          ∃ σ9, (bnd (evCall Try.prog env L (k + 4) 9 [Value.pointer (some { block := a, off := 0 })] σ') fun v13 v14 => asI .i64 v13 fun v15 => br (v15 != IntKind.wrap .i64 ((1 : Int) + IntKind.wrap .i64 s0)) (some (Value.bool false, v14)) (lpAt Try.prog env L (k + 4) 3 [true, true, true, true, true, false, true] [] n [(0, Value.int .u16 s0), (1, Value.slice ad1 l.length 0), (7, Value.pointer (some { block := a, off := 0 })), (45, Value.int .i64 N), (46, Value.int .i64 (IntKind.wrap .i64 ((i : Int) + 1)))] v14)) = some (.bool true, σ9) := by
        intro σ' F' s' h1 h2 h3 h4 h5 h6 h7
        rw [number_spec h1 L (k + 3), bnd_some, asI_i, hr, h2, show (r != r) = false by simp, br_false, hw]
        exact times_loop L k hL hl hl0 hr hr1 hN n (i + 1) σ' F' s' (by omega) (by omega) h1 h2 h3 h4 h5 h6 h7
      have told : ∀ (out' : List (Int × Int × Int)), out' = l.map (fun v => (3, v, r)) → out = out' → (i + 1) % 6 = 0 → s'.number = r → s'.vols = l → s'.an = [] → s'.done = 0 → s'.complete = false → s'.left = 6 → ∃ σ9, (asSl (Value.slice ad out.length z) fun v3 v4 v5 => br (!decide ((v4 : Int) > 0) == (Int.tmod (IntKind.wrap .i64 ((i : Int) + 1)) 6 == 0)) (some (Value.bool false, σ1)) (br (decide ((v4 : Int) > 0)) (br ((v4 : Int) != (l.length : Int)) (some (Value.bool false, σ1)) (need (inRange 0 (v4 : Int)) (adr v3 fun v6 v7 => St.ld σ1 v6 (v7 + 0 + 0) fun v8 => asI .i64 v8 fun v9 => br (v9 != 3) (some (Value.bool false, σ1))
          (bnd (evCall Try.prog env L (k + 4) 9 [Value.pointer (some { block := a, off := 0 })] σ1) fun v13 v14 => asI .i64 v13 fun v15 => br (v15 != IntKind.wrap .i64 ((1 : Int) + IntKind.wrap .i64 s0)) (some (Value.bool false, v14)) (lpAt Try.prog env L (k + 4) 3 [true, true, true, true, true, false, true] [] n [(0, Value.int .u16 s0), (1, Value.slice ad1 l.length 0), (7, Value.pointer (some { block := a, off := 0 })), (45, Value.int .i64 N), (46, Value.int .i64 (IntKind.wrap .i64 ((i : Int) + 1)))] v14)))))
          (bnd (evCall Try.prog env L (k + 4) 9 [Value.pointer (some { block := a, off := 0 })] σ1) fun v13 v14 => asI .i64 v13 fun v15 => br (v15 != IntKind.wrap .i64 ((1 : Int) + IntKind.wrap .i64 s0)) (some (Value.bool false, v14)) (lpAt Try.prog env L (k + 4) 3 [true, true, true, true, true, false, true] [] n [(0, Value.int .u16 s0), (1, Value.slice ad1 l.length 0), (7, Value.pointer (some { block := a, off := 0 })), (45, Value.int .i64 N), (46, Value.int .i64 (IntKind.wrap .i64 ((i : Int) + 1)))] v14)))) = some (.bool true, σ9) := by
        intro out' ho' ho h6 t1 t2 t3 t4 t5 t6
        have hol : out.length = l.length := by rw [ho, ho', List.length_map]
        obtain ⟨v0, hv0⟩ : ∃ v0, l[0]? = some v0 := ⟨_, List.getElem?_eq_getElem hlp⟩
        have hg0 : out[0]? = some (3, v0, r) := by rw [ho, ho', List.getElem?_map, hv0]; rfl
        obtain ⟨q0, eq, hat⟩ := hO.at c3i_len hg0
        rw [asSl_s, hw, hmod, decide_eq_true h6, decide_eq_true (show (out.length : Int) > 0 by omega), show (!(true == true)) = false from rfl, br_false, br_true, hol, show ((l.length : Int) != (l.length : Int)) = false by simp, br_false, need_of (by simp [inRange]; omega), eq, adr_some, hat 0 (.int .i64 3) _ (by omega) rfl (by omega), asI_i, show ((3 : Int) != 3) = false from rfl, br_false, ← hw]
        exact next σ1 F1 s' hR1 t1 t2 t3 t4 t5 (by rw [t6, h6]; rfl)
      rw [decide_eq_true (by omega), br_true, g1, bnd_some]
      rcases hcase with ⟨c1, _⟩ | ⟨c1, c2, rfl, rfl⟩ | ⟨c1, c2, c3, c4, rfl⟩ | ⟨c1, c2, c3, c4, rfl⟩
      · exact absurd (e1.symm.trans c1) hr1
      · have h6 : ¬ (i + 1) % 6 = 0 := by omega
        rw [asSl_s, hw, hmod, decide_eq_false h6, show decide ((((([] : List (Int × Int × Int)).length : Nat)) : Int) > 0) = false from rfl, show (!(false == false)) = false from rfl, br_false, br_false, ← hw]
        exact next σ1 F1 _ hR1 e1 e2 e3 e4 e5 (by simp only; omega)
      · exact told _ (by rw [e2, e1]) c4 (by omega) e1 e2 rfl e4 e5 rfl
      · exact told _ (by unfold RS.cmds; rw [hlk, c3, e1]) c4 (by omega) e1 e2 e3 e4 e5 rfl

theorem times {σ0 : St} {ad1 : Option Addr} {l : List Int} (hH : Holds σ0 1 c1 ad1 l) (r t : Int) (h1 : 0 ≤ r ∧ r ≤ 65535) (h2 : 0 ≤ t ∧ t ≤ 255) : ∃ σ', evCall Try.prog env 10000 12 3 [.int .u16 r, .slice ad1 l.length 0, .int .u8 t] σ0 = some (.bool true, σ') := by
  obtain ⟨m, rfl⟩ := Int.eq_ofNat_of_zero_le h2.1
  rw [f3_eq]
  obtain ⟨σ2, g2, hs2⟩ := awake_spec 10000 6 (by omega) σ0
  have hK2 : Kept' σ0.next σ0 σ2 := ⟨hs2.1, fun k hk => hs2.2 k hk (by simp)⟩
  rw [g2, bnd_some, asB_b, not_true, br_false]
  by_cases hl : (l.length : Int) > 20
  · obtain ⟨σ3, g3, _⟩ := awake_spec 10000 6 (by omega) σ2
    rw [decide_eq_true hl, br_true, g3, bnd_some, asB_b]; exact ⟨σ3, rfl⟩
  obtain ⟨hR3, hs3⟩ := new_rnd σ2
  rw [show hd zero none 0 none = [Value.int .i64 0, .int .i64 0, .slice none 0 0, .int .i64 0, .map none, .int .i64 0, .bool false, .int .i64 0, .bool false] from rfl] at hR3 hs3
  rw [decide_eq_false hl, br_false]
  generalize σ2.new (Blk.own [Value.int .i64 0, .int .i64 0, .slice none 0 0, .int .i64 0, .map none, .int .i64 0, .bool false, .int .i64 0, .bool false] 28) = σ3 at hR3 hs3
  have hK3 : Kept' σ0.next σ0 σ3 := hK2.step hs3 (by simp)
  obtain ⟨q, hsrc, hql⟩ := src_of hH hK3
  have e1 : IntKind.wrap .i64 ((1 : Int) + IntKind.wrap .i64 r) = 1 + r := by rw [wrap_in r (by omega) (by omega), wrap_in _ (by omega) (by omega)]
  rcases begin_spec hR3 10000 7 (by omega) (1 + r) (z := 0) (by omega) hsrc (fun h => by have := hql h; have := hs2.1; simp; omega) with ⟨_, _, hgood, adO, zO, qO, F', σ4, g4, hO, hR4, hT4, hq4⟩ | ⟨hno, v, σ4, g4, hs4⟩
  · rw [e1, g4, bnd_some, asT_t, toList2, uncons_c, asSl_s, uncons_c, endl_n, eqNil_nil, not_true, br_false]
    have hN : Int.tmod (IntKind.wrap .i64 (m : Int)) 40 = ((m % 40 : Nat) : Int) := by rw [wrap_in (m : Int) (by omega) (by omega)]; rfl
    rw [hN]
    exact times_loop 10000 7 (by omega) (by omega) hgood.2.2 e1 (by omega) (by omega) 10000 0 σ4 F' _ (by omega) (by omega) hR4 rfl rfl rfl rfl rfl rfl
  · rw [e1, g4, bnd_some, asT_t, toList2, uncons_c, asSl_s, uncons_c, endl_n, eqNil_iface, not_false, br_true, show (((0 : Nat) : Int) == 0) = true from rfl, br_true, number_spec (hR3.idle hs4) 10000 10, bnd_some, asI_i]
    exact ⟨σ4, rfl⟩

theorem intOf {σ : St} {row : List Value} (h : Img Try.prog σ 3 row) : ∃ n : Int, row = c1 n := by
  obtain ⟨n, w0, v0⟩ := Img.int_inv Try.underlying3 h
  exact ⟨n, w0⟩

end Go.AM.Rd
