/-
  LeasePlays, in plain words.
-/
import Derived.Test.YtidnlfphhhplaaaDoorLsA
import Derived.Test.YtidnlfphhhplaaaDoorAm17
set_option linter.unusedVariables false
set_option linter.unusedSimpArgs false
set_option linter.unusedSectionVars false
namespace Go.AM.Ls
open Go.Proofs

structure Op where
  kind : Int
  e : Int
  now : Int
def c3 (o : Op) : List Value := [.int .i64 o.kind, .int .i64 o.e, .int .i64 o.now]
theorem c3_len (o : Op) : (c3 o).length = 3 := rfl

set_option maxRecDepth 20000 in
theorem opOf {σ : St} {row : List Value} (h : Img Tryd.prog σ 51 row) : ∃ o : Op, row = c3 o := by
  obtain ⟨h1, h2⟩ := h.struct_inv Tryd.underlying51
  have hl : row.length = 3 := by rw [h1]; kernel_rfl
  match row, hl with
  | [x, y, z], _ =>
    have hx := h2 _ (List.mem_of_getElem? (i := 0) rfl)
    have hy := h2 _ (List.mem_of_getElem? (i := 1) rfl)
    have hz := h2 _ (List.mem_of_getElem? (i := 2) rfl)
    have e3 : Tryd.prog.cellsOf 3 = 1 := by kernel_rfl
    simp only [e3] at hx hy hz
    obtain ⟨n, w1, v1⟩ := Img.int_inv Tryd.underlying3 hx
    obtain ⟨m, w2, v2⟩ := Img.int_inv Tryd.underlying3 hy
    obtain ⟨t, w3, v3⟩ := Img.int_inv Tryd.underlying3 hz
    simp at w1 w2 w3
    exact ⟨⟨n, m, t⟩, by rw [w1, w2, w3]; rfl⟩

/-- The site and the fence, and the document's, side by side. -/
structure Pl (σ0 σ : St) (a b c d : Nat) (s : S) (f : Fe) : Prop where
  kept : Kept' σ0.next σ0 σ
  ha : Has σ a s.cells 28
  hb : Has σ b s.rcells 55
  hc : Has σ c f.cells 39
  hd : Has σ d f.rcells 58
  ord : σ0.next ≤ a ∧ a < b ∧ b < c ∧ c < d
theorem Pl.idle {σ0 σ σ' : St} {a b c d : Nat} {s : S} {f : Fe} (h : Pl σ0 σ a b c d s f) (hs : Same σ σ' []) : Pl σ0 σ' a b c d s f :=
  ⟨h.kept.step hs (by simp), h.ha.same hs (by simp), h.hb.same hs (by simp), h.hc.same hs (by simp), h.hd.same hs (by simp), h.ord⟩

theorem Fe.ok_renew {f : Fe} (h : f.Ok) (ep t : Int) : (f.renew ep t).2.Ok := by
  unfold Fe.renew
  split
  · exact h
  split
  · exact h
  split <;> exact h
theorem Fe.ok_promote {f : Fe} (h : f.Ok) (t : Int) : (f.promote t).Ok := by
  unfold Fe.promote
  split
  · exact h
  · rename_i hn
    have : ¬ f.e ≥ 1073741824 := hn
    obtain ⟨h0, h1⟩ := h
    exact ⟨by simp only [Fe.next]; omega, by simp only [Fe.next]; omega⟩

set_option maxRecDepth 20000 in
theorem plays (L k : Nat) (hL : 400 < L) {σ0 : St} {ad : Option Addr} {sc : List Op} (hlen : sc.length ≤ 300) (hH : Holds σ0 3 c3 ad sc) {a b c d : Nat} : ∀ (n i : Nat) (σ : St) (s : S) (f : Fe),
    i ≤ sc.length → sc.length - i < n → f.Ok → Pl σ0 σ a b c d s f →
    ∃ σ9, lpAt Tryd.prog env L (k + 5) 7 [true, true, true, true, false, true] [] n [(0, .slice ad sc.length 0), (3, ptr a), (4, ptr b), (5, ptr c), (6, ptr d), (36, .int .i64 sc.length), (37, .int .i64 i)] σ = some (.bool true, σ9)
  | 0, i, σ, s, f, _, h, _, _ => by omega
  | n + 1, i, σ, s, f, hi, h, hok, hP => by
    rw [f7_l6]
    by_cases hie : i = sc.length
    · rw [decide_eq_false (by omega), br_false]
      exact ⟨σ, rfl⟩
    · have hget : sc[i]? = some sc[i] := List.getElem?_eq_getElem (by omega)
      obtain ⟨q0, e0, hlds⟩ := hH.lds hP.kept c3_len hget
      generalize sc[i] = o at hlds
      have hw : IntKind.wrap .i64 ((i : Int) + 1) = ((i + 1 : Nat) : Int) := by rw [wrap_in _ (by omega) (by omega)]; omega
      rw [decide_eq_true (by omega), br_true, need_of (by simp [inRange]; omega), e0, adr_some, hlds 0 3 (0 + (i : Int).toNat * 3) (by omega) (by simp), show ((c3 o).drop 0).take 3 = [.int .i64 o.kind, .int .i64 o.e, .int .i64 o.now] from rfl,
        uncons_c, asI_i, uncons_c, asI_i, uncons_c, asI_i, endl_n]
      obtain ⟨σ1, hput, ht1, hs1, hn1⟩ := tmp_put σ [Value.int IntKind.i64 0, Value.int IntKind.i64 0, Value.int IntKind.i64 0] [Value.int IntKind.i64 o.kind, Value.int IntKind.i64 o.e, Value.int IntKind.i64 o.now] 51 rfl rfl
      rw [hput, ← e0, hw]
      have hP1 := hP.idle hs1
      obtain ⟨o0, o1, o2, o3⟩ := hP.ord
      have ld := hP.hd.lt
      have hT1 : Has σ1 σ.next [Value.int IntKind.i64 o.kind, Value.int IntKind.i64 o.e, Value.int IntKind.i64 o.now] 51 := ⟨ht1, by omega⟩
      have go : ∀ (σ2 : St) (s' : S) (f' : Fe), f'.Ok → Pl σ0 σ2 a b c d s' f' →
          evCall Tryd.prog env L (k + 5) 13 [ptr a] σ2 = some (.tuple #[.int .i64 s'.e, .int .i64 s'.u], σ2) ∧ (∀ K : Value → Res, σ2.ld b (0 + 0) K = K (.int .i64 s'.e)) ∧ (∀ K : Value → Res, σ2.ld b (0 + 1) K = K (.int .i64 s'.u)) ∧
          ∃ σ9, lpAt Tryd.prog env L (k + 5) 7 [true, true, true, true, false, true] [] n [(0, .slice ad sc.length 0), (3, ptr a), (4, ptr b), (5, ptr c), (6, ptr d), (36, .int .i64 sc.length), (37, .int .i64 (i + 1 : Nat))] σ2 = some (.bool true, σ9) := fun σ2 s' f' h1 h2 =>
        ⟨epoch_spec h2.ha L (k + 4), ld_at h2.hb.get 0 _ rfl, ld_at h2.hb.get 1 _ rfl, plays L k hL hlen hH n (i + 1) σ2 s' f' (by omega) (by omega) h1 h2⟩
      have bb : ∀ x : Int, (x != x) = false := fun x => by simp
      rw [ld_at hT1.get 0 _ rfl, asI_i]
      by_cases k1 : o.kind = 1
      · obtain ⟨v, σ2, g2, e2, h2, s2⟩ := grant_spec hP1.ha L (k + 2) o.e o.now
        have hT2 := hT1.same s2 (by simp; omega)
        obtain ⟨σ3, g3, h3, s3⟩ := rgrant_spec (hP1.hb.same s2 (by simp; omega)) L (k + 2) o.e o.now
        have hT3 := hT2.same s3 (by simp; omega)
        have hP3 : Pl σ0 σ3 a b c d ((s.grant o.e o.now).2) (f) := ⟨(hP1.kept.step s2 (by simp; omega)).step s3 (by simp; omega), h2.same s3 (by simp; omega), h3, (hP1.hc.same s2 (by simp; omega)).same s3 (by simp; omega), (hP1.hd.same s2 (by simp; omega)).same s3 (by simp; omega), hP.ord⟩
        obtain ⟨σ4, g4, s4⟩ := place_spec L (k + 1) (by omega) (e2.past (hP1.hb.same s2 (by simp; omega)) s3)
        obtain ⟨t1, t2, t3, σ9, t4⟩ := go σ4 ((s.grant o.e o.now).2) (f) (hok) (hP3.idle s4)
        rw [k1, show ((1 : Int) == 1) = true from rfl, br_true]
        simp only [ld_at hT1.get 1 _ rfl, ld_at hT1.get 2 _ rfl, ld_at hT2.get 1 _ rfl, ld_at hT2.get 2 _ rfl, ld_at hT3.get 1 _ rfl, ld_at hT3.get 2 _ rfl, g2, g3, g4, asI_i, bnd_some, chk_same, asB_b, asT_t, toList2, toList3, uncons_c, endl_n, not_true, not_false, br_true, br_false, bb, beq_self_eq_true, t1, t2, t3]
        exact ⟨σ9, t4⟩
      · rw [show (o.kind == 1) = false by simpa using k1, br_false]
        by_cases k2 : o.kind = 2
        · obtain ⟨v, σ2, g2, e2, h2, s2⟩ := check_spec hP1.ha L (k + 2) o.e o.now
          have hT2 := hT1.same s2 (by simp; omega)
          obtain ⟨σ3, g3, h3, s3⟩ := rcheck_spec (hP1.hb.same s2 (by simp; omega)) L (k + 2) o.e o.now
          have hT3 := hT2.same s3 (by simp; omega)
          have hP3 : Pl σ0 σ3 a b c d (s.at o.now) (f) := ⟨(hP1.kept.step s2 (by simp; omega)).step s3 (by simp; omega), h2.same s3 (by simp; omega), h3, (hP1.hc.same s2 (by simp; omega)).same s3 (by simp; omega), (hP1.hd.same s2 (by simp; omega)).same s3 (by simp; omega), hP.ord⟩
          obtain ⟨σ4, g4, s4⟩ := place_spec L (k + 1) (by omega) (e2.past (hP1.hb.same s2 (by simp; omega)) s3)
          obtain ⟨t1, t2, t3, σ9, t4⟩ := go σ4 (s.at o.now) (f) (hok) (hP3.idle s4)
          rw [k2, show ((2 : Int) == 2) = true from rfl, br_true]
          simp only [ld_at hT1.get 1 _ rfl, ld_at hT1.get 2 _ rfl, ld_at hT2.get 1 _ rfl, ld_at hT2.get 2 _ rfl, ld_at hT3.get 1 _ rfl, ld_at hT3.get 2 _ rfl, g2, g3, g4, asI_i, bnd_some, chk_same, asB_b, asT_t, toList2, toList3, uncons_c, endl_n, not_true, not_false, br_true, br_false, bb, beq_self_eq_true, t1, t2, t3]
          exact ⟨σ9, t4⟩
        · rw [show (o.kind == 2) = false by simpa using k2, br_false]
          by_cases k3 : o.kind = 3
          · obtain ⟨v, σ2, g2, e2, h2, s2⟩ := promote_spec hP1.hc hok L (k + 2) o.now
            have hT2 := hT1.same s2 (by simp; omega)
            obtain ⟨σ3, g3, h3, s3⟩ := rpromote_spec (hP1.hd.same s2 (by simp; omega)) hok L (k + 2) o.now
            have hT3 := hT2.same s3 (by simp; omega)
            have hP3 : Pl σ0 σ3 a b c d (s) (f.promote o.now) := ⟨(hP1.kept.step s2 (by simp; omega)).step s3 (by simp; omega), (hP1.ha.same s2 (by simp; omega)).same s3 (by simp; omega), (hP1.hb.same s2 (by simp; omega)).same s3 (by simp; omega), h2.same s3 (by simp; omega), h3, hP.ord⟩
            obtain ⟨σ4, g4, s4⟩ := place_spec L (k + 1) (by omega) (e2.past (hP1.hd.same s2 (by simp; omega)) s3)
            obtain ⟨t1, t2, t3, σ9, t4⟩ := go σ4 (s) (f.promote o.now) (Fe.ok_promote hok o.now) (hP3.idle s4)
            rw [k3, show ((3 : Int) == 3) = true from rfl, br_true]
            simp only [ld_at hT1.get 1 _ rfl, ld_at hT1.get 2 _ rfl, ld_at hT2.get 1 _ rfl, ld_at hT2.get 2 _ rfl, ld_at hT3.get 1 _ rfl, ld_at hT3.get 2 _ rfl, g2, g3, g4, asI_i, bnd_some, chk_same, asB_b, asT_t, toList2, toList3, uncons_c, endl_n, not_true, not_false, br_true, br_false, bb, beq_self_eq_true, t1, t2, t3, ld_at hP1.hd.get (0 + 0) (.int .i64 f.e) rfl]
            exact ⟨σ9, t4⟩
          · rw [show (o.kind == 3) = false by simpa using k3, br_false]
            by_cases k4 : o.kind = 4
            · obtain ⟨v, σ2, g2, e2, h2, s2⟩ := renew_spec hP1.hc L (k + 2) o.e o.now
              have hT2 := hT1.same s2 (by simp; omega)
              obtain ⟨σ3, g3, h3, s3⟩ := rrenew_spec (hP1.hd.same s2 (by simp; omega)) L (k + 2) o.e o.now
              have hT3 := hT2.same s3 (by simp; omega)
              have hP3 : Pl σ0 σ3 a b c d (s) ((f.renew o.e o.now).2) := ⟨(hP1.kept.step s2 (by simp; omega)).step s3 (by simp; omega), (hP1.ha.same s2 (by simp; omega)).same s3 (by simp; omega), (hP1.hb.same s2 (by simp; omega)).same s3 (by simp; omega), h2.same s3 (by simp; omega), h3, hP.ord⟩
              obtain ⟨σ4, g4, s4⟩ := place_spec L (k + 1) (by omega) (e2.past (hP1.hd.same s2 (by simp; omega)) s3)
              obtain ⟨t1, t2, t3, σ9, t4⟩ := go σ4 (s) ((f.renew o.e o.now).2) (Fe.ok_renew hok o.e o.now) (hP3.idle s4)
              rw [k4, show ((4 : Int) == 4) = true from rfl, br_true]
              simp only [ld_at hT1.get 1 _ rfl, ld_at hT1.get 2 _ rfl, ld_at hT2.get 1 _ rfl, ld_at hT2.get 2 _ rfl, ld_at hT3.get 1 _ rfl, ld_at hT3.get 2 _ rfl, g2, g3, g4, asI_i, bnd_some, chk_same, asB_b, asT_t, toList2, toList3, uncons_c, endl_n, not_true, not_false, br_true, br_false, bb, beq_self_eq_true, t1, t2, t3]
              exact ⟨σ9, t4⟩
            · rw [show (o.kind == 4) = false by simpa using k4, br_false]
              by_cases k5 : o.kind = 5
              · obtain ⟨σ2, g2, h2, s2⟩ := holds_spec hP1.hc L (k + 3) o.now
                have hT2 := hT1.same s2 (by simp; omega)
                obtain ⟨σ3, g3, h3, s3⟩ := rholds_spec (hP1.hd.same s2 (by simp; omega)) L (k + 3) o.now
                have hT3 := hT2.same s3 (by simp; omega)
                have hP3 : Pl σ0 σ3 a b c d (s) (f.at o.now) := ⟨(hP1.kept.step s2 (by simp; omega)).step s3 (by simp; omega), (hP1.ha.same s2 (by simp; omega)).same s3 (by simp; omega), (hP1.hb.same s2 (by simp; omega)).same s3 (by simp; omega), h2.same s3 (by simp; omega), h3, hP.ord⟩
                obtain ⟨t1, t2, t3, σ9, t4⟩ := go σ3 (s) (f.at o.now) (hok) hP3
                rw [k5, show ((5 : Int) == 5) = true from rfl, br_true]
                simp only [ld_at hT1.get 1 _ rfl, ld_at hT1.get 2 _ rfl, ld_at hT2.get 1 _ rfl, ld_at hT2.get 2 _ rfl, ld_at hT3.get 1 _ rfl, ld_at hT3.get 2 _ rfl, g2, g3, asI_i, bnd_some, chk_same, asB_b, asT_t, toList2, toList3, uncons_c, endl_n, not_true, not_false, br_true, br_false, bb, beq_self_eq_true, t1, t2, t3]
                exact ⟨σ9, t4⟩
              · rw [show (o.kind == 5) = false by simpa using k5, br_false]
                obtain ⟨t1, t2, t3, σ9, t4⟩ := go σ1 _ _ hok hP1
                simp only [asI_i, bnd_some, chk_same, asB_b, asT_t, toList2, toList3, uncons_c, endl_n, not_true, not_false, br_true, br_false, bb, beq_self_eq_true, t1, t2, t3]
                exact ⟨σ9, t4⟩

theorem plays_holds (L k : Nat) (hL : 400 < L) {σ : St} {ad : Option Addr} {sc : List Op} (hH : Holds σ 3 c3 ad sc) :
    ∃ σ9, evCall Tryd.prog env L (k + 6) 7 [.slice ad sc.length 0] σ = some (.bool true, σ9) := by
  rw [f7_eq]
  obtain ⟨σ1, g1, s1⟩ := awake_spec L (k + 1) σ
  rw [g1, bnd_some, asB_b, not_true, br_false]
  by_cases hlen : sc.length > 300
  · obtain ⟨σ2, g2, _⟩ := awake_spec L (k + 1) σ1
    rw [decide_eq_true (by omega), br_true, g2, bnd_some, asB_b]
    exact ⟨σ2, rfl⟩
  · rw [decide_eq_false (by omega), br_false]
    have a2 := Has.new σ1 (S.cells ⟨0, 0, 0⟩) 28
    have s2 : Same σ1 (σ1.new (.own (S.cells ⟨0, 0, 0⟩) 28)) [] := Same.new _ _ _
    have n2 : (σ1.new (.own (S.cells ⟨0, 0, 0⟩) 28)).next = σ1.next + 1 := rfl
    rw [show Blk.own [Value.int IntKind.i64 0, Value.int IntKind.i64 0, Value.int IntKind.i64 0] 28 = Blk.own (S.cells ⟨0, 0, 0⟩) 28 from rfl]
    generalize σ1.new (.own (S.cells ⟨0, 0, 0⟩) 28) = σ2 at a2 s2 n2
    have a3 := Has.new σ2 (S.rcells ⟨0, 0, 0⟩) 55
    have s3 : Same σ2 (σ2.new (.own (S.rcells ⟨0, 0, 0⟩) 55)) [] := Same.new _ _ _
    have n3 : (σ2.new (.own (S.rcells ⟨0, 0, 0⟩) 55)).next = σ2.next + 1 := rfl
    rw [show Blk.own [Value.int IntKind.i64 0, Value.int IntKind.i64 0, Value.int IntKind.i64 0] 55 = Blk.own (S.rcells ⟨0, 0, 0⟩) 55 from rfl]
    generalize σ2.new (.own (S.rcells ⟨0, 0, 0⟩) 55) = σ3 at a3 s3 n3
    have a4 := Has.new σ3 (Fe.cells ⟨0, 0, 0, 0⟩) 39
    have s4 : Same σ3 (σ3.new (.own (Fe.cells ⟨0, 0, 0, 0⟩) 39)) [] := Same.new _ _ _
    have n4 : (σ3.new (.own (Fe.cells ⟨0, 0, 0, 0⟩) 39)).next = σ3.next + 1 := rfl
    rw [show Blk.own [Value.int IntKind.i64 0, Value.int IntKind.i64 0, Value.int IntKind.i64 0, Value.int IntKind.i64 0] 39 = Blk.own (Fe.cells ⟨0, 0, 0, 0⟩) 39 from rfl]
    generalize σ3.new (.own (Fe.cells ⟨0, 0, 0, 0⟩) 39) = σ4 at a4 s4 n4
    have a5 := Has.new σ4 (Fe.rcells ⟨0, 0, 0, 0⟩) 58
    have s5 : Same σ4 (σ4.new (.own (Fe.rcells ⟨0, 0, 0, 0⟩) 58)) [] := Same.new _ _ _
    rw [show Blk.own [Value.int IntKind.i64 0, Value.int IntKind.i64 0, Value.int IntKind.i64 0, Value.int IntKind.i64 0] 58 = Blk.own (Fe.rcells ⟨0, 0, 0, 0⟩) 58 from rfl]
    generalize σ4.new (.own (Fe.rcells ⟨0, 0, 0, 0⟩) 58) = σ5 at a5 s5
    have hk0 : Kept' σ.next σ σ := ⟨Nat.le_refl _, fun _ _ => rfl⟩
    have := s1.1
    exact plays L k hL (by omega) hH L 0 σ5 ⟨0, 0, 0⟩ ⟨0, 0, 0, 0⟩ (by omega) (by omega) (by unfold Fe.Ok; decide)
      ⟨((((hk0.step s1 (by simp)).step s2 (by simp)).step s3 (by simp)).step s4 (by simp)).step s5 (by simp), ((a2.same s3 (by simp)).same s4 (by simp)).same s5 (by simp), (a3.same s4 (by simp)).same s5 (by simp), a4.same s5 (by simp), a5, by omega⟩

end Go.AM.Ls
