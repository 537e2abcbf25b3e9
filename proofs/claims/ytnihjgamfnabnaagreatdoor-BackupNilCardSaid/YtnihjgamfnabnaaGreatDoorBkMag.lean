/-
  Texts laid together: BkMa, BkMb, BkNl.
-/
import Derived.Test.YtnihjgamfnabnaaGreatDoorBkMg
import Derived.Test.YtnihjgamfnabnaaGreatDoorAm13g
set_option linter.unusedVariables false
set_option linter.unusedSimpArgs false
set_option linter.unusedSectionVars false
/-
  THE BACKUP: things beside the image; the members; New.
-/
namespace Go.AM.Bk
open Go.Proofs

theorem Owns.third {σ0 σ : St} {A B C : List Nat} {R : List (List Nat)} (h : Owns σ0 σ (A :: B :: C :: R)) : Owns σ0 σ (B :: C :: A :: R) :=
  h.map (fun i => if i = 0 then 1 else if i = 1 then 2 else if i = 2 then 0 else i) (fun i j e => by
    by_cases a0 : i = 0 <;> by_cases a1 : i = 1 <;> by_cases a2 : i = 2 <;> by_cases b0 : j = 0 <;> by_cases b1 : j = 1 <;> by_cases b2 : j = 2 <;> simp [a0, a1, a2, b0, b1, b2] at e <;> omega) (fun i G hG => by
    match i, hG with
    | 0, hG => exact hG
    | 1, hG => exact hG
    | 2, hG => exact hG
    | i + 3, hG => exact hG)
theorem ImS.push {σ0 σ σ' : St} {m d : Nat} {s : IS} {R : List (List Nat)} {X : List Nat} (h : ImS σ0 σ m d s R) (hw : s.work = none) (hs : Same σ σ' []) (hX : ∀ q ∈ X, σ.next ≤ q ∧ q < σ'.next) : ImS σ0 σ' m d s (X :: R) := by
  obtain ⟨F, G, w, a1, a2, a3, a4, a5⟩ := h.ex
  refine ⟨F, G, w, a1.idle hs, a2.same hs (by simp), Owns.third (a3.more hs hX), a4, ?_⟩
  rcases a5 with a5 | ⟨_, _, _, _, e, _⟩
  · exact .inl a5
  · rw [hw] at e; cases e
theorem ImS.turned {σ0 σ σ' : St} {m d : Nat} {s : IS} {R : List (List Nat)} {A B : List Nat} (h : ImS σ0 σ m d s R) (i : Nat) (hi : R[i]? = some A) (hT : Turn σ σ' A B) : ImS σ0 σ' m d s (R.set i B) := by
  obtain ⟨F, G, w, h1, h2, h3, h4, h5⟩ := h.ex
  have hi2 : (F :: G :: R)[i + 2]? = some A := hi
  refine ⟨F, G, w, h1.same hT.same (h3.off 0 (i + 2) (by omega) rfl hi2), h2.same hT.same (h3.off 1 (i + 2) (by omega) rfl hi2 m h4), h3.turned (i + 2) hi2 hT, h4, ?_⟩
  rcases h5 with h5 | ⟨b, mk', bl', done, e1, e2, e3, e4, e5⟩
  · exact .inl h5
  · exact .inr ⟨b, mk', bl', done, e1, e2, e3, e4, by rw [hT.same.2 b (h3.lt 1 rfl b e3) (h3.off 1 (i + 2) (by omega) rfl hi2 b e3)]; exact e5.ex, e5.len⟩
theorem ImS.lt {σ0 σ : St} {m d : Nat} {s : IS} {R : List (List Nat)} (h : ImS σ0 σ m d s R) {H : List Nat} (hH : H ∈ R) : ∀ q ∈ H, q < σ.next := by
  obtain ⟨F, G, w, h1, h2, h3, h4, h5⟩ := h.ex
  exact fun q hq => (h3.own H (by simp [hH]) q hq).2

/-! The members: one of volume 0. -/
theorem zero_spec (L k : Nat) (hL : 10 < L) {σ : St} {p : Nat} (hp : σ.get p = some (.own [.int .i64 0] 3)) (hlt : p < σ.next) : ∃ g σ', evCall Tryz.prog env L (k + 2) 12 [.slice (some ⟨p, 0, none⟩) 1 1] σ = some (.tuple #[ptr g, .nilIface], σ') ∧ σ'.get g = some (.own [.bool true, .bool false, .bool false, .bool false, .slice none 0 0] 111) ∧ Same σ σ' [] ∧ σ.next ≤ g ∧ g < σ'.next := by
  obtain ⟨m, rfl⟩ : ∃ m, L = m + 2 := ⟨L - 2, by omega⟩
  rw [f12_eq]
  have s1 : Same σ (σ.new (.own [.bool false, .bool false, .bool false, .bool false, .slice none 0 0] 111)) [] := Same.new _ _ _
  have g1 : (σ.new (.own [.bool false, .bool false, .bool false, .bool false, .slice none 0 0] 111)).get σ.next = some (.own [.bool false, .bool false, .bool false, .bool false, .slice none 0 0] 111) := get_new_same _ _
  have n1 : (σ.new (.own [.bool false, .bool false, .bool false, .bool false, .slice none 0 0] 111)).next = σ.next + 1 := rfl
  generalize σ.new (.own [.bool false, .bool false, .bool false, .bool false, .slice none 0 0] 111) = σ1 at s1 g1 n1
  have hp1 : σ1.get p = _ := (s1.2 p hlt (by simp)).trans hp
  have i1 : inRange 0 ((1 : Nat) : Int) = true := rfl
  have i4 : inRange 0 4 = true := rfl
  rw [f12_l3, decide_eq_true (by decide), br_true, need_of i1, adr_some, ld_at hp1 (0 + Int.toNat 0 * 1) (.int .i64 0) rfl, asI_i, f43_eq, decide_eq_true (by decide), br_true, bnd_some, asB_b, show (!decide ((0 : Int) < 4)) = false from rfl, br_false, need_of i4, ld_at g1 (0 + 0 + Int.toNat 0 * 1) (.bool false) rfl, asB_b, br_false, need_of i4,
    put_bool g1 (0 + 0 + Int.toNat 0 * 1) true (by simp), f12_l3, show IntKind.wrap .i64 ((0 : Int) + 1) = 1 from rfl, decide_eq_false (by decide), br_false]
  have s2 := Same.set σ1 σ.next (.own (List.set [Value.bool false, .bool false, .bool false, .bool false, .slice none 0 0] (0 + 0 + Int.toNat 0 * 1) (.bool true)) 111)
  refine ⟨σ.next, _, rfl, get_set_same _ _ _, s1.fresh s2 (fun x hx => .inr (by simp at hx; subst hx; exact Nat.le_refl _)), Nat.le_refl _, ?_⟩
  simp only [next_set]; omega

/-! Its list at any marker. -/
theorem at_spec (L k : Nat) (hL : 10 < L) {σ : St} {g : Nat} (hg : σ.get g = some (.own [.bool true, .bool false, .bool false, .bool false, .slice none 0 0] 111)) (hlt : g < σ.next) (mark : Int) :
    ∃ ad z q σ', evCall Tryz.prog env L (k + 2) 61 [ptr g, .int .i64 mark] σ = some (.slice ad 1 z, σ') ∧ Row c1 1 3 σ' ad z q [0] ∧ (∀ x ∈ q, σ.next ≤ x) ∧ Same σ σ' [] := by
  obtain ⟨m, rfl⟩ : ∃ m, L = m + 6 := ⟨L - 6, by omega⟩
  rw [f61_eq, f61_l4, ld_at hg (0 + 4) _ rfl, asSl_s, decide_eq_false (by decide), br_false, f102_eq]
  have s1 : Same σ (σ.new (.own [.bool false, .bool false, .bool false, .bool false] 108)) [] := Same.new _ _ _
  have g1 : (σ.new (.own [.bool false, .bool false, .bool false, .bool false] 108)).get σ.next = some (.own [.bool false, .bool false, .bool false, .bool false] 108) := get_new_same _ _
  have n1 : (σ.new (.own [.bool false, .bool false, .bool false, .bool false] 108)).next = σ.next + 1 := rfl
  generalize σ.new (.own [.bool false, .bool false, .bool false, .bool false] 108) = σ1 at s1 g1 n1
  have hg1 : σ1.get g = _ := (s1.2 g hlt (by simp)).trans hg
  rw [lds_own (n := 4) _ hg1 (by simp)]
  show ∃ ad z q σ', bnd (uncons [Value.bool true, .bool false, .bool false, .bool false] _) _ = _ ∧ _
  rw [uncons_c, asB_b, uncons_c, asB_b, uncons_c, asB_b, uncons_c, asB_b, endl_n, tmp_put2 σ1 [.bool false, .bool false, .bool false, .bool false] [.bool true, .bool false, .bool false, .bool false] 108 rfl rfl]
  have s2 : Same σ1 (σ1.new (.own [.bool true, .bool false, .bool false, .bool false] 108)) [] := Same.new _ _ _
  have g2 : (σ1.new (.own [.bool true, .bool false, .bool false, .bool false] 108)).get σ1.next = some (.own [.bool true, .bool false, .bool false, .bool false] 108) := get_new_same _ _
  have n2 : (σ1.new (.own [.bool true, .bool false, .bool false, .bool false] 108)).next = σ1.next + 1 := rfl
  generalize σ1.new (.own [.bool true, .bool false, .bool false, .bool false] 108) = σ2 at s2 g2 n2
  have hg2 : σ2.get g = _ := (s2.2 g (by omega) (by simp)).trans hg1
  have hz : (Nat.beq 0 0 || Nat.beq 0 3) = true := rfl
  have hi : inRange 0 (((0 : Nat) : Int) + 1) = true := rfl
  have hh1 : σ2.get σ.next = _ := (s2.2 σ.next (by omega) (by simp)).trans g1
  rw [ld_at hg2 4 _ rfl, asSl_s, need_of hz, need_of hi, f102_l3, decide_eq_false (by decide), br_false, lds_all (n := 4) g2 rfl, uncons_c, asB_b, uncons_c, asB_b, uncons_c, asB_b, uncons_c, asB_b, endl_n, put_all (ws := [.bool true, .bool false, .bool false, .bool false]) hh1 rfl rfl]
  have s3 := Same.set σ2 σ.next (.own [.bool true, .bool false, .bool false, .bool false] 108)
  have g3 : (σ2.set σ.next (.own [.bool true, .bool false, .bool false, .bool false] 108)).get σ.next = some (.own [.bool true, .bool false, .bool false, .bool false] 108) := get_set_same _ _ _
  have s03 : Same σ (σ2.set σ.next (.own [.bool true, .bool false, .bool false, .bool false] 108)) [] := (s1.trans s2).fresh s3 (fun x hx => .inr (by simp at hx; subst hx; exact Nat.le_refl _))
  generalize σ2.set σ.next (.own [.bool true, .bool false, .bool false, .bool false] 108) = σ3 at s3 g3 s03
  rw [lds_all (n := 4) g3 rfl, uncons_c, asB_b, uncons_c, asB_b, uncons_c, asB_b, uncons_c, asB_b, endl_n, bnd_some]
  show ∃ ad z q σ', (asAgL (.agg [Value.bool true, .bool false, .bool false, .bool false].toArray) _) = _ ∧ _
  rw [asAgL_a]
  show ∃ ad z q σ', (uncons [Value.bool true, .bool false, .bool false, .bool false] _) = _ ∧ _
  rw [uncons_c, asB_b, uncons_c, asB_b, uncons_c, asB_b, uncons_c, asB_b, endl_n]
  have e103 := f103_eq (m + 6) k σ3 true false false false
  have s4 : Same σ3 (σ3.new (.own [.bool true, .bool false, .bool false, .bool false] 108)) [] := Same.new _ _ _
  have g4 : (σ3.new (.own [.bool true, .bool false, .bool false, .bool false] 108)).get σ3.next = some (.own [.bool true, .bool false, .bool false, .bool false] 108) := get_new_same _ _
  have n4 : (σ3.new (.own [.bool true, .bool false, .bool false, .bool false] 108)).next = σ3.next + 1 := rfl
  generalize σ3.new (.own [.bool true, .bool false, .bool false, .bool false] 108) = σ4 at s4 g4 n4 e103
  have i4 : ∀ x : Int, 0 ≤ x → x < 4 → inRange x 4 = true := fun x h1 h2 => by simp [inRange]; omega
  rw [lds_all (n := 4) g4 rfl, uncons_c, asB_b, uncons_c, asB_b, uncons_c, asB_b, uncons_c, asB_b, endl_n] at e103
  have l0 := f103_l3 (m + 6) k (m + 5) σ4 none 0 0 true false false false 0
  rw [decide_eq_true (by decide), br_true, need_of (i4 0 (by decide) (by decide)), show ∀ K : Value → Res, nth [Value.bool true, .bool false, .bool false, .bool false] (Int.toNat 0 * 1) K = K (.bool true) from fun _ => rfl, asB_b, br_true] at l0
  have s5 : Same σ4 (σ4.new (.own [.int .i64 0] 3)) [] := Same.new _ _ _
  have g5 : (σ4.new (.own [.int .i64 0] 3)).get σ4.next = some (.own [.int .i64 0] 3) := get_new_same _ _
  have n5 : (σ4.new (.own [.int .i64 0] 3)).next = σ4.next + 1 := rfl
  generalize σ4.new (.own [.int .i64 0] 3) = σ5 at s5 g5 n5 l0
  obtain ⟨ad, z, q, σ6, hgrow, hR, s6, hq⟩ := grow_row (by_ := 8) (Row.nil c1 1 3 σ5) (fun _ => rfl) (fun _ => rfl) (by omega) [(0 : Int)] [.int .i64 0] rfl 1 rfl (by simp; unfold roomTop; omega) (by simp; unfold sizeTop; omega)
  have hgrow' : ∀ K : Option Addr → Nat → Nat → St → Res, grow 3 1 8 none 0 0 1 [.int .i64 0] σ5 K = K ad 1 z σ6 := fun K => by have := hgrow K; simpa using this
  rw [row_one g5, hgrow', show IntKind.wrap .i64 ((0 : Int) + 1) = 1 from rfl] at l0
  have l1 := f103_l3 (m + 6) k (m + 4) σ6 ad 1 z true false false false 1
  rw [decide_eq_true (by decide), br_true, need_of (i4 1 (by decide) (by decide)), show ∀ K : Value → Res, nth [Value.bool true, .bool false, .bool false, .bool false] (Int.toNat 1 * 1) K = K (.bool false) from fun _ => rfl, asB_b, br_false, show IntKind.wrap .i64 ((1 : Int) + 1) = 2 from rfl] at l1
  have l2 := f103_l3 (m + 6) k (m + 3) σ6 ad 1 z true false false false 2
  rw [decide_eq_true (by decide), br_true, need_of (i4 2 (by decide) (by decide)), show ∀ K : Value → Res, nth [Value.bool true, .bool false, .bool false, .bool false] (Int.toNat 2 * 1) K = K (.bool false) from fun _ => rfl, asB_b, br_false, show IntKind.wrap .i64 ((2 : Int) + 1) = 3 from rfl] at l2
  have l3 := f103_l3 (m + 6) k (m + 2) σ6 ad 1 z true false false false 3
  rw [decide_eq_true (by decide), br_true, need_of (i4 3 (by decide) (by decide)), show ∀ K : Value → Res, nth [Value.bool true, .bool false, .bool false, .bool false] (Int.toNat 3 * 1) K = K (.bool false) from fun _ => rfl, asB_b, br_false, show IntKind.wrap .i64 ((3 : Int) + 1) = 4 from rfl] at l3
  have l4 := f103_l3 (m + 6) k (m + 1) σ6 ad 1 z true false false false 4
  rw [decide_eq_false (by decide), br_false] at l4
  have e : evCall Tryz.prog env (m + 6) (k + 1) 103 [.agg [.bool true, .bool false, .bool false, .bool false].toArray] σ3 = some (.slice ad 1 z, σ6) := e103.trans (l0.trans (l1.trans (l2.trans (l3.trans l4))))
  have e' : evCall Tryz.prog env (m + 6) (k + 1) 103 [.agg #[.bool true, .bool false, .bool false, .bool false]] σ3 = some (.slice ad 1 z, σ6) := e
  rw [e', bnd_some, asSl_s]
  have s36 : Same σ3 σ6 [] := (s4.trans s5).trans s6
  refine ⟨ad, z, q, σ6, rfl, by simpa using hR, fun x hx => ?_, s03.trans s36⟩
  rcases hq x hx with h | h
  · cases h
  · have := s03.1; have := s4.1; have := s5.1; omega

/-! New. -/
theorem stage_step (L k n : Nat) {σ0 σ : St} {m d nd i j : Nat} {s : IS} {R : List (List Nat)} {vs : List Value} (hI : ImS σ0 σ m d s R) (hw : s.work = none) (hj : R[j]? = some [nd]) (hn : σ.get nd = some (.own vs 121)) (hl : vs.length = 8) (hi : i < 4) :
    ∃ a σ', lpAt Tryz.prog env L (k + 1) 13 [true, true, true, true, false, true] [] (n + 1) [(8, ptr nd), (24, .int .i64 i)] σ = lpAt Tryz.prog env L (k + 1) 13 [true, true, true, true, false, true] [] n [(8, ptr nd), (24, .int .i64 ((i + 1 : Nat) : Int))] σ' ∧
      ImS σ0 σ' m d s ([a] :: R) ∧ σ'.get nd = some (.own (vs.set (2 + i) (ptr a)) 121) ∧ S.Stg σ' a [a] 1 [] 0 0 ∧ Same σ σ' [nd] ∧ σ.next ≤ a := by
  obtain ⟨σ1, g1, hS, s1⟩ := S.new_spec L k σ
  have hlt := hI.lt (List.mem_of_getElem? hj) nd (by simp)
  have hal := hS.lt σ.next (by simp)
  have hI1 := hI.push (X := [σ.next]) hw s1 (by simpa using hal)
  have hn1 : σ1.get nd = _ := (s1.2 nd hlt (by simp)).trans hn
  have hwr : IntKind.wrap .i64 ((i : Int) + 1) = ((i + 1 : Nat) : Int) := by rw [wrap_in _ (by omega) (by omega)]; omega
  rw [f13_l6, decide_eq_true (by omega), br_true, g1, bnd_some, asP_p, need_of (by simp [inRange]; omega), put_at hn1 (0 + 2 + Int.toNat (i : Int) * 1) (.pointer (some ⟨σ.next, 0, none⟩)) (by rw [hl]; simp; omega) rfl, hwr, show 0 + 2 + Int.toNat (i : Int) * 1 = 2 + i by simp]
  have s2 := Same.set σ1 nd (.own (vs.set (2 + i) (.pointer (some ⟨σ.next, 0, none⟩))) 121)
  have hT : Turn σ1 (σ1.set nd (.own (vs.set (2 + i) (.pointer (some ⟨σ.next, 0, none⟩))) 121)) [nd] [nd] := ⟨s2, fun q hq => ⟨.inl hq, by simp at hq ⊢; subst hq; have := s1.1; omega⟩⟩
  have hI2 := hI1.turned (j + 1) (by simpa using hj) hT
  have hset : ([σ.next] :: R).set (j + 1) [nd] = [σ.next] :: R := by
    rw [List.set_cons_succ]
    refine congrArg (List.cons [σ.next]) ?_
    apply List.ext_getElem?
    intro x
    rw [List.getElem?_set]
    split
    · rename_i h; subst h
      split
      · exact hj.symm
      · rename_i h; exact absurd (List.getElem?_eq_some_iff.1 hj).1 h
    · rfl
  rw [hset] at hI2
  exact ⟨σ.next, _, rfl, hI2, get_set_same _ _ _, hS.same s2 (by simp; omega), (s1.mono (by simp)).trans s2, Nat.le_refl _⟩
end Go.AM.Bk

/-
  THE BACKUP: New; what awake asks.
-/
namespace Go.AM.Bk
open Go.Proofs

/-- Of a node: its block. -/
def ndc (d m a0 a1 a2 a3 g : Nat) (mark : Int) : List Value := [ptr d, ptr m, ptr a0, ptr a1, ptr a2, ptr a3, ptr g, .int .i64 mark]

theorem bnew_spec (L k : Nat) (hL : 100000 < L) {σ0 σ : St} {d g : Nat} {F : List Nat} {R : List (List Nat)} (hD : D.Disk σ d F fresh66 []) (hO : Owns σ0 σ (F :: R)) :
    ∃ nd m a0 a1 a2 a3 σ', evCall Tryz.prog env L (k + 11) 13 [ptr d, ptr g] σ = some (.tuple #[ptr nd, .nilIface], σ') ∧ ImS σ0 σ' m d ⟨fresh66, [], 0, 0, noBlocks, none⟩ ([a3] :: [a2] :: [a1] :: [a0] :: [nd] :: R) ∧ σ'.get nd = some (.own (ndc d m a0 a1 a2 a3 g 0) 121) ∧
      S.Stg σ' a0 [a0] 1 [] 0 0 ∧ S.Stg σ' a1 [a1] 1 [] 0 0 ∧ S.Stg σ' a2 [a2] 1 [] 0 0 ∧ S.Stg σ' a3 [a3] 1 [] 0 0 ∧ (∀ H ∈ R, ∀ q ∈ H, σ'.get q = σ.get q) := by
  obtain ⟨L', rfl⟩ : ∃ L', L = L' + 5 := ⟨L - 5, by omega⟩
  obtain ⟨m, σ1, g1, hI1, k1, hinv⟩ := openGood hD hO (by unfold fresh66; simp) (L' + 5) k hL good66 (by omega)
  rw [f13_eq, g1, bnd_some, asT_t, toList2, uncons_c, asP_p, uncons_c, endl_n, eqNil_nil, not_true, br_false, need_true, need_true]
  have s2 : Same σ1 (σ1.new (.own [ptr d, ptr m, .pointer none, .pointer none, .pointer none, .pointer none, ptr g, .int .i64 0] 121)) [] := Same.new _ _ _
  have g2 : (σ1.new (.own [ptr d, ptr m, .pointer none, .pointer none, .pointer none, .pointer none, ptr g, .int .i64 0] 121)).get σ1.next = some (.own [ptr d, ptr m, .pointer none, .pointer none, .pointer none, .pointer none, ptr g, .int .i64 0] 121) := get_new_same _ _
  have n2 : (σ1.new (.own [ptr d, ptr m, .pointer none, .pointer none, .pointer none, .pointer none, ptr g, .int .i64 0] 121)).next = σ1.next + 1 := rfl
  have hI2 := hI1.push (X := [σ1.next]) rfl s2 (by simp [n2])
  have e0 : ∀ K : Res → Res, K (lpAt Tryz.prog env (L' + 5) (k + 10) 13 [true, true, true, true, false, true] [] (L' + 5) [(8, .pointer (some ⟨σ1.next, 0, none⟩)), (24, .int .i64 0)] (σ1.new (.own [ptr d, ptr m, .pointer none, .pointer none, .pointer none, .pointer none, ptr g, .int .i64 0] 121))) = K (lpAt Tryz.prog env (L' + 5) (k + 10) 13 [true, true, true, true, false, true] [] (L' + 5) [(8, ptr σ1.next), (24, .int .i64 ((0 : Nat) : Int))] (σ1.new (.own [ptr d, ptr m, .pointer none, .pointer none, .pointer none, .pointer none, ptr g, .int .i64 0] 121))) := fun _ => rfl
  show ∃ nd m' a0 a1 a2 a3 σ', lpAt Tryz.prog env (L' + 5) (k + 10) 13 [true, true, true, true, false, true] [] (L' + 5) [(8, ptr σ1.next), (24, .int .i64 ((0 : Nat) : Int))] (σ1.new (.own [ptr d, ptr m, .pointer none, .pointer none, .pointer none, .pointer none, ptr g, .int .i64 0] 121)) = _ ∧ _
  clear e0
  generalize σ1.new (.own [ptr d, ptr m, .pointer none, .pointer none, .pointer none, .pointer none, ptr g, .int .i64 0] 121) = σ2 at s2 g2 n2 hI2
  obtain ⟨a0, σ3, e3, hI3, g3, hS0, t3, l3⟩ := stage_step (L' + 5) (k + 9) (L' + 4) (j := 0) (i := 0) hI2 rfl rfl g2 rfl (by omega)
  obtain ⟨a1, σ4, e4, hI4, g4, hS1, t4, l4⟩ := stage_step (L' + 5) (k + 9) (L' + 3) (j := 1) (i := 1) hI3 rfl rfl g3 rfl (by omega)
  obtain ⟨a2, σ5, e5, hI5, g5, hS2, t5, l5⟩ := stage_step (L' + 5) (k + 9) (L' + 2) (j := 2) (i := 2) hI4 rfl rfl g4 rfl (by omega)
  obtain ⟨a3, σ6, e6, hI6, g6, hS3, t6, l6⟩ := stage_step (L' + 5) (k + 9) (L' + 1) (j := 3) (i := 3) hI5 rfl rfl g5 rfl (by omega)
  have h3 := t3.1; have h4 := t4.1; have h5 := t5.1
  have e7 : lpAt Tryz.prog env (L' + 5) (k + 10) 13 [true, true, true, true, false, true] [] (L' + 1) [(8, ptr σ1.next), (24, .int .i64 ((3 + 1 : Nat) : Int))] σ6 = some (.tuple #[ptr σ1.next, .nilIface], σ6) := by
    rw [f13_l6, decide_eq_false (by decide), br_false]
  refine ⟨σ1.next, m, a0, a1, a2, a3, σ6, e3.trans (e4.trans (e5.trans (e6.trans e7))), hI6, g6, ((hS0.same t4 (by simp; omega)).same t5 (by simp; omega)).same t6 (by simp; omega), (hS1.same t5 (by simp; omega)).same t6 (by simp; omega), hS2.same t6 (by simp; omega), hS3, fun H hH q hq => ?_⟩
  have hq1 := hI1.lt hH q hq
  have ht : Same σ2 σ6 [σ1.next] := ((t3.trans t4).trans t5).trans t6
  rw [ht.2 q (by omega) (by simp; omega), s2.2 q hq1 (by simp)]
  exact k1 H hH q hq

/-- Take: a marker, at the first stage. -/
theorem btake_spec (L k : Nat) {σ : St} {d m a0 a1 a2 a3 g nd : Nat} (hn : σ.get nd = some (.own (ndc d m a0 a1 a2 a3 g 0) 121)) (hlt : nd < σ.next) (hS : S.Stg σ a0 [a0] 1 [] 0 0) (hne : nd ≠ a0) :
    ∃ F' σ', evCall Tryz.prog env L (k + 4) 21 [ptr nd, .int .i64 0, .agg #[.int .i64 1, .int .i64 2, .int .i64 0, .string ⟨#[]⟩, .int .i64 4]] σ = some (.tuple #[.int .i64 1, .nilIface], σ') ∧ S.Stg σ' a0 F' 1 [⟨1, 2, 0, ⟨#[]⟩, 4⟩] 1 0 ∧ Turn σ σ' [a0] F' := by
  have e := f21_eq L (k + 3) σ nd 0 1 2 0 ⟨#[]⟩ 4
  have s1 : Same σ (σ.new (.own [.int .i64 1, .int .i64 2, .int .i64 0, .string ⟨#[]⟩, .int .i64 4] 58)) [] := Same.new _ _ _
  have g1 : (σ.new (.own [.int .i64 1, .int .i64 2, .int .i64 0, .string ⟨#[]⟩, .int .i64 4] 58)).get σ.next = some (.own [.int .i64 1, .int .i64 2, .int .i64 0, .string ⟨#[]⟩, .int .i64 4] 58) := get_new_same _ _
  generalize σ.new (.own [.int .i64 1, .int .i64 2, .int .i64 0, .string ⟨#[]⟩, .int .i64 4] 58) = σ1 at s1 g1 e
  have hn1 : σ1.get nd = _ := (s1.2 nd hlt (by simp)).trans hn
  have i0 : inRange 0 4 = true := rfl
  obtain ⟨v, σ2, g2, F', rfl, hS2, hT2⟩ := S.take_mark (hS.idle s1) L k (by omega) (by omega) (by simp) (Nat.le_refl _) 4 (by omega) (by omega)
  have g2' : evCall Tryz.prog env L (k + 3) 59 [.pointer (some ⟨a0, 0, none⟩), .agg #[.int .i64 1, .int .i64 2, .int .i64 0, .string ⟨#[]⟩, .int .i64 4]] σ1 = some (.int .i64 1, σ2) := g2
  have hn2 : σ2.get nd = _ := (hT2.same.2 nd (by have := s1.1; omega) (by simpa using hne)).trans hn1
  obtain ⟨σ3, g3, hS3, hT3⟩ := S.flush_spec hS2 L (k + 2)
  rw [decide_eq_false (by decide), br_false, decide_eq_false (by decide), br_false, need_of i0, ld_at hn1 (2 + Int.toNat 0 * 1) (ptr a0) rfl, asP_p, lds_all (n := 5) g1 rfl, uncons_c, asI_i, uncons_c, asI_i, uncons_c, asI_i, uncons_c, asS_s, uncons_c, asI_i, endl_n, g2', bnd_some, asI_i, need_of i0, ld_at hn2 (2 + Int.toNat 0 * 1) (ptr a0) rfl, asP_p, g3, bnd_some, asT_t, toList0, endl_n] at e
  exact ⟨F', σ3, e, hS3, (Turn.before s1 hT2 (fun q hq => hS.lt q hq)).trans hT3⟩

/-- The marker can be applied. -/
theorem can_spec (L k : Nat) (hL : 100000 < L) {σ : St} {d m a0 a1 a2 a3 g nd : Nat} {F0 : List Nat} {t : Int} {bl : List ByteArray} {w : Option Addr} (hn : σ.get nd = some (.own (ndc d m a0 a1 a2 a3 g 0) 121)) (hlt : nd < σ.next) (hg : σ.get g = some (.own [.bool true, .bool false, .bool false, .bool false, .slice none 0 0] 111)) (hgl : g < σ.next)
    (hS : S.Stg σ a0 F0 1 [⟨1, 2, 0, ⟨#[]⟩, 4⟩] 1 0) (hI : Img σ m d t 0 bl w) : ∃ σ', evCall Tryz.prog env L (k + 4) 58 [ptr nd, .int .i64 4] σ = some (.bool true, σ') ∧ Same σ σ' [] := by
  obtain ⟨L', rfl⟩ : ∃ L', L = L' + 2 := ⟨L - 2, by omega⟩
  obtain ⟨ad, z, q, σ1, g1, hR, hq, s1⟩ := at_spec (L' + 2) (k + 1) (by omega) hg hgl 4
  have hn1 : σ1.get nd = _ := (s1.2 nd hlt (by simp)).trans hn
  obtain ⟨p, e, hat⟩ := hR.at (fun _ => rfl) (i := 0) (a := (0 : Int)) rfl
  subst e
  have i1 : inRange 0 ((1 : Nat) : Int) = true := rfl
  have i4 : inRange 0 4 = true := rfl
  rw [f58_eq, ld_at hn 6 (ptr g) rfl, asP_p, g1, bnd_some, asSl_s, f58_l3, decide_eq_true (by decide), br_true, need_of i1, adr_some, hat 0 (.int .i64 0) (0 + Int.toNat 0 * 1) (by omega) rfl rfl, asI_i, need_of i4, ld_at hn1 (0 + 2 + Int.toNat 0 * 1) (ptr a0) rfl, asP_p]
  rcases S.upto_spec (hS.idle s1) (L' + 2) k (by omega) (by simp) (by simp) 4 with ⟨j, r, ad2, z2, q2, σ2, g2, _, s2, _⟩ | ⟨σ2, _, _, hno⟩
  rotate_left
  · exact absurd ⟨rfl, rfl⟩ (hno ⟨1, 2, 0, ⟨#[]⟩, 4⟩ (by simp))
  have s12 := s1.trans s2
  have hn2 : σ2.get nd = _ := (s2.2 nd (by have := s1.1; omega) (by simp)).trans hn1
  have hm := mark_spec (hI.same s12 (by simp)) (L' + 2) (k + 2)
  rw [g2, bnd_some, asT_t, toList2, uncons_c, asSl_s, uncons_c, asB_b, endl_n, not_true, br_false, show IntKind.wrap .i64 ((0 : Int) + 1) = 1 from rfl, f58_l3, decide_eq_false (by decide), br_false, ld_at hn2 (0 + 1) (ptr m) rfl, asP_p, hm, bnd_some, asI_i, decide_eq_true (by decide), br_true]
  exact ⟨σ2, rfl, s12⟩

/-- A stage without markers adds nothing. -/
theorem ready_none (L k n : Nat) (hL : 10 < L) {σ : St} {nd a : Nat} {s3 : Int} {p0 p1 p2 p3 : Option Addr} {i : Int} {F : List Nat} (hi : 0 ≤ i ∧ i < 4) (hnth : ∀ K : Value → Res, nth [Value.pointer p0, Value.pointer p1, Value.pointer p2, Value.pointer p3] (Int.toNat i * 1) K = K (ptr a)) (hS : S.Stg σ a F 1 [] 0 0) :
    ∃ σ', lpAt Tryz.prog env L (k + 2) 19 [true, true, true, false, true] [] (n + 1) [(0, ptr nd), (3, .int .i64 s3), (13, .agg [.pointer p0, .pointer p1, .pointer p2, .pointer p3].toArray), (14, .int .i64 i)] σ =
      lpAt Tryz.prog env L (k + 2) 19 [true, true, true, false, true] [] n [(0, ptr nd), (3, .int .i64 s3), (13, .agg [.pointer p0, .pointer p1, .pointer p2, .pointer p3].toArray), (14, .int .i64 (i + 1))] σ' ∧ Same σ σ' [] := by
  obtain ⟨L', rfl⟩ : ∃ L', L = L' + 1 := ⟨L - 1, by omega⟩
  obtain ⟨v, σ1, g1, ad, z, q, rfl, hR, s1, _⟩ := S.marks_spec hS (L' + 1) k (by simp) (by simp) (Nat.le_refl _)
  have hw : IntKind.wrap .i64 (i + 1) = i + 1 := wrap_in _ (by omega) (by omega)
  rw [f19_l5, decide_eq_true hi.2, br_true, need_of (by simp [inRange]; omega), hnth, asP_p, g1, bnd_some, asSl_s, f19_l8, decide_eq_false (by decide), br_false, hw]
  exact ⟨σ1, rfl, s1⟩

theorem awake_spec (L k : Nat) (hL : 100000 < L) (σ : St) : ∃ σ', evCall Tryz.prog env L (k + 12) 7 [] σ = some (.bool true, σ') ∧ Same σ σ' [] := by
  obtain ⟨L', rfl⟩ : ∃ L', L = L' + 6 := ⟨L - 6, by omega⟩
  have s1 : Same σ (σ.new (.own [.int .i64 0] 3)) [] := Same.new _ _ _
  have g1 : (σ.new (.own [.int .i64 0] 3)).get σ.next = some (.own [.int .i64 0] 3) := get_new_same _ _
  have n1 : (σ.new (.own [.int .i64 0] 3)).next = σ.next + 1 := rfl
  rw [f7_eq]
  generalize σ.new (.own [.int .i64 0] 3) = σ1 at s1 g1 n1
  obtain ⟨g, σ2, e2, hg2, s2, hgl, hgl2⟩ := zero_spec (L' + 6) (k + 9) (by omega) g1 (by omega)
  have hO2 : Owns σ σ2 [[g]] := ((Owns.start σ).idle s1).more s2 (by simp; omega)
  obtain ⟨d, F, σ3, e3, hD3, hO3, s3⟩ := new66 (L' + 6) (k + 10) hO2
  obtain ⟨nd, m, a0, a1, a2, a3, σ4, e4, hI4, hn4, hS0, hS1, hS2, hS3, k4⟩ := bnew_spec (L' + 6) k hL (g := g) hD3 hO3
  have hg4 : σ4.get g = _ := (k4 [g] (by simp) g (by simp)).trans ((s3.2 g hgl2 (by simp)).trans hg2)
  obtain ⟨FF, GG, ww, _, hImg, hO4, _, _⟩ := hI4.ex
  have hdis : ∀ i j : Nat, ∀ x y : Nat, i ≠ j → ([[a3], [a2], [a1], [a0], [nd], [g]] : List (List Nat))[i]? = some [x] → ([[a3], [a2], [a1], [a0], [nd], [g]] : List (List Nat))[j]? = some [y] → x ≠ y := fun i j x y hij hi hj h => by
    have := hO4.off (i + 2) (j + 2) (by omega) (by simpa using hi) (by simpa using hj) x (by simp)
    simp at this
    exact this h
  obtain ⟨F5, σ5, e5, hS5, hT5⟩ := btake_spec (L' + 6) (k + 7) hn4 (hI4.lt (H := [nd]) (by simp) nd (by simp)) hS0 (hdis 4 3 nd a0 (by omega) rfl rfl)
  have hI5 := hI4.turned 3 rfl hT5
  have hx5 : ∀ x, x < σ4.next → x ≠ a0 → σ5.get x = σ4.get x := fun x hx hne => hT5.same.2 x hx (by simpa using hne)
  have hndl := hI4.lt (H := [nd]) (by simp) nd (by simp)
  have hgl4 := hI4.lt (H := [g]) (by simp) g (by simp)
  have hn5 : σ5.get nd = _ := (hx5 nd hndl (hdis 4 3 nd a0 (by omega) rfl rfl)).trans hn4
  have hg5 : σ5.get g = _ := (hx5 g hgl4 (hdis 5 3 g a0 (by omega) rfl rfl)).trans hg4
  have n5 := hT5.same.1
  have hS15 := hS1.same hT5.same (by simp; exact hdis 2 3 a1 a0 (by omega) rfl rfl)
  have hS25 := hS2.same hT5.same (by simp; exact hdis 1 3 a2 a0 (by omega) rfl rfl)
  have hS35 := hS3.same hT5.same (by simp; exact hdis 0 3 a3 a0 (by omega) rfl rfl)
  obtain ⟨FF5, GG5, ww5, _, hImg5, _⟩ := hI5.ex
  -- Ready
  obtain ⟨v6, σ6, e6, ad6, z6, q6, rfl, hR6, s6, _⟩ := S.marks_spec hS5 (L' + 6) (k + 8) (by simp) (by simp) (Nat.le_refl _)
  obtain ⟨σ7, e7, s7⟩ := can_spec (L' + 6) (k + 6) hL ((s6.2 nd (by omega) (by simp)).trans hn5) (by have := s6.1; omega) ((s6.2 g (by omega) (by simp)).trans hg5) (by have := s6.1; omega) (hS5.idle s6) (hImg5.same s6 (by simp))
  have s57 := s6.trans s7
  obtain ⟨σ8, e8, s8⟩ := ready_none (L' + 6) (k + 8) (L' + 4) (by omega) (nd := nd) (s3 := 4) (p0 := some ⟨a0, 0, none⟩) (p1 := some ⟨a1, 0, none⟩) (p2 := some ⟨a2, 0, none⟩) (p3 := some ⟨a3, 0, none⟩) (i := 1) (by omega) (fun _ => rfl) (hS15.idle s57)
  obtain ⟨σ9, e9, s9⟩ := ready_none (L' + 6) (k + 8) (L' + 3) (by omega) (nd := nd) (s3 := 4) (p0 := some ⟨a0, 0, none⟩) (p1 := some ⟨a1, 0, none⟩) (p2 := some ⟨a2, 0, none⟩) (p3 := some ⟨a3, 0, none⟩) (i := 1 + 1) (by omega) (fun _ => rfl) ((hS25.idle s57).idle s8)
  obtain ⟨σ10, e10, s10⟩ := ready_none (L' + 6) (k + 8) (L' + 2) (by omega) (nd := nd) (s3 := 4) (p0 := some ⟨a0, 0, none⟩) (p1 := some ⟨a1, 0, none⟩) (p2 := some ⟨a2, 0, none⟩) (p3 := some ⟨a3, 0, none⟩) (i := 1 + 1 + 1) (by omega) (fun _ => rfl) (((hS35.idle s57).idle s8).idle s9)
  obtain ⟨p, ep, hat⟩ := hR6.at (fun _ => rfl) (i := 0) (a := (4 : Int)) rfl
  have hRdy : evCall Tryz.prog env (L' + 6) (k + 11) 19 [ptr nd] σ5 = some (.int .i64 4, σ10) := by
    have i1 : inRange 0 ((1 : Nat) : Int) = true := rfl
    have i4 : inRange 0 4 = true := rfl
    have hat7 : ∀ K : Value → Res, σ6.ld p (0 + Int.toNat 0 * 1) K = K (.int .i64 4) := fun K => hat 0 (.int .i64 4) _ (by omega) rfl rfl K
    have e6' : evCall Tryz.prog env (L' + 6) (k + 10) 57 [.pointer (some ⟨a0, 0, none⟩)] σ5 = some (.slice (some ⟨p, 0, none⟩) 1 z6, σ6) := by rw [← ep]; exact e6
    rw [f19_eq, lds_own (n := 4) _ hn5 (by simp [ndc])]
    show (uncons [ptr a0, ptr a1, ptr a2, ptr a3] _) = _
    rw [uncons_c, asP_p, uncons_c, asP_p, uncons_c, asP_p, uncons_c, asP_p, endl_n]
    have l0 := f19_l5 (L' + 6) (k + 10) (L' + 5) σ5 nd 0 0 (some ⟨a0, 0, none⟩) (some ⟨a1, 0, none⟩) (some ⟨a2, 0, none⟩) (some ⟨a3, 0, none⟩) 0
    rw [decide_eq_true (by decide), br_true, need_of i4, show ∀ K : Value → Res, nth [Value.pointer (some ⟨a0, 0, none⟩), Value.pointer (some ⟨a1, 0, none⟩), Value.pointer (some ⟨a2, 0, none⟩), Value.pointer (some ⟨a3, 0, none⟩)] (Int.toNat 0 * 1) K = K (ptr a0) from fun _ => rfl, asP_p, e6', bnd_some, asSl_s] at l0
    have l1 := f19_l8 (L' + 6) (k + 10) (L' + 5) (L' + 5) σ6 nd 0 0 (some ⟨a0, 0, none⟩) (some ⟨a1, 0, none⟩) (some ⟨a2, 0, none⟩) (some ⟨a3, 0, none⟩) 0 (some ⟨p, 0, none⟩) 1 z6 1 0
    rw [decide_eq_true (by decide), br_true, need_of i1, adr_some, hat7, asI_i, decide_eq_true (by decide), br_true, e7, bnd_some, asB_b, br_true, show IntKind.wrap .i64 ((0 : Int) + 1) = 1 from rfl] at l1
    have l2 := f19_l8 (L' + 6) (k + 10) (L' + 5) (L' + 4) σ7 nd 0 4 (some ⟨a0, 0, none⟩) (some ⟨a1, 0, none⟩) (some ⟨a2, 0, none⟩) (some ⟨a3, 0, none⟩) 0 (some ⟨p, 0, none⟩) 1 z6 1 1
    rw [decide_eq_false (by decide), br_false, show IntKind.wrap .i64 ((0 : Int) + 1) = 1 from rfl] at l2
    have l3 := f19_l5 (L' + 6) (k + 10) (L' + 1) σ10 nd 0 4 (some ⟨a0, 0, none⟩) (some ⟨a1, 0, none⟩) (some ⟨a2, 0, none⟩) (some ⟨a3, 0, none⟩) (1 + 1 + 1 + 1)
    rw [decide_eq_false (by decide), br_false] at l3
    exact l0.trans (l1.trans (l2.trans (e8.trans (e9.trans (e10.trans l3)))))
  have e5' : evCall Tryz.prog env (L' + 6) (k + 11) 21 [ptr nd, .int .i64 0, .agg #[.int .i64 1, .int .i64 2, .int .i64 0, .string ⟨#[]⟩, .int .i64 4]] σ4 = _ := e5
  rw [e2, bnd_some, asT_t, toList2, uncons_c, asP_p, uncons_c, endl_n, e3, bnd_some, asP_p, e4, bnd_some, asT_t, toList2, uncons_c, asP_p, uncons_c, endl_n, eqNil_nil, not_true, br_false, show Option.isNone (some (⟨nd, 0, none⟩ : Addr)) = false from rfl, br_false, e5', bnd_some, asT_t, toList2, uncons_c, asI_i, uncons_c, endl_n, show ((1 : Int) == 1) = true from rfl, br_true, eqNil_nil, br_true, hRdy, bnd_some, asI_i, show ((4 : Int) == 4) = true from rfl]
  refine ⟨σ10, rfl, ?_⟩
  obtain ⟨_, _, _, _, _, hO5, _⟩ := hI5.ex
  have hk5 := hO5.kept
  have s510 := ((s57.trans s8).trans s9).trans s10
  have n510 := s510.1
  exact ⟨by have := hk5.1; omega, fun x hx _ => by rw [s510.2 x (by have := hk5.1; omega) (by simp)]; exact hk5.2 x hx⟩
end Go.AM.Bk

/-
  BackupNil.
-/
namespace Go.AM.Bk
open Go.Proofs

theorem bwrong_any (L k : Nat) (σ : St) (at_ e : Int) (he : e ≠ 0) : ∃ v σ', evCall Tryz.prog env L (k + 2) 46 [.int .i64 at_, .iface 70 (.int .i64 e)] σ = some (v, σ') ∧ E.Err σ' v e at_ ∧ Same σ σ' [] := by
  rw [f46_eq, f42_eq, eqNil_iface, br_false]
  have hb : ∀ K : Res, eqErr (.iface 70 (.int .i64 e)) 70 .i64 0 (fun v2 => br v2 (some (Value.nilIface, σ)) K) = K := by
    intro K
    have : eqErr (.iface 70 (.int .i64 e)) 70 .i64 0 (fun v2 => br v2 (some (Value.nilIface, σ)) K) = br (e == 0) (some (Value.nilIface, σ)) K := by simp [eqErr]
    rw [this, show (e == 0) = false by simpa using he, br_false]
  rw [hb, need_true, need_of (show oneCell (Value.iface 70 (Value.int .i64 e)) = true from rfl), need_true, bnd_some]
  exact ⟨_, _, rfl, ⟨σ.next, rfl, get_new_same _ _, by simp⟩, Same.new _ _ _⟩

theorem f16_nil (L k : Nat) (σ : St)  : evCall Go.Proofs.Tryz.prog Go.AM.Bk.env L (k + 1) 16 [.pointer none] σ = AM.St.put (AM.St.new σ (AM.Blk.own [Value.string { data := #[] }, Value.string { data := #[] }, Value.string { data := #[] }, Value.string { data := #[] }, Value.string { data := #[] }, Value.string { data := #[] }, Value.string { data := #[] }, Value.string { data := #[] }, Value.string { data := #[] }, Value.string { data := #[] }, Value.string { data := #[] }, Value.string { data := #[] }, Value.string { data := #[] }, Value.string { data := #[] }, Value.string { data := #[] }, Value.string { data := #[] }, Value.string { data := #[] }, Value.string { data := #[] }, Value.string { data := #[] }, Value.string { data := #[] }, Value.string { data := #[] }, Value.string { data := #[] }, Value.string { data := #[] }, Value.string { data := #[] }, Value.string { data := #[] }, Value.string { data := #[] }, Value.string { data := #[] }, Value.string { data := #[] }, Value.string { data := #[] }, Value.string { data := #[] }, Value.string { data := #[] }, Value.string { data := #[] }] (45 : Nat))) (AM.St.next σ) (0 : Nat) [Value.string { data := #[] }, Value.string { data := #[] }, Value.string { data := #[] }, Value.string { data := #[] }, Value.string { data := #[] }, Value.string { data := #[] }, Value.string { data := #[] }, Value.string { data := #[] }, Value.string { data := #[] }, Value.string { data := #[] }, Value.string { data := #[] }, Value.string { data := #[] }, Value.string { data := #[] }, Value.string { data := #[] }, Value.string { data := #[] }, Value.string { data := #[] }, Value.string { data := #[] }, Value.string { data := #[] }, Value.string { data := #[] }, Value.string { data := #[] }, Value.string { data := #[] }, Value.string { data := #[] }, Value.string { data := #[] }, Value.string { data := #[] }, Value.string { data := #[] }, Value.string { data := #[] }, Value.string { data := #[] }, Value.string { data := #[] }, Value.string { data := #[] }, Value.string { data := #[] }, Value.string { data := #[] }, Value.string { data := #[] }] fun v1 => AM.St.lds v1 (AM.St.next σ) (0 : Nat) (32 : Nat) fun v2 => some (Value.tuple #[Value.agg (List.toArray v2), Value.int IntKind.i64 (0 : Int)], v1) := by kernel_rfl
theorem f26_nil (L k : Nat) (σ : St)  : evCall Go.Proofs.Tryz.prog Go.AM.Bk.env L (k + 1) 26 [.pointer none] σ = AM.St.lds (AM.St.new (AM.St.new σ (AM.Blk.own [Value.int IntKind.i64 (0 : Int), Value.int IntKind.i64 (0 : Int), Value.int IntKind.i64 (0 : Int), Value.int IntKind.i64 (0 : Int)] (68 : Nat))) (AM.Blk.own [Value.int IntKind.i64 (0 : Int), Value.int IntKind.i64 (0 : Int), Value.int IntKind.i64 (0 : Int), Value.int IntKind.i64 (0 : Int)] (68 : Nat))) (AM.St.next (AM.St.new σ (AM.Blk.own [Value.int IntKind.i64 (0 : Int), Value.int IntKind.i64 (0 : Int), Value.int IntKind.i64 (0 : Int), Value.int IntKind.i64 (0 : Int)] (68 : Nat)))) (0 : Nat) (4 : Nat) fun v1 => AM.uncons v1 fun v2 v3 => AM.asI IntKind.i64 v2 fun v4 => AM.uncons v3 fun v5 v6 => AM.asI IntKind.i64 v5 fun v7 => AM.uncons v6 fun v8 v9 => AM.asI IntKind.i64 v8 fun v10 => AM.uncons v9 fun v11 v12 => AM.asI IntKind.i64 v11 fun v13 => AM.endl v12 (AM.St.put (AM.St.new (AM.St.new σ (AM.Blk.own [Value.int IntKind.i64 (0 : Int), Value.int IntKind.i64 (0 : Int), Value.int IntKind.i64 (0 : Int), Value.int IntKind.i64 (0 : Int)] (68 : Nat))) (AM.Blk.own [Value.int IntKind.i64 (0 : Int), Value.int IntKind.i64 (0 : Int), Value.int IntKind.i64 (0 : Int), Value.int IntKind.i64 (0 : Int)] (68 : Nat))) (AM.St.next σ) (0 : Nat) [Value.int IntKind.i64 v4, Value.int IntKind.i64 v7, Value.int IntKind.i64 v10, Value.int IntKind.i64 v13] fun v14 => AM.St.lds v14 (AM.St.next σ) (0 : Nat) (4 : Nat) fun v15 => AM.uncons v15 fun v16 v17 => AM.asI IntKind.i64 v16 fun v18 => AM.uncons v17 fun v19 v20 => AM.asI IntKind.i64 v19 fun v21 => AM.uncons v20 fun v22 v23 => AM.asI IntKind.i64 v22 fun v24 => AM.uncons v23 fun v25 v26 => AM.asI IntKind.i64 v25 fun v27 => AM.endl v26 (some (Value.agg #[Value.int IntKind.i64 v18, Value.int IntKind.i64 v21, Value.int IntKind.i64 v24, Value.int IntKind.i64 v27], v14))) := by kernel_rfl
section
variable (L k : Nat) (σ : St)
theorem bnil21 (v a b c : Int) (s : ByteArray) (e : Int) : evCall Tryz.prog env L (k + 1) 21 [.pointer none, .int .i64 v, .agg #[.int .i64 a, .int .i64 b, .int .i64 c, .string s, .int .i64 e]] σ = bnd (evCall Tryz.prog env L k 46 [.int .i64 0, .iface 70 (.int .i64 11)] (σ.new (.own [.int .i64 a, .int .i64 b, .int .i64 c, .string s, .int .i64 e] 58))) fun v σ' => some (.tuple #[.int .i64 0, v], σ') := by kernel_rfl
theorem bnil22 : evCall Tryz.prog env L (k + 1) 22 [.pointer none] σ = bnd (evCall Tryz.prog env L k 46 [.int .i64 0, .iface 70 (.int .i64 11)] σ) fun v σ' => some (.tuple #[.int .i64 0, v], σ') := by kernel_rfl
theorem bnil23 : evCall Tryz.prog env L (k + 1) 23 [.pointer none] σ = bnd (evCall Tryz.prog env L k 46 [.int .i64 0, .iface 70 (.int .i64 11)] σ) fun v σ' => some (.tuple #[.bool false, v], σ') := by kernel_rfl
theorem bnil24 (x : Int) : evCall Tryz.prog env L (k + 1) 24 [.pointer none, .int .u64 x] σ = bnd (evCall Tryz.prog env L k 46 [.int .i64 0, .iface 70 (.int .i64 11)] σ) fun v σ' => some (v, σ') := by kernel_rfl
theorem bnil19 : evCall Tryz.prog env L (k + 1) 19 [.pointer none] σ = some (.int .i64 0, σ) := by kernel_rfl
theorem bnil25 : evCall Tryz.prog env L (k + 1) 25 [.pointer none] σ = some (.int .i64 0, σ) := by kernel_rfl
theorem bnil16 : ∃ σ', evCall Tryz.prog env L (k + 1) 16 [.pointer none] σ = some (.tuple #[.agg (strs noBlocks).toArray, .int .i64 0], σ') ∧ Same σ σ' [] := by
  rw [f16_nil, lit32, tmp_put2 σ (strs noBlocks) (strs noBlocks) 45 rfl (strs_one _), lds_all (n := 32) (get_new_same _ _) rfl]
  exact ⟨_, rfl, Same.new _ _ _⟩
theorem bnil26 : ∃ σ', evCall Tryz.prog env L (k + 1) 26 [.pointer none] σ = some (.agg #[.int .i64 0, .int .i64 0, .int .i64 0, .int .i64 0], σ') ∧ Same σ σ' [] := by
  rw [f26_nil]
  have s1 : Same σ (σ.new (.own [.int .i64 0, .int .i64 0, .int .i64 0, .int .i64 0] 68)) [] := Same.new _ _ _
  have g1 : (σ.new (.own [.int .i64 0, .int .i64 0, .int .i64 0, .int .i64 0] 68)).get σ.next = some (.own [.int .i64 0, .int .i64 0, .int .i64 0, .int .i64 0] 68) := get_new_same _ _
  have n1 : (σ.new (.own [.int .i64 0, .int .i64 0, .int .i64 0, .int .i64 0] 68)).next = σ.next + 1 := rfl
  generalize σ.new (.own [.int .i64 0, .int .i64 0, .int .i64 0, .int .i64 0] 68) = σ1 at s1 g1 n1
  have s2 : Same σ1 (σ1.new (.own [.int .i64 0, .int .i64 0, .int .i64 0, .int .i64 0] 68)) [] := Same.new _ _ _
  have g2 : (σ1.new (.own [.int .i64 0, .int .i64 0, .int .i64 0, .int .i64 0] 68)).get σ1.next = some (.own [.int .i64 0, .int .i64 0, .int .i64 0, .int .i64 0] 68) := get_new_same _ _
  generalize σ1.new (.own [.int .i64 0, .int .i64 0, .int .i64 0, .int .i64 0] 68) = σ2 at s2 g2
  have h2 : σ2.get σ.next = _ := (s2.2 σ.next (by omega) (by simp)).trans g1
  rw [lds_all (n := 4) g2 rfl, uncons_c, asI_i, uncons_c, asI_i, uncons_c, asI_i, uncons_c, asI_i, endl_n, put_all (ws := [.int .i64 0, .int .i64 0, .int .i64 0, .int .i64 0]) h2 rfl rfl]
  have s3 := Same.set σ2 σ.next (.own [.int .i64 0, .int .i64 0, .int .i64 0, .int .i64 0] 68)
  have g3 : (σ2.set σ.next (.own [.int .i64 0, .int .i64 0, .int .i64 0, .int .i64 0] 68)).get σ.next = some (.own [.int .i64 0, .int .i64 0, .int .i64 0, .int .i64 0] 68) := get_set_same _ _ _
  generalize σ2.set σ.next (.own [.int .i64 0, .int .i64 0, .int .i64 0, .int .i64 0] 68) = σ3 at s3 g3
  rw [lds_all (n := 4) g3 rfl, uncons_c, asI_i, uncons_c, asI_i, uncons_c, asI_i, uncons_c, asI_i, endl_n]
  exact ⟨σ3, rfl, (s1.trans s2).fresh s3 (fun x hx => .inr (by simp at hx; subst hx; exact Nat.le_refl _))⟩
end

theorem nil_holds (L k : Nat) (hL : 100000 < L) (σ : St) (v a b c : Int) (s : ByteArray) (e keep : Int) : ∃ σ', evCall Tryz.prog env L (k + 13) 5 [.int .i64 v, .agg [.int .i64 a, .int .i64 b, .int .i64 c, .string s, .int .i64 e].toArray, .int .u64 keep] σ = some (.bool true, σ') := by
  rw [f5_eq]
  have g1 : (σ.new (.own [.int .i64 a, .int .i64 b, .int .i64 c, .string s, .int .i64 e] 58)).get σ.next = some (.own [.int .i64 a, .int .i64 b, .int .i64 c, .string s, .int .i64 e] 58) := get_new_same _ _
  have n1 : (σ.new (.own [.int .i64 a, .int .i64 b, .int .i64 c, .string s, .int .i64 e] 58)).next = σ.next + 1 := rfl
  generalize σ.new (.own [.int .i64 a, .int .i64 b, .int .i64 c, .string s, .int .i64 e] 58) = σ1 at g1 n1
  obtain ⟨σ2, e2, s2⟩ := awake_spec L k hL σ1
  have g2 : σ2.get σ.next = _ := (s2.2 σ.next (by omega) (by simp)).trans g1
  rw [e2, bnd_some, asB_b, not_true, br_false, ld_at g2 3 _ rfl, asS_s]
  by_cases hl : ((s.size : Nat) : Int) > 100
  · obtain ⟨σ3, e3, _⟩ := awake_spec L k hL σ2
    rw [decide_eq_true hl, br_true, e3, bnd_some, asB_b]; exact ⟨σ3, rfl⟩
  rw [decide_eq_false hl, br_false, lds_all (n := 5) g2 rfl, uncons_c, asI_i, uncons_c, asI_i, uncons_c, asI_i, uncons_c, asS_s, uncons_c, asI_i, endl_n, bnil21]
  obtain ⟨va, σ3, e3, hEa, s3⟩ := bwrong_any L (k + 9) (σ2.new (.own [.int .i64 a, .int .i64 b, .int .i64 c, .string s, .int .i64 e] 58)) 0 11 (by decide)
  obtain ⟨vb, σ4, e4, hEb, s4⟩ := bwrong_any L (k + 9) σ3 0 11 (by decide)
  obtain ⟨vc, σ5, e5, hEc, s5⟩ := bwrong_any L (k + 9) σ4 0 11 (by decide)
  obtain ⟨σ5b, e5b, s5b⟩ := bnil16 L (k + 11) σ5
  rw [e3, bnd_some, bnd_some, asT_t, toList2, uncons_c, asI_i, uncons_c, endl_n, bnil22, e4, bnd_some, bnd_some, asT_t, toList2, uncons_c, asI_i, uncons_c, endl_n, bnil23, e5, bnd_some, bnd_some, asT_t, toList2, uncons_c, asB_b, uncons_c, endl_n, e5b, bnd_some, asT_t, toList2, uncons_c]
  have ht : ∀ b : List ByteArray, (strs b).toArray.toList = strs b := fun _ => rfl
  have i32 : Nat.beq (strs noBlocks).length 32 = true := rfl
  rw [asAgL_a, ht, uncons_c, asI_i, endl_n, need_of i32, lit32, tmp_put2 σ5b (strs noBlocks) (strs noBlocks) 45 rfl (strs_one _)]
  have s6 : Same σ5b (σ5b.new (.own (strs noBlocks) 45)) [] := Same.new _ _ _
  have g6 : (σ5b.new (.own (strs noBlocks) 45)).get σ5b.next = some (.own (strs noBlocks) 45) := get_new_same _ _
  have n6 : (σ5b.new (.own (strs noBlocks) 45)).next = σ5b.next + 1 := rfl
  generalize σ5b.new (.own (strs noBlocks) 45) = σ6 at s6 g6 n6
  obtain ⟨σ7, e7, s7⟩ := E.place_ok L (k + 8) (by omega) (.inr ⟨((((hEa.same s4).same s5).same s5b).same s6), by decide⟩)
  obtain ⟨σ8, e8, s8⟩ := E.place_ok L (k + 8) (by omega) (.inr ⟨((((hEb.same s5).same s5b).same s6).same s7), by decide⟩)
  obtain ⟨σ9, e9, s9⟩ := E.place_ok L (k + 8) (by omega) (.inr ⟨((((hEc.same s5b).same s6).same s7).same s8), by decide⟩)
  obtain ⟨vd, σ10, e10, hEd, s10⟩ := bwrong_any L (k + 9) σ9 0 11 (by decide)
  obtain ⟨σ11, e11, s11⟩ := E.place_ok L (k + 8) (by omega) (.inr ⟨hEd, by decide⟩)
  have s611 : Same σ6 σ11 [] := (((s7.trans s8).trans s9).trans s10).trans s11
  have g11 : σ11.get σ5b.next = _ := (s611.2 σ5b.next (by omega) (by simp)).trans g6
  obtain ⟨σ12, e12, _⟩ := bnil26 L (k + 11) σ11
  rw [e7, bnd_some, asB_b, br_true, e8, bnd_some, asB_b, br_true, e9, bnd_some, asB_b, br_true, bnil24, e10, bnd_some, bnd_some, e11, bnd_some, asB_b, br_true, bnil19, bnd_some, asI_i, bnil25, bnd_some, asI_i, show (IntKind.wrap .i64 (IntKind.wrap .i64 ((0 : Int) + 0) + 0) == 0) = true from rfl, br_true, lds_all (n := 32) g11 rfl, kds32, eqCells32 _ rfl rfl, decide_eq_true rfl, br_true, e12, bnd_some]
  exact ⟨_, rfl⟩
set_option maxRecDepth 20000 in
theorem recOf {σ : St} {row : List Value} (h : Go.AM.Img Tryz.prog σ 58 row) : ∃ r : S.Rec, row = S.c5 r := by
  obtain ⟨h1, h2⟩ := h.struct_inv Tryz.underlying58
  have hl : row.length = 5 := by rw [h1]; kernel_rfl
  match row, hl with
  | [x, y, b, s, m], _ =>
    have hx := h2 _ (List.mem_of_getElem? (i := 0) rfl)
    have hy := h2 _ (List.mem_of_getElem? (i := 1) rfl)
    have hb := h2 _ (List.mem_of_getElem? (i := 2) rfl)
    have hs := h2 _ (List.mem_of_getElem? (i := 3) rfl)
    have hm := h2 _ (List.mem_of_getElem? (i := 4) rfl)
    have e3 : Tryz.prog.cellsOf 3 = 1 := by kernel_rfl
    have e9 : Tryz.prog.cellsOf 9 = 1 := by kernel_rfl
    simp only [e3] at hx hy hb hm
    simp only [e9] at hs
    obtain ⟨n0, w0, _⟩ := Go.AM.Img.int_inv Tryz.underlying3 hx
    obtain ⟨n1, w1, _⟩ := Go.AM.Img.int_inv Tryz.underlying3 hy
    obtain ⟨n2, w2, _⟩ := Go.AM.Img.int_inv Tryz.underlying3 hb
    obtain ⟨t, w3, _⟩ := Go.AM.Img.str_inv Tryz.underlying9 hs
    obtain ⟨n4, w4, _⟩ := Go.AM.Img.int_inv Tryz.underlying3 hm
    simp at w0 w1 w2 w3 w4
    exact ⟨⟨n0, n1, n2, t, n4⟩, by rw [w0, w1, w2, w3, w4]; rfl⟩
theorem nil_law (σ : St) (v : Int) (r : S.Rec) (keep : Int) : ∃ σ', evCall Tryz.prog env 200000 13 5 [.int .i64 v, r.agg, .int .u64 keep] σ = some (.bool true, σ') := nil_holds 200000 0 (by omega) σ v r.seq r.kind r.block r.data r.number keep
end Go.AM.Bk
