/-
  RoundSafe: the walk.
-/
import Derived.Test.YtmbofnomfmhmdaaRqF
import Derived.Test.YtmbofnomfmhmdaaAm17
set_option linter.unusedVariables false
set_option linter.unusedSimpArgs false
set_option linter.unusedSectionVars false
namespace Go.AM.Rq
open Go.Proofs

abbrev P9 : List Bool := [true, true, true, true, true, true, true, false, true]
abbrev P37 : List Bool := [true, true, true, true, true, true, true, false, true, false, true, true, false, true, true, true, true, true, true, false, true]
abbrev P43 : List Bool := [true, true, true, true, true, true, true, false, true, false, true, true, false, true, true, true, true, true, true, true, false, true]
def bs (l : List Bool) : List Value := l.map Value.bool
theorem bs_get {l : List Bool} (hl : l.length = 4) {v : Int} (hv : 0 ≤ v ∧ v < 4) : (bs l)[v.toNat]? = some (.bool (bit l v)) := by
  unfold bs bit
  rw [List.getElem?_map, List.getD_eq_getElem?_getD, List.getElem?_eq_getElem (by omega)]
  rfl
theorem bs_set (l : List Bool) (i : Nat) (b : Bool) : (bs l).set i (.bool b) = bs (l.set i b) := by unfold bs; rw [List.map_set]

section
variable (L k m0 : Nat) {α : Type} (ad0 : Option Addr) (sc : List α) (a : Nat) (ad : Option Addr) (tl : List Cmd) (z : Nat) (adv : Option Addr) (vs : List Int) (f m : Nat) (late : Bool) (adO : Option Addr) (x : List Cmd) (zO : Nat) (num s36 s37 : Int)
theorem all_loop {σ : St} {qv : Nat} (hv : Src σ adv qv vs) (hvl : vs.length ≤ 20) {fz mk : List Bool} (hf : σ.get f = some (.own (bs fz) 4)) (hm : σ.get m = some (.own (bs mk) 4)) (hfl : fz.length = 4) (hml : mk.length = 4) (hr : ∀ v ∈ vs, 0 ≤ v ∧ v < 4) : ∀ (n i : Nat) (A D : Bool), i ≤ vs.length → vs.length - i < n →
    lpAt Try.prog env L k 5 P37 [m0] n [(0, .slice ad0 sc.length 0), (3, .pointer (some ⟨a, 0, none⟩)), (4, .slice ad tl.length z), (5, .slice adv vs.length 0), (6, .slice (some ⟨f, 0, none⟩) 4 1), (7, .slice (some ⟨m, 0, none⟩) 4 1), (8, .bool late), (10, .slice adO x.length zO), (11, .int .i64 num), (17, .bool A), (18, .bool D), (36, .int .i64 s36), (37, .int .i64 s37), (140, .int .i64 vs.length), (141, .int .i64 i)] σ = lpAt Try.prog env L k 5 P43 [m0] L [(0, .slice ad0 sc.length 0), (3, .pointer (some ⟨a, 0, none⟩)), (4, .slice ad tl.length z), (5, .slice adv vs.length 0), (6, .slice (some ⟨f, 0, none⟩) 4 1), (7, .slice (some ⟨m, 0, none⟩) 4 1), (8, .bool late), (10, .slice adO x.length zO), (11, .int .i64 num), (17, .bool (A && allB fz (vs.drop i))), (18, .bool (D && allB mk (vs.drop i))), (36, .int .i64 s36), (37, .int .i64 s37), (166, .int .i64 x.length), (167, .int .i64 0)] σ
  | 0, i, A, D, _, h => by omega
  | n + 1, i, A, D, hi, h => by
    rw [f5_l37]
    by_cases hie : i = vs.length
    · rw [decide_eq_false (by omega), br_false, hie, List.drop_length]
      simp only [allB, List.all_nil, Bool.and_true]
    · have hget : vs[i]? = some vs[i] := List.getElem?_eq_getElem (by omega)
      have hd : vs.drop i = vs[i] :: vs.drop (i + 1) := List.drop_eq_getElem_cons (by omega)
      have hv4 := hr vs[i] (List.mem_of_getElem? hget)
      obtain ⟨e0, hat⟩ := hv.at hget
      rw [hd]
      have hf4 := bs_get hfl hv4
      have hm4 := bs_get hml hv4
      generalize vs[i] = v at hat hv4 hf4 hm4
      have hw : IntKind.wrap .i64 ((i : Int) + 1) = ((i + 1 : Nat) : Int) := by rw [wrap_in _ (by omega) (by omega)]; omega
      have ih := fun A D => all_loop hv hvl hf hm hfl hml hr n (i + 1) A D (by omega) (by omega)
      have n1 : inRange (i : Int) (vs.length : Int) = true := by simp [inRange]; omega
      have n2 : inRange v ((4 : Nat) : Int) = true := by simp [inRange]; omega
      have rv := fun K : Value → Res => hat (0 + (i : Int).toNat * 1) (by simp) K
      have rf := fun K : Value → Res => ld_own (o := 0 + v.toNat * 1) K hf (by rw [Nat.zero_add, Nat.mul_one]; exact hf4)
      have rm := fun K : Value → Res => ld_own (o := 0 + v.toNat * 1) K hm (by rw [Nat.zero_add, Nat.mul_one]; exact hm4)
      have eA : ∀ b : Bool, ∀ c : List Bool, (b && allB c (v :: vs.drop (i + 1))) = ((b && bit c v) && allB c (vs.drop (i + 1))) := fun b c => by simp only [allB, List.all_cons, Bool.and_assoc]
      rw [decide_eq_true (by omega), br_true, eA, eA]
      cases A <;> cases D
      · rw [br_false, br_false, hw, ih false false]; simp only [Bool.false_and]
      · rw [br_false, br_true, need_of n1, e0, adr_some, rv, asI_i, need_of n2, adr_some, rm, asB_b, hw, ← e0, ih false (bit mk v)]; simp only [Bool.false_and, Bool.true_and]
      · rw [br_true, need_of n1, e0, adr_some, rv, asI_i, need_of n2, adr_some, rf, asB_b, br_false, hw, ← e0, ih (bit fz v) false]; simp only [Bool.false_and, Bool.true_and]
      · rw [br_true, need_of n1, e0, adr_some, rv, asI_i, need_of n2, adr_some, rf, asB_b, br_true, need_of n1, adr_some, rv, asI_i, need_of n2, adr_some, rm, asB_b, hw, ← e0, ih (bit fz v) (bit mk v)]; simp only [Bool.true_and]

theorem chk_loop {σ : St} {F : List Nat} {s' : RS} (hS : Rnd σ a F s') {qO : List Nat} (hR : Row c3i 3 37 σ adO zO qO x) (hx : x.length ≤ 20) {A D : Bool} (hok : ∀ c ∈ x, (c.1 = 2 → A = true) ∧ (c.1 = 3 → D = true ∨ late = true)) (hend : num ≠ 0 → s'.number = 0 → s'.done = num ∧ s'.complete = D) : ∀ (n i : Nat), i ≤ x.length → x.length - i < n →
    lpAt Try.prog env L (k + 1) 5 P43 [m0] n [(0, .slice ad0 sc.length 0), (3, .pointer (some ⟨a, 0, none⟩)), (4, .slice ad tl.length z), (5, .slice adv vs.length 0), (6, .slice (some ⟨f, 0, none⟩) 4 1), (7, .slice (some ⟨m, 0, none⟩) 4 1), (8, .bool late), (10, .slice adO x.length zO), (11, .int .i64 num), (17, .bool A), (18, .bool D), (36, .int .i64 s36), (37, .int .i64 s37), (166, .int .i64 x.length), (167, .int .i64 i)] σ = lpAt Try.prog env L (k + 1) 5 P9 [] m0 [(0, .slice ad0 sc.length 0), (3, .pointer (some ⟨a, 0, none⟩)), (4, .slice ad tl.length z), (5, .slice adv vs.length 0), (6, .slice (some ⟨f, 0, none⟩) 4 1), (7, .slice (some ⟨m, 0, none⟩) 4 1), (8, .bool late), (36, .int .i64 s36), (37, .int .i64 (IntKind.wrap .i64 (s37 + 1)))] σ
  | 0, i, _, h => by omega
  | n + 1, i, hi, h => by
    rw [f5_l43]
    by_cases hie : i = x.length
    · rw [decide_eq_false (by omega), br_false, done_spec hS, bnd_some, asT_t, toList2, uncons_c, asI_i, uncons_c, asB_b, endl_n]
      by_cases hn : num = 0
      · rw [show (num != 0) = false by simpa using hn, br_false]
      · rw [show (num != 0) = true by simpa using hn, br_true, number_spec hS, bnd_some, asI_i]
        by_cases h0 : s'.number = 0
        · obtain ⟨d1, d2⟩ := hend hn h0
          rw [show (s'.number == 0) = true by simpa using h0, br_true, show (s'.done != num) = false by simpa using d1, br_false, d2, show (!D == D) = false by simp, br_false]
        · rw [show (s'.number == 0) = false by simpa using h0, br_false]
    · have hget : x[i]? = some x[i] := List.getElem?_eq_getElem (by omega)
      obtain ⟨h2, h3⟩ := hok x[i] (List.mem_of_getElem? hget)
      obtain ⟨q, e0, hat⟩ := hR.at c3i_len hget
      generalize x[i] = c at h2 h3 hat
      have hw : IntKind.wrap .i64 ((i : Int) + 1) = ((i + 1 : Nat) : Int) := by rw [wrap_in _ (by omega) (by omega)]; omega
      have ih := chk_loop hS hR hx hok hend n (i + 1) (by omega) (by omega)
      have n1 : inRange (i : Int) (x.length : Int) = true := by simp [inRange]; omega
      have rv := fun K : Value → Res => hat 0 (.int .i64 c.1) (0 + (i : Int).toNat * 3 + 0) (by omega) rfl (by simp) K
      rw [decide_eq_true (by omega), br_true, need_of n1, e0, adr_some, rv, asI_i]
      by_cases c2 : c.1 = 2
      · rw [show (c.1 == 2) = true by simpa using c2, br_true, h2 c2, not_true, br_false, need_of n1, adr_some, rv, asI_i, show (c.1 == 3) = false by simp; omega, br_false, hw, ← e0]
        rw [h2 c2] at ih; exact ih
      · rw [show (c.1 == 2) = false by simpa using c2, br_false, need_of n1, adr_some, rv, asI_i]
        by_cases c3 : c.1 = 3
        · rw [show (c.1 == 3) = true by simpa using c3, br_true]
          cases hD : D with
          | true => rw [not_true, br_false, hw, ← e0]; rw [hD] at ih; exact ih
          | false =>
            have hl := (h3 c3).resolve_left (by rw [hD]; simp)
            rw [not_false, br_true, hl, not_true, br_false, hw, ← e0]
            rw [hD, hl] at ih; exact ih
        · rw [show (c.1 == 3) = false by simpa using c3, br_false, hw, ← e0]
          exact ih
end

theorem _root_.Go.AM.Owns.add {σ0 σ : St} {Fs : List (List Nat)} {S : List Nat} (h : Owns σ0 σ Fs) (h1 : ∀ q ∈ S, σ0.next ≤ q ∧ q < σ.next) (h2 : ∀ F ∈ Fs, ∀ q ∈ F, q ∉ S) : Owns σ0 σ (S :: Fs) := by
  refine ⟨h.kept, fun G hG q hq => ?_, fun i j A B hij ha hb q hA hB => ?_⟩
  · rcases List.mem_cons.1 hG with rfl | hG
    · exact h1 q hq
    · exact h.own G hG q hq
  · cases i with
    | zero =>
      cases j with
      | zero => omega
      | succ j => simp at ha hb; subst ha; exact h2 B (List.mem_of_getElem? hb) q hB hA
    | succ i =>
      cases j with
      | zero => simp at ha hb; subst hb; exact h2 A (List.mem_of_getElem? ha) q hA hB
      | succ j => simp at ha hb; exact h.dis i j A B (by omega) ha hb q hA hB

/-- All that the loop holds; what was answered last; other blocks. -/
structure Z (σ0 σ : St) (a : Nat) (s : RS) (ad : Option Addr) (z : Nat) (tl : List Cmd) (f m : Nat) (fz mk : List Bool) (adO : Option Addr) (zO : Nat) (x : List Cmd) (R : List Nat) : Prop where
  ex : ∃ F q qO, Rnd σ a F s ∧ Told σ ad z q tl ∧ Row c3i 3 37 σ adO zO qO x ∧ Owns σ0 σ [F, q, [f], [m], qO, R] ∧ σ.get f = some (.own (bs fz) 4) ∧ σ.get m = some (.own (bs mk) 4)

section
variable {σ0 σ : St} {a : Nat} {s : RS} {ad : Option Addr} {z : Nat} {tl : List Cmd} {f m : Nat} {fz mk : List Bool} {adO : Option Addr} {zO : Nat} {x : List Cmd} {R : List Nat}
theorem Z.idle (h : Z σ0 σ a s ad z tl f m fz mk adO zO x R) {σ' : St} (hs : Same σ σ' []) : Z σ0 σ' a s ad z tl f m fz mk adO zO x R ∧ ∀ t ∈ R, σ'.get t = σ.get t := by
  obtain ⟨F, q, qO, h1, h2, h3, h4, h5, h6⟩ := h.ex
  refine ⟨⟨F, q, qO, h1.idle hs, h2.same hs (by simp), h3.same hs (by simp), h4.idle hs, ?_, ?_⟩, fun t ht => hs.2 t (h4.lt 5 rfl t ht) (by simp)⟩
  · rw [hs.2 f (h4.lt 2 rfl f (by simp)) (by simp)]; exact h5
  · rw [hs.2 m (h4.lt 3 rfl m (by simp)) (by simp)]; exact h6
/-- The answer is forgotten. -/
theorem Z.blank (h : Z σ0 σ a s ad z tl f m fz mk adO zO x R) : Z σ0 σ a s ad z tl f m fz mk none 0 [] R := by
  obtain ⟨F, q, qO, h1, h2, h3, h4, h5, h6⟩ := h.ex
  refine ⟨F, q, [], h1, h2, Row.nil _ _ _ _, (((h4.pick [0, 1, 2, 3, 5] (by decide)).add (S := []) (by simp) (by simp)).pick [1, 2, 3, 4, 0, 5] (by decide)), h5, h6⟩
/-- Other blocks are others. -/
theorem Z.other (h : Z σ0 σ a s ad z tl f m fz mk adO zO x R) {σ' : St} (hs : Same σ σ' []) {t : Nat} (ht : σ.next ≤ t ∧ t < σ'.next) : Z σ0 σ' a s ad z tl f m fz mk adO zO x [t] := by
  have hz := (h.idle hs).1
  obtain ⟨F, q, qO, h1, h2, h3, h4, h5, h6⟩ := h.ex
  obtain ⟨F', q', qO', g1, g2, g3, g4, g5, g6⟩ := hz.ex
  have h9 := (h4.more hs (F := [t]) (by simpa using ht)).pick [1, 2, 3, 4, 5, 0] (by decide)
  exact ⟨F, q, qO, h1.idle hs, h2.same hs (by simp), h3.same hs (by simp), h9, g5, g6⟩
/-- Other blocks turn. -/
theorem Z.keep (h : Z σ0 σ a s ad z tl f m fz mk adO zO x R) {σ' : St} (hs : Same σ σ' R) : Z σ0 σ' a s ad z tl f m fz mk adO zO x R := by
  obtain ⟨F, q, qO, h1, h2, h3, h4, h5, h6⟩ := h.ex
  have ht : Turn σ σ' R R := ⟨hs, fun q hq => ⟨.inl hq, by have := h4.lt 5 rfl q hq; have := hs.1; omega⟩⟩
  refine ⟨F, q, qO, h1.same hs (h4.off 0 5 (by omega) rfl rfl), h2.same hs (h4.off 1 5 (by omega) rfl rfl), h3.same hs (h4.off 4 5 (by omega) rfl rfl), h4.turned 5 rfl ht, ?_, ?_⟩
  · rw [hs.2 f (h4.lt 2 rfl f (by simp)) (h4.off 2 5 (by omega) rfl rfl f (by simp))]; exact h5
  · rw [hs.2 m (h4.lt 3 rfl m (by simp)) (h4.off 3 5 (by omega) rfl rfl m (by simp))]; exact h6
/-- What was told first is taken. -/
theorem Z.pop {c : Cmd} {rest : List Cmd} (h : Z σ0 σ a s ad z (c :: rest) f m fz mk adO zO x R) : ∃ q o, ad = some ⟨q, o, none⟩ ∧ z = 3 ∧ (∀ K : List Value → Res, σ.lds q (o + 0) 3 K = K (c3i c)) ∧ Z σ0 σ a s (subA ad 3) z rest f m fz mk adO zO x R := by
  obtain ⟨F, q, qO, h1, h2, h3, h4, h5, h6⟩ := h.ex
  obtain ⟨q9, o9, e1, e2, e3, e4⟩ := h2.head
  exact ⟨q9, o9, e1, e2, e3, F, q, qO, h1, e4, h3, h4, h5, h6⟩
/-- The round was called. -/
theorem Z.call {F q qO : List Nat} (h1 : Rnd σ a F s) (h2 : Told σ ad z q tl) (h4 : Owns σ0 σ [F, q, [f], [m], qO, R]) (h5 : σ.get f = some (.own (bs fz) 4)) (h6 : σ.get m = some (.own (bs mk) 4)) {σ1 : St} {s1 : RS} {adO1 : Option Addr} {zO1 : Nat} {x1 : List Cmd} {F1 qO1 : List Nat} (g1 : Rnd σ1 a F1 s1) (g2 : Row c3i 3 37 σ1 adO1 zO1 qO1 x1) (g3 : Turn σ σ1 F F1) (g4 : ∀ q ∈ qO1, σ.next ≤ q ∧ q ∉ F1) :
    Z σ0 σ1 a s1 ad z tl f m fz mk adO1 zO1 x1 R ∧ ∀ t ∈ R, σ1.get t = σ.get t := by
  have hO := h4.turned 0 rfl g3
  have hO' : Owns σ0 σ1 [F1, q, [f], [m], qO, R] := hO
  have hk := h4.kept.1
  have hadd := Owns.add hO' (S := qO1) (fun y hy => ⟨by have := (g4 y hy).1; omega, g2.lt y hy⟩) (fun G hG y hy hy1 => by
    have hge := (g4 y hy1).1
    simp only [List.mem_cons, List.mem_singleton, List.not_mem_nil, or_false] at hG
    rcases hG with rfl | rfl | rfl | rfl | rfl | rfl
    · exact (g4 y hy1).2 hy
    · have := h4.lt 1 rfl y hy; omega
    · have := h4.lt 2 rfl y hy; omega
    · have := h4.lt 3 rfl y hy; omega
    · have := h4.lt 4 rfl y hy; omega
    · have := h4.lt 5 rfl y hy; omega)
  refine ⟨⟨F1, q, qO1, g1, h2.same g3.same (h4.off 1 0 (by omega) rfl rfl), g2, hadd.pick [1, 2, 3, 4, 0, 6] (by decide), ?_, ?_⟩, fun t ht => g3.same.2 t (h4.lt 5 rfl t ht) (h4.off 5 0 (by omega) rfl rfl t ht)⟩
  · rw [g3.same.2 f (h4.lt 2 rfl f (by simp)) (h4.off 2 0 (by omega) rfl rfl f (by simp))]; exact h5
  · rw [g3.same.2 m (h4.lt 3 rfl m (by simp)) (h4.off 3 0 (by omega) rfl rfl m (by simp))]; exact h6
/-- A volume is frozen. -/
theorem Z.setF (h : Z σ0 σ a s ad z tl f m fz mk adO zO x R) (hl : fz.length = 4) {v : Int} (hv : 0 ≤ v ∧ v < 4) : ∃ σ1, (∀ K : St → Res, σ.put f (0 + v.toNat * 1) [.bool true] K = K σ1) ∧ Z σ0 σ1 a s ad z tl f m (fz.set v.toNat true) mk adO zO x R ∧ ∀ t ∈ R, σ1.get t = σ.get t := by
  obtain ⟨F, q, qO, h1, h2, h3, h4, h5, h6⟩ := h.ex
  have hlt := h4.lt 2 rfl f (by simp)
  have hs := Same.set σ f (.own ((bs fz).set v.toNat (.bool true)) 4)
  have ht : Turn σ (σ.set f (.own ((bs fz).set v.toNat (.bool true)) 4)) [f] [f] := ⟨hs, fun q hq => ⟨.inl hq, by simp at hq; subst hq; exact hlt⟩⟩
  refine ⟨_, fun K => ?_, ⟨F, q, qO, h1.same hs (h4.off 0 2 (by omega) rfl rfl), h2.same hs (h4.off 1 2 (by omega) rfl rfl), h3.same hs (h4.off 4 2 (by omega) rfl rfl), h4.turned 2 rfl ht, by rw [get_set_same, bs_set], ?_⟩, fun t h' => hs.2 t (h4.lt 5 rfl t h') (h4.off 5 2 (by omega) rfl rfl t h')⟩
  · rw [Nat.zero_add, Nat.mul_one]; exact put_bool h5 _ _ (by simp [bs]; omega) K
  · rw [hs.2 m (h4.lt 3 rfl m (by simp)) (h4.off 3 2 (by omega) rfl rfl m (by simp))]; exact h6
/-- A volume is marked. -/
theorem Z.setM (h : Z σ0 σ a s ad z tl f m fz mk adO zO x R) (hl : mk.length = 4) {v : Int} (hv : 0 ≤ v ∧ v < 4) : ∃ σ1, (∀ K : St → Res, σ.put m (0 + v.toNat * 1) [.bool true] K = K σ1) ∧ Z σ0 σ1 a s ad z tl f m fz (mk.set v.toNat true) adO zO x R ∧ ∀ t ∈ R, σ1.get t = σ.get t := by
  obtain ⟨F, q, qO, h1, h2, h3, h4, h5, h6⟩ := h.ex
  have hlt := h4.lt 3 rfl m (by simp)
  have hs := Same.set σ m (.own ((bs mk).set v.toNat (.bool true)) 4)
  have ht : Turn σ (σ.set m (.own ((bs mk).set v.toNat (.bool true)) 4)) [m] [m] := ⟨hs, fun q hq => ⟨.inl hq, by simp at hq; subst hq; exact hlt⟩⟩
  refine ⟨_, fun K => ?_, ⟨F, q, qO, h1.same hs (h4.off 0 3 (by omega) rfl rfl), h2.same hs (h4.off 1 3 (by omega) rfl rfl), h3.same hs (h4.off 4 3 (by omega) rfl rfl), h4.turned 3 rfl ht, ?_, by rw [get_set_same, bs_set]⟩, fun t h' => hs.2 t (h4.lt 5 rfl t h') (h4.off 5 3 (by omega) rfl rfl t h')⟩
  · rw [Nat.zero_add, Nat.mul_one]; exact put_bool h6 _ _ (by simp [bs]; omega) K
  · rw [hs.2 f (h4.lt 2 rfl f (by simp)) (h4.off 2 3 (by omega) rfl rfl f (by simp))]; exact h5
/-- What is answered is told. -/
theorem Z.grow (h : Z σ0 σ a s ad z tl f m fz mk adO zO x R) (hn : tl.length ≤ 50000) (hx : x.length ≤ 20) : ∃ ad' z' σ1, (∀ K, σ.row adO (x.length * 3) (fun v => grow 37 3 24 ad tl.length z x.length v σ K) = K ad' (tl ++ x).length z' σ1) ∧ Z σ0 σ1 a s ad' z' (tl ++ x) f m fz mk adO zO x R := by
  obtain ⟨F, q, qO, h1, h2, h3, h4, h5, h6⟩ := h.ex
  obtain ⟨ad', z', q', σ1, g, hT, ht⟩ := h2.grow rfl (by omega) x rfl (by omega)
  refine ⟨ad', z', σ1, fun K => by rw [h3.read c3i_len _ rfl, g], ⟨F, q', qO, h1.same ht.same (h4.off 0 1 (by omega) rfl rfl), hT, h3.same ht.same (h4.off 4 1 (by omega) rfl rfl), h4.turned 1 rfl ht, ?_, ?_⟩⟩
  · rw [ht.same.2 f (h4.lt 2 rfl f (by simp)) (h4.off 2 1 (by omega) rfl rfl f (by simp))]; exact h5
  · rw [ht.same.2 m (h4.lt 3 rfl m (by simp)) (h4.off 3 1 (by omega) rfl rfl m (by simp))]; exact h6
/-- Nothing is frozen, nothing is marked. -/
theorem Z.zeros (h : Z σ0 σ a s ad z tl f m fz mk adO zO x R) : Z σ0 ((σ.new (.own (bs [false, false, false, false]) 4)).new (.own (bs [false, false, false, false]) 4)) a s ad z tl σ.next (σ.new (.own (bs [false, false, false, false]) 4)).next [false, false, false, false] [false, false, false, false] adO zO x R := by
  obtain ⟨F, q, qO, h1, h2, h3, h4, h5, h6⟩ := h.ex
  have s1 := Same.new σ (.own (bs [false, false, false, false]) 4) []
  have g1 : (σ.new (.own (bs [false, false, false, false]) 4)).get σ.next = some (.own (bs [false, false, false, false]) 4) := get_new_same _ _
  have n1 : (σ.new (.own (bs [false, false, false, false]) 4)).next = σ.next + 1 := rfl
  generalize σ.new (.own (bs [false, false, false, false]) 4) = σ1 at s1 g1 n1
  have s2 := Same.new σ1 (.own (bs [false, false, false, false]) 4) []
  have g2 : (σ1.new (.own (bs [false, false, false, false]) 4)).get σ1.next = some (.own (bs [false, false, false, false]) 4) := get_new_same _ _
  have n2 : (σ1.new (.own (bs [false, false, false, false]) 4)).next = σ1.next + 1 := rfl
  generalize σ1.new (.own (bs [false, false, false, false]) 4) = σ2 at s2 g2 n2
  have hO1 := h4.more s1 (F := [σ.next]) (by simp; omega)
  have hO2 := hO1.more s2 (F := [σ1.next]) (by simp; omega)
  exact ⟨F, q, qO, (h1.idle s1).idle s2, (h2.same s1 (by simp)).same s2 (by simp), (h3.same s1 (by simp)).same s2 (by simp), hO2.pick [2, 3, 1, 0, 6, 7] (by decide), by rw [s2.2 _ (by omega) (by simp)]; exact g1, g2⟩
end

/-- What follows the choice of an answer. -/
noncomputable def ans (L k n : Nat) (st : St) (tt : Nat) (s0 : Option Addr) (s0n s0z s3 o3 : Nat) (s4 : Option Addr) (s4n s4z : Nat) (s5 : Option Addr) (s5n s5z : Nat) (s6 : Option Addr) (s6n s6z : Nat) (s7 : Option Addr) (s7n s7z : Nat) (s8 : Bool) (v3 s36 s37 : Int) : Res := AM.St.lds st tt 0 3 fun v172 => AM.uncons v172 fun v173 v174 => AM.asI IntKind.i64 v173 fun v175 => AM.uncons v174 fun v176 v177 => AM.asI IntKind.i64 v176 fun v178 => AM.uncons v177 fun v179 v180 => AM.asI IntKind.i64 v179 fun v181 => AM.endl v180 (AM.bnd (AM.evCall Proofs.Try.prog AM.Rq.env L k 13 [Value.pointer (some { block := s3, off := o3 }), Value.agg #[Value.int IntKind.i64 v175, Value.int IntKind.i64 v178, Value.int IntKind.i64 v181]] st) fun v182 v183 => AM.asT v182 fun v184 => AM.uncons v184 fun v185 v186 => AM.asSl v185 fun v187 v188 v189 => AM.uncons v186 fun v190 v191 => AM.endl v191 (AM.eqNil v190 fun v192 => AM.br v192 (AM.St.ld v183 tt 0 fun v193 => AM.asI IntKind.i64 v193 fun v194 => AM.br (v194 == (1 : Int)) (AM.St.ld v183 tt 1 fun v195 => AM.asI IntKind.i64 v195 fun v196 => AM.need (AM.inRange v196 (↑s6n : Int)) (AM.adr s6 fun v197 v198 => AM.St.put v183 v197 (v198 + Int.toNat v196 * 1) [Value.bool true] fun v199 => AM.eqNil v190 fun v200 => AM.br v200 (AM.St.ld v199 tt 0 fun v201 => AM.asI IntKind.i64 v201 fun v202 => AM.br (v202 == (2 : Int)) (AM.St.ld v199 tt 1 fun v203 => AM.asI IntKind.i64 v203 fun v204 => AM.need (AM.inRange v204 (↑s7n : Int)) (AM.adr s7 fun v205 v206 => AM.St.put v199 v205 (v206 + Int.toNat v204 * 1) [Value.bool true] fun v207 => AM.St.row v207 v187 (v188 * 3) fun v208 => AM.grow 37 3 24 s4 s4n s4z v188 v208 v207 fun v209 v210 v211 v212 => AM.lpAt Proofs.Try.prog AM.Rq.env L k 5 [true, true, true, true, true, true, true, false, true, false, true, true, false, true, true, true, true, true, true, false, true] [n] L [(0, Value.slice s0 s0n s0z), (3, Value.pointer (some { block := s3, off := o3 })), (4, Value.slice v209 v210 v211), (5, Value.slice s5 s5n s5z), (6, Value.slice s6 s6n s6z), (7, Value.slice s7 s7n s7z), (8, Value.bool s8), (10, Value.slice v187 v188 v189), (11, Value.int IntKind.i64 v3), (17, Value.bool true), (18, Value.bool true), (36, Value.int IntKind.i64 s36), (37, Value.int IntKind.i64 s37), (140, Value.int IntKind.i64 (↑s5n : Int)), (141, Value.int IntKind.i64 (0 : Int))] v212)) (AM.St.row v199 v187 (v188 * 3) fun v213 => AM.grow 37 3 24 s4 s4n s4z v188 v213 v199 fun v214 v215 v216 v217 => AM.lpAt Proofs.Try.prog AM.Rq.env L k 5 [true, true, true, true, true, true, true, false, true, false, true, true, false, true, true, true, true, true, true, false, true] [n] L [(0, Value.slice s0 s0n s0z), (3, Value.pointer (some { block := s3, off := o3 })), (4, Value.slice v214 v215 v216), (5, Value.slice s5 s5n s5z), (6, Value.slice s6 s6n s6z), (7, Value.slice s7 s7n s7z), (8, Value.bool s8), (10, Value.slice v187 v188 v189), (11, Value.int IntKind.i64 v3), (17, Value.bool true), (18, Value.bool true), (36, Value.int IntKind.i64 s36), (37, Value.int IntKind.i64 s37), (140, Value.int IntKind.i64 (↑s5n : Int)), (141, Value.int IntKind.i64 (0 : Int))] v217)) (AM.St.row v199 v187 (v188 * 3) fun v218 => AM.grow 37 3 24 s4 s4n s4z v188 v218 v199 fun v219 v220 v221 v222 => AM.lpAt Proofs.Try.prog AM.Rq.env L k 5 [true, true, true, true, true, true, true, false, true, false, true, true, false, true, true, true, true, true, true, false, true] [n] L [(0, Value.slice s0 s0n s0z), (3, Value.pointer (some { block := s3, off := o3 })), (4, Value.slice v219 v220 v221), (5, Value.slice s5 s5n s5z), (6, Value.slice s6 s6n s6z), (7, Value.slice s7 s7n s7z), (8, Value.bool s8), (10, Value.slice v187 v188 v189), (11, Value.int IntKind.i64 v3), (17, Value.bool true), (18, Value.bool true), (36, Value.int IntKind.i64 s36), (37, Value.int IntKind.i64 s37), (140, Value.int IntKind.i64 (↑s5n : Int)), (141, Value.int IntKind.i64 (0 : Int))] v222))) (AM.eqNil v190 fun v223 => AM.br v223 (AM.St.ld v183 tt 0 fun v224 => AM.asI IntKind.i64 v224 fun v225 => AM.br (v225 == (2 : Int)) (AM.St.ld v183 tt 1 fun v226 => AM.asI IntKind.i64 v226 fun v227 => AM.need (AM.inRange v227 (↑s7n : Int)) (AM.adr s7 fun v228 v229 => AM.St.put v183 v228 (v229 + Int.toNat v227 * 1) [Value.bool true] fun v230 => AM.St.row v230 v187 (v188 * 3) fun v231 => AM.grow 37 3 24 s4 s4n s4z v188 v231 v230 fun v232 v233 v234 v235 => AM.lpAt Proofs.Try.prog AM.Rq.env L k 5 [true, true, true, true, true, true, true, false, true, false, true, true, false, true, true, true, true, true, true, false, true] [n] L [(0, Value.slice s0 s0n s0z), (3, Value.pointer (some { block := s3, off := o3 })), (4, Value.slice v232 v233 v234), (5, Value.slice s5 s5n s5z), (6, Value.slice s6 s6n s6z), (7, Value.slice s7 s7n s7z), (8, Value.bool s8), (10, Value.slice v187 v188 v189), (11, Value.int IntKind.i64 v3), (17, Value.bool true), (18, Value.bool true), (36, Value.int IntKind.i64 s36), (37, Value.int IntKind.i64 s37), (140, Value.int IntKind.i64 (↑s5n : Int)), (141, Value.int IntKind.i64 (0 : Int))] v235)) (AM.St.row v183 v187 (v188 * 3) fun v236 => AM.grow 37 3 24 s4 s4n s4z v188 v236 v183 fun v237 v238 v239 v240 => AM.lpAt Proofs.Try.prog AM.Rq.env L k 5 [true, true, true, true, true, true, true, false, true, false, true, true, false, true, true, true, true, true, true, false, true] [n] L [(0, Value.slice s0 s0n s0z), (3, Value.pointer (some { block := s3, off := o3 })), (4, Value.slice v237 v238 v239), (5, Value.slice s5 s5n s5z), (6, Value.slice s6 s6n s6z), (7, Value.slice s7 s7n s7z), (8, Value.bool s8), (10, Value.slice v187 v188 v189), (11, Value.int IntKind.i64 v3), (17, Value.bool true), (18, Value.bool true), (36, Value.int IntKind.i64 s36), (37, Value.int IntKind.i64 s37), (140, Value.int IntKind.i64 (↑s5n : Int)), (141, Value.int IntKind.i64 (0 : Int))] v240)) (AM.St.row v183 v187 (v188 * 3) fun v241 => AM.grow 37 3 24 s4 s4n s4z v188 v241 v183 fun v242 v243 v244 v245 => AM.lpAt Proofs.Try.prog AM.Rq.env L k 5 [true, true, true, true, true, true, true, false, true, false, true, true, false, true, true, true, true, true, true, false, true] [n] L [(0, Value.slice s0 s0n s0z), (3, Value.pointer (some { block := s3, off := o3 })), (4, Value.slice v242 v243 v244), (5, Value.slice s5 s5n s5z), (6, Value.slice s6 s6n s6z), (7, Value.slice s7 s7n s7z), (8, Value.bool s8), (10, Value.slice v187 v188 v189), (11, Value.int IntKind.i64 v3), (17, Value.bool true), (18, Value.bool true), (36, Value.int IntKind.i64 s36), (37, Value.int IntKind.i64 s37), (140, Value.int IntKind.i64 (↑s5n : Int)), (141, Value.int IntKind.i64 (0 : Int))] v245))) (AM.eqNil v190 fun v246 => AM.br v246 (AM.St.ld v183 tt 0 fun v247 => AM.asI IntKind.i64 v247 fun v248 => AM.br (v248 == (2 : Int)) (AM.St.ld v183 tt 1 fun v249 => AM.asI IntKind.i64 v249 fun v250 => AM.need (AM.inRange v250 (↑s7n : Int)) (AM.adr s7 fun v251 v252 => AM.St.put v183 v251 (v252 + Int.toNat v250 * 1) [Value.bool true] fun v253 => AM.St.row v253 v187 (v188 * 3) fun v254 => AM.grow 37 3 24 s4 s4n s4z v188 v254 v253 fun v255 v256 v257 v258 => AM.lpAt Proofs.Try.prog AM.Rq.env L k 5 [true, true, true, true, true, true, true, false, true, false, true, true, false, true, true, true, true, true, true, false, true] [n] L [(0, Value.slice s0 s0n s0z), (3, Value.pointer (some { block := s3, off := o3 })), (4, Value.slice v255 v256 v257), (5, Value.slice s5 s5n s5z), (6, Value.slice s6 s6n s6z), (7, Value.slice s7 s7n s7z), (8, Value.bool s8), (10, Value.slice v187 v188 v189), (11, Value.int IntKind.i64 v3), (17, Value.bool true), (18, Value.bool true), (36, Value.int IntKind.i64 s36), (37, Value.int IntKind.i64 s37), (140, Value.int IntKind.i64 (↑s5n : Int)), (141, Value.int IntKind.i64 (0 : Int))] v258)) (AM.St.row v183 v187 (v188 * 3) fun v259 => AM.grow 37 3 24 s4 s4n s4z v188 v259 v183 fun v260 v261 v262 v263 => AM.lpAt Proofs.Try.prog AM.Rq.env L k 5 [true, true, true, true, true, true, true, false, true, false, true, true, false, true, true, true, true, true, true, false, true] [n] L [(0, Value.slice s0 s0n s0z), (3, Value.pointer (some { block := s3, off := o3 })), (4, Value.slice v260 v261 v262), (5, Value.slice s5 s5n s5z), (6, Value.slice s6 s6n s6z), (7, Value.slice s7 s7n s7z), (8, Value.bool s8), (10, Value.slice v187 v188 v189), (11, Value.int IntKind.i64 v3), (17, Value.bool true), (18, Value.bool true), (36, Value.int IntKind.i64 s36), (37, Value.int IntKind.i64 s37), (140, Value.int IntKind.i64 (↑s5n : Int)), (141, Value.int IntKind.i64 (0 : Int))] v263)) (AM.St.row v183 v187 (v188 * 3) fun v264 => AM.grow 37 3 24 s4 s4n s4z v188 v264 v183 fun v265 v266 v267 v268 => AM.lpAt Proofs.Try.prog AM.Rq.env L k 5 [true, true, true, true, true, true, true, false, true, false, true, true, false, true, true, true, true, true, true, false, true] [n] L [(0, Value.slice s0 s0n s0z), (3, Value.pointer (some { block := s3, off := o3 })), (4, Value.slice v265 v266 v267), (5, Value.slice s5 s5n s5z), (6, Value.slice s6 s6n s6z), (7, Value.slice s7 s7n s7z), (8, Value.bool s8), (10, Value.slice v187 v188 v189), (11, Value.int IntKind.i64 v3), (17, Value.bool true), (18, Value.bool true), (36, Value.int IntKind.i64 s36), (37, Value.int IntKind.i64 s37), (140, Value.int IntKind.i64 (↑s5n : Int)), (141, Value.int IntKind.i64 (0 : Int))] v268))))

end Go.AM.Rq
