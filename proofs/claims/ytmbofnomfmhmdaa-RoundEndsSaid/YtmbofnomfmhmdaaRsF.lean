/-
  RoundEnds, in plain words.
-/
import Derived.Test.YtmbofnomfmhmdaaRsE
set_option linter.unusedVariables false
set_option linter.unusedSimpArgs false
set_option linter.unusedSectionVars false
namespace Go.AM.Rs
open Go.Proofs

/-- A command answered, and what follows. -/
noncomputable def ansf (L k m0 : Nat) (st : St) (y1 y2 y3 : Int) (s0 : Int) (s3 : Option Addr) (s3n s3z s9 o9 : Nat) (s10 : Option Addr) (s10n s10z : Nat) (s12 s16 : Int) : Res := AM.bnd (AM.evCall Proofs.Try.prog AM.Rs.env L k 13 [Value.pointer (some { block := s9, off := o9 }), Value.agg #[Value.int IntKind.i64 y1, Value.int IntKind.i64 y2, Value.int IntKind.i64 y3]] st) fun v24 v25 => AM.asT v24 fun v26 => AM.uncons v26 fun v27 v28 => AM.asSl v27 fun v29 v30 v31 => AM.uncons v28 fun v32 v33 => AM.endl v33 (AM.St.row v25 v29 (v30 * 3) fun v34 => AM.grow 37 3 24 s10 s10n s10z v30 v34 v25 fun v35 v36 v37 v38 => AM.lpAt Proofs.Try.prog AM.Rs.env L k 6 [true, true, true, true, true, true, true, false, true, false, true, false, true, true, true, true, true, true, true] [m0] L [(0, Value.int IntKind.u16 s0), (3, Value.slice s3 s3n s3z), (9, Value.pointer (some { block := s9, off := o9 })), (10, Value.slice v35 v36 v37), (12, Value.int IntKind.i64 s12), (16, Value.int IntKind.i64 s16), (20, Value.int IntKind.i64 (0 : Int))] v38)

abbrev pt (a : Nat) : Value := .pointer (some ⟨a, 0, none⟩)
abbrev P9 : List Bool := [true, true, true, true, true, true, false, true]
abbrev P15 : List Bool := [true, true, true, true, true, true, true, false, true]
abbrev P23 : List Bool := [true, true, true, true, true, true, true, false, true, false, true, false, true, true, true, false, true, false, true]
abbrev P30 : List Bool := [true, true, true, true, true, true, true, false, true, false, true, false, true, true, true, true, true, true, true]

structure Que (σ0 σ : St) (a : Nat) (s : RS) (ad : Option Addr) (z : Nat) (out : List Cmd) (R : List Nat) : Prop where
  ex : ∃ F q, Rnd σ a F s ∧ Told σ ad z q out ∧ Owns σ0 σ [F, q, R]
  inv : Inv s

section
variable {σ0 σ : St} {a : Nat} {s : RS} {ad : Option Addr} {z : Nat} {out : List Cmd} {R : List Nat}
/-- What is told is put behind the queue. -/
theorem Que.put {σ1 : St} {s1 : RS} {F F1 q : List Nat} (hO : Owns σ0 σ [F, q, R]) (hT : Told σ ad z q out) (hS1 : Rnd σ1 a F1 s1) (hT1 : Turn σ σ1 F F1) (hi : Inv s1) (hn : out.length ≤ 50000) (x : List Cmd) (hx : x.length ≤ 20) :
    ∃ ad' z' σ2, (∀ K, grow 37 3 24 ad out.length z x.length (x.flatMap c3i) σ1 K = K ad' (out ++ x).length z' σ2) ∧ Que σ0 σ2 a s1 ad' z' (out ++ x) R ∧ ∀ t ∈ R, σ2.get t = σ.get t := by
  have hO1 := hO.turned 0 rfl hT1
  obtain ⟨ad', z', q', σ2, g, hTo, hT2⟩ := (hT.same hT1.same (hO.off 1 0 (by omega) rfl rfl)).grow rfl (by omega) x rfl (by omega)
  refine ⟨ad', z', σ2, g, ⟨⟨F1, q', hS1.same hT2.same (hO1.off 0 1 (by omega) rfl rfl), hTo, hO1.turned 1 rfl hT2⟩, hi⟩, fun t ht => ?_⟩
  have h1 := hO.lt 2 rfl t ht
  rw [hT2.same.2 t (by have := hT1.same.1; omega) (hO1.off 2 1 (by omega) rfl rfl t ht), hT1.same.2 t h1 (hO.off 2 0 (by omega) rfl rfl t ht)]

theorem answer_step (h : Que σ0 σ a s ad z out R) (L k : Nat) (hL : 2000 < L) (hn : out.length ≤ 50000) (c : Cmd) :
    ∃ v x adO zO σ1 ad' z' s' σ2, evCall Try.prog env L (k + 5) 13 [pt a, .agg (c3i c).toArray] σ = some (.tuple #[.slice adO x.length zO, v], σ1) ∧ (∀ K : List Value → Res, σ1.row adO (x.length * 3) K = K (x.flatMap c3i)) ∧
      (∀ K, grow 37 3 24 ad out.length z x.length (x.flatMap c3i) σ1 K = K ad' (out ++ x).length z' σ2) ∧ Que σ0 σ2 a s' ad' z' (out ++ x) R ∧ x.length ≤ 20 ∧
      ((s.number ≠ 0 ∧ c.2.2 = s.number ∧ c.1 = s.phase ∧ c.2.1 ∈ s.vols ∧ Answered s c.2.1 x s') ∨ (¬ (s.number ≠ 0 ∧ c.2.2 = s.number ∧ c.1 = s.phase ∧ c.2.1 ∈ s.vols) ∧ x = [] ∧ s' = s)) := by
  obtain ⟨F, q, hS, hT, hO⟩ := h.ex
  have hl := h.inv.len
  rcases answer_spec hS L k hL (by omega) h.inv.p h.inv.live c with ⟨y1, y2, y3, y4, adO, zO, qO, F1, x, s1, σ1, g1, r1, hS1, hT1, n1, ha⟩ | ⟨hno, v, σ1, g1, s1⟩
  · obtain ⟨hi, hx⟩ := h.inv.answered y1 ha
    obtain ⟨ad', z', σ2, g2, hq, _⟩ := Que.put hO hT hS1 hT1 hi hn x hx
    exact ⟨_, x, adO, zO, σ1, ad', z', s1, σ2, g1, fun K => r1.read c3i_len _ rfl K, g2, hq, hx, .inl ⟨y1, y2, y3, y4, ha⟩⟩
  · obtain ⟨ad', z', σ2, g2, hq, _⟩ := Que.put hO hT (hS.idle s1) (.idle s1 hS.lt) h.inv hn [] (by simp)
    exact ⟨_, [], none, 0, σ1, ad', z', s, σ2, g1, fun K => rfl, g2, hq, by simp, .inr ⟨hno, rfl, rfl⟩⟩

theorem tick_step (h : Que σ0 σ a s ad z out R) (L k : Nat) (hL : 2000 < L) (hn : out.length ≤ 50000) :
    ∃ x adO zO σ1 ad' z' s' σ2, evCall Try.prog env L (k + 4) 10 [pt a] σ = some (.slice adO x.length zO, σ1) ∧ (∀ K : List Value → Res, σ1.row adO (x.length * 3) K = K (x.flatMap c3i)) ∧
      (∀ K, grow 37 3 24 ad out.length z x.length (x.flatMap c3i) σ1 K = K ad' (out ++ x).length z' σ2) ∧ Que σ0 σ2 a s' ad' z' (out ++ x) R ∧ x.length ≤ 20 ∧ Ticked s x s' ∧ ∀ t ∈ R, σ2.get t = σ.get t := by
  obtain ⟨F, q, hS, hT, hO⟩ := h.ex
  have hl := h.inv.len
  have hf := h.inv.left
  obtain ⟨v, σ1, g1, adO, zO, qO, F1, x, s1, rfl, r1, hS1, hT1, n1, ha⟩ := tick_spec hS L k hL (by omega) (by omega)
  obtain ⟨hi, hx⟩ := h.inv.ticked ha
  obtain ⟨ad', z', σ2, g2, hq, hk⟩ := Que.put hO hT hS1 hT1 hi hn x hx
  exact ⟨x, adO, zO, σ1, ad', z', s1, σ2, g1, fun K => r1.read c3i_len _ rfl K, g2, hq, hx, ha, hk⟩

/-- What a turn of the queue ends in. -/
def Rec (σ0 : St) (L k n : Nat) (a : Nat) (N r : Int) (s3 : Option Addr) (s3n s3z i : Nat) : Prop :=
  ∀ (σ' : St) (s' : RS) (ad' : Option Addr) (z' : Nat) (out' : List Cmd) (R' : List Nat) (w' : Bool) (went : Int), Que σ0 σ' a s' ad' z' out' R' → Cov N s' out' (i + 1) w' → 0 ≤ went → went ≤ 4 * (i + 1) → (w' = true → 0 < went) → out'.length ≤ 6100 + 100 * (i + 1) →
    ∃ σ9, lpAt Try.prog env L (k + 5) 6 P15 [] n [(0, .int .u16 r), (3, .slice s3 s3n s3z), (9, pt a), (10, .slice ad' out'.length z'), (12, .int .i64 went), (16, .int .i64 (IntKind.wrap .i64 ((i : Int) + 1)))] σ' = some (.bool true, σ9)

theorem l30_ok (L k n : Nat) {N r : Int} {s3 : Option Addr} {s3n s3z i : Nat} {w : Bool} {went : Int} (h : Que σ0 σ a s ad z out R) (hc : Cov N s out (i + 1) w) (h0 : 0 ≤ went) (h1 : went ≤ 4 * (i + 1)) (h2 : w = true → 0 < went) (h3 : out.length ≤ 6100 + 100 * (i + 1)) (hrec : Rec σ0 L k n a N r s3 s3n s3z i) :
    ∀ m, 0 < m → ∃ σ9, lpAt Try.prog env L (k + 5) 6 P30 [n] m [(0, .int .u16 r), (3, .slice s3 s3n s3z), (9, pt a), (10, .slice ad out.length z), (12, .int .i64 went), (16, .int .i64 i), (20, .int .i64 0)] σ = some (.bool true, σ9)
  | 0, hm => by omega
  | m + 1, _ => by
    rw [f6_l30]
    by_cases ho : out = []
    · obtain ⟨F, q, hS, hT, hO⟩ := h.ex
      have hn0 : s.number = 0 := by
        by_cases hn : s.number = 0
        · exact hn
        · exact absurd ho (hc.some h.inv hn).1
      rw [show ((out.length : Int) == 0) = true by rw [ho]; rfl, br_true, number_spec hS L (k + 4), bnd_some, asI_i, show (s.number != 0) = false by simpa using hn0, br_false]
      exact hrec σ s ad z out R w went h hc h0 h1 h2 h3
    · rw [show ((out.length : Int) == 0) = false by
        rw [beq_eq_false_iff_ne]; have := List.length_pos_iff.2 ho; omega, br_false]
      exact hrec σ s ad z out R w went h hc h0 h1 h2 h3

theorem ansf_ok (L k n : Nat) (hL : 2000 < L) {N r : Int} (hN : N ≠ 0) {s3 : Option Addr} {s3n s3z i : Nat} {w : Bool} {went : Int} (c : Cmd) (h : Que σ0 σ a s ad z out R) (hc : Cov N s (c :: out) i w) (hi : i ≤ 60) (h0 : 0 ≤ went) (h1 : went ≤ 4 * (i + 1)) (h2 : w = true → 0 < went) (h3 : out.length ≤ 6100 + 100 * i + 80) (hrec : Rec σ0 L k n a N r s3 s3n s3z i) :
    ∃ σ9, ansf L (k + 5) n σ c.1 c.2.1 c.2.2 r s3 s3n s3z a 0 ad out.length z went i = some (.bool true, σ9) := by
  obtain ⟨v, x, adO, zO, σ1, ad', z', s', σ2, g1, g2, g3, hq, hx, hor⟩ := answer_step h L k hL (by omega) c
  unfold ansf
  rw [show Value.agg #[Value.int .i64 c.1, .int .i64 c.2.1, .int .i64 c.2.2] = .agg (c3i c).toArray from rfl, g1, bnd_some, asT_t, toList2, uncons_c, asSl_s, uncons_c, endl_n, g2, g3]
  have hc' : Cov N s' (out ++ x) (i + 1) w := by
    rcases hor with ⟨y1, y2, y3, y4, ha⟩ | ⟨hno, rfl, rfl⟩
    · exact hc.popped hN y1 h.inv y3 y2 ha
    · rw [List.append_nil]
      exact hc.stale h.inv hN hno
  exact l30_ok L k n hq hc' h0 h1 h2 (by rw [List.length_append]; omega) hrec L (by omega)

theorem l23_ok (L k n : Nat) (hL : 2000 < L) {N r : Int} (hN : N ≠ 0) {s3 : Option Addr} {s3n s3z i : Nat} {t : Nat} (c : Cmd) (hi : i ≤ 60) (M : Nat) (hM : M ≤ 4) (hrec : Rec σ0 L k n a N r s3 s3n s3z i) :
    ∀ (m j : Nat) {σ : St} {s : RS} {ad : Option Addr} {z : Nat} {out : List Cmd} {w : Bool} {went : Int}, Que σ0 σ a s ad z out [t] → σ.get t = some (.own (c3i c) 37) → Cov N s (c :: out) i w → j ≤ M → M - j < m → 0 ≤ went → went ≤ 4 * i + j → (w = true → 0 < went) → out.length ≤ 6100 + 100 * i + 20 * j →
      ∃ σ9, lpAt Try.prog env L (k + 5) 6 P23 [n] m [(0, .int .u16 r), (3, .slice s3 s3n s3z), (9, pt a), (10, .slice ad out.length z), (12, .int .i64 went), (16, .int .i64 i), (17, pt t), (101, .int .u8 M), (102, .int .u8 j)] σ = some (.bool true, σ9)
  | 0, j, σ, s, ad, z, out, w, went, _, _, _, _, hm, _, _, _, _ => by omega
  | m + 1, j, σ, s, ad, z, out, w, went, h, ht, hc, hj, hm, h0, h1, h2, h3 => by
    rw [f6_l23]
    by_cases hjM : j = M
    · have hP : ∀ K : Option Addr → Res, asP (pt t) K = K (some ⟨t, 0, none⟩) := fun K => rfl
      rw [decide_eq_false (by omega), br_false, hP, adr_some, lds_own (n := 3) _ ht (by simp [c3i]), show ((c3i c).drop 0).take 3 = [.int .i64 c.1, .int .i64 c.2.1, .int .i64 c.2.2] from rfl, uncons_c, asI_i, uncons_c, asI_i, uncons_c, asI_i, endl_n]
      exact ansf_ok L k n hL hN c h hc hi h0 (by omega) h2 (by omega) hrec
    · obtain ⟨x, adO, zO, σ1, ad', z', s', σ2, g1, g2, g3, hq, hx, ha, hk⟩ := tick_step h L (k + 1) hL (by omega)
      have hw : IntKind.wrap .i64 (went + 1) = went + 1 := wrap_in _ (by omega) (by omega)
      have hw8 : IntKind.wrap .u8 ((j : Int) + 1) = ((j + 1 : Nat) : Int) := by
        have h5 : (0 : Int) ≤ (j : Int) + 1 ∧ (j : Int) + 1 < 256 := by omega
        show ((j : Int) + 1) % 256 = _
        rw [Int.emod_eq_of_lt h5.1 h5.2]; omega
      rw [decide_eq_true (by omega), br_true, g1, bnd_some, asSl_s, g2, g3, hw, hw8]
      have hcv := hc.ticked h.inv ha
      exact l23_ok L k n hL hN c hi M hM hrec m (j + 1) hq (by rw [hk t (by simp)]; exact ht) hcv (by omega) (by omega) (by omega) (by omega) (fun _ => by omega) (by rw [List.length_append]; omega)
end

abbrev U8 := { n : Int // 0 ≤ n ∧ n ≤ 255 }
def cu8 (o : U8) : List Value := [.int .u8 o.1]

theorem main_ok (L k : Nat) (hL : 2000 < L) {σ0 : St} {a : Nat} {N r : Int} (hN : N ≠ 0) (hr : IntKind.wrap .i64 (1 + IntKind.wrap .i64 r) = N) {ad3 : Option Addr} {tk : List U8} (htk : tk.length ≤ 50) (hH : Holds σ0 1 cu8 ad3 tk) :
    ∀ (n i : Nat) {σ : St} {s : RS} {ad : Option Addr} {z : Nat} {out : List Cmd} {R : List Nat} {w : Bool} {went : Int}, Que σ0 σ a s ad z out R → Cov N s out i w → i ≤ 60 → 60 - i < n → 0 ≤ went → went ≤ 4 * i → (w = true → 0 < went) → out.length ≤ 6100 + 100 * i →
      ∃ σ9, lpAt Try.prog env L (k + 5) 6 P15 [] n [(0, .int .u16 r), (3, .slice ad3 tk.length 0), (9, pt a), (10, .slice ad out.length z), (12, .int .i64 went), (16, .int .i64 i)] σ = some (.bool true, σ9)
  | 0, i, σ, s, ad, z, out, R, w, went, _, _, _, hn, _, _, _, _ => by omega
  | n + 1, i, σ, s, ad, z, out, R, w, went, h, hc, hi, hn, h0, h1, h2, h3 => by
    obtain ⟨F, q, hS, hT, hO⟩ := h.ex
    rw [f6_l15, number_spec hS L (k + 4), bnd_some, asI_i]
    by_cases hn0 : s.number = 0
    · rcases hc with hc | ⟨_, hd, hcm, hv⟩
      · exact absurd (hc.1.symm.trans hn0) hN
      have hlk : s.lack = [] := by unfold RS.lack; rw [hv]; rfl
      obtain ⟨v, σ3, g3, ad3', z3, q3, rfl, r3, s3, n3⟩ := lacks_spec L (k + 4) hL hS (by rw [hv]; simp)
      rw [hlk, List.length_nil] at g3
      rw [show (s.number != 0) = false by simpa using hn0, br_false, done_spec hS L (k + 4), bnd_some, asT_t, toList2, uncons_c, asI_i, uncons_c, asB_b, endl_n, hr, show (s.done == N) = true by simpa using hd, br_true]
      by_cases hcp : s.complete = true
      · rw [hcp, br_true, g3, bnd_some, asSl_s]
        exact ⟨σ3, rfl⟩
      · have hw : 0 < went := h2 (hcm.resolve_left hcp)
        rw [show s.complete = false by simpa using hcp, br_false, decide_eq_true (by omega), br_true, g3, bnd_some, asSl_s]
        exact ⟨σ3, rfl⟩
    · obtain ⟨hne, hB, hsn⟩ := hc.some h.inv hn0
      match out, hne with
      | c :: out, _ =>
        obtain ⟨qb, ofs, e5, hz, hlds, hT2⟩ := hT.head
        obtain ⟨σ1, hput, ht1, s1, n1⟩ := tmp_put σ [Value.int IntKind.i64 0, Value.int IntKind.i64 0, Value.int IntKind.i64 0] [Value.int IntKind.i64 c.1, Value.int IntKind.i64 c.2.1, Value.int IntKind.i64 c.2.2] 37 rfl rfl
        have hO1 : Owns σ0 σ1 [F, q, [σ.next]] := (hO.more s1 (F := [σ.next]) (fun q hq => by simp at hq; omega)).pick [1, 2, 0] (by decide)
        have hQ1 : Que σ0 σ1 a s (subA ad 3) z out [σ.next] := ⟨⟨F, q, hS.idle s1, hT2.same s1 (by simp), hO1⟩, h.inv⟩
        have hrec : Rec σ0 L k n a N r ad3 tk.length 0 i := fun σ' s' ad' z' out' R' w' went' k1 k2 k3 k4 k5 k6 => by
          rw [show IntKind.wrap .i64 ((i : Int) + 1) = ((i + 1 : Nat) : Int) by rw [wrap_in _ (by omega) (by omega)]; omega]
          exact main_ok L k hL hN hr htk hH n (i + 1) k1 k2 (by omega) (by omega) k3 (by omega) k5 (by omega)
        simp only [List.length_cons] at h3
        have hlen1 : (c :: out).length - 1 = out.length := by simp
        rw [show (s.number != 0) = true by simpa using hn0, br_true, decide_eq_false (by omega), br_false, show (((c :: out).length : Int) == 0) = false by rw [beq_eq_false_iff_ne]; simp only [List.length_cons]; omega, br_false, need_of (by simp [inRange] <;> omega), e5, adr_some, hlds, show c3i c = [.int .i64 c.1, .int .i64 c.2.1, .int .i64 c.2.2] from rfl, uncons_c, asI_i, uncons_c, asI_i, uncons_c, asI_i, endl_n, hput, need_of (by rw [hz]; rfl), need_of (by simp [inRange] <;> omega), ← e5, hlen1]
        by_cases hit : i < tk.length
        · have hget : tk[i]? = some tk[i] := List.getElem?_eq_getElem hit
          obtain ⟨q0, e0, hat⟩ := hH.ld hO1.kept hget
          generalize tk[i] = u at hat
          obtain ⟨u, hu⟩ := u
          have hA : ∀ K : Int → Res, asI .u8 (.int .u8 u) K = K u := fun K => rfl
          have hmod : Int.tmod u 5 = ((u.toNat % 5 : Nat) : Int) := by
            rw [Int.tmod_eq_emod_of_nonneg hu.1]; omega
          rw [decide_eq_true (by omega), br_true, need_of (by simp [inRange]; omega), e0, adr_some, hat 0 (.int .u8 u) _ (by omega) rfl (by omega), hA, hmod, ← e0]
          exact l23_ok L k n hL hN c hi (u.toNat % 5) (by omega) hrec L 0 hQ1 ht1 hc (by omega) (by omega) h0 (by omega) h2 (by omega)
        · rw [decide_eq_false (by omega), br_false, lds_own (n := 3) _ ht1 (by simp), show (List.drop 0 [Value.int IntKind.i64 c.1, Value.int IntKind.i64 c.2.1, Value.int IntKind.i64 c.2.2]).take 3 = [Value.int IntKind.i64 c.1, Value.int IntKind.i64 c.2.1, Value.int IntKind.i64 c.2.2] from rfl, uncons_c, asI_i, uncons_c, asI_i, uncons_c, asI_i, endl_n]
          exact ansf_ok L k n hL hN c hQ1 hc hi h0 (by omega) h2 (by omega) hrec
end Go.AM.Rs
