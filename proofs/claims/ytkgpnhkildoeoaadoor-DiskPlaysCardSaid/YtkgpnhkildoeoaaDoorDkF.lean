/-
  THE DOCUMENT'S DISK, call by call.
-/
import Derived.Test.YtkgpnhkildoeoaaDoorDkD
set_option linter.unusedVariables false
set_option linter.unusedSimpArgs false
set_option linter.unusedSectionVars false
namespace Go.AM.Dk
open Go.Proofs

def str (s : Sec) : ByteArray := ⟨s.1.toArray⟩
def rs (s : Sec) : List Value := [.string (str s)]
def rw2 (w : Lw) : List Value := [.int .i64 w.at_, .string (str w.b)]
theorem rs_len (s : Sec) : (rs s).length = 1 := rfl
theorem rs_one (s : Sec) : (rs s).all oneCell = true := rfl
theorem rw2_len (w : Lw) : (rw2 w).length = 2 := rfl
theorem rw2_one (w : Lw) : (rw2 w).all oneCell = true := rfl

structure Ref (σ : St) (a : Nat) (F : List Nat) (S : List Sec) (W : List Lw) : Prop where
  ex : ∃ q1 q2 ad1 z1 ad2 z2, F = a :: (q1 ++ q2) ∧ σ.get a = some (.own [.slice ad1 S.length z1, .slice ad2 W.length z2] 51) ∧ Row rs 1 9 σ ad1 z1 q1 S ∧ Row rw2 2 75 σ ad2 z2 q2 W ∧ a ∉ q1 ∧ a ∉ q2 ∧ ∀ q ∈ q1, q ∉ q2
  lt : ∀ q ∈ F, q < σ.next
theorem Ref.same {σ σ' : St} {a : Nat} {F G : List Nat} {S : List Sec} {W : List Lw} (h : Ref σ a F S W) (hs : Same σ σ' G) (hF : ∀ q ∈ F, q ∉ G) : Ref σ' a F S W := by
  obtain ⟨q1, q2, ad1, z1, ad2, z2, rfl, h1, h2, h3, h4⟩ := h.ex
  exact ⟨⟨q1, q2, ad1, z1, ad2, z2, rfl, by rw [hs.2 a (h.lt a (by simp)) (hF a (by simp))]; exact h1, h2.same hs (fun q hq => hF q (by simp [hq])), h3.same hs (fun q hq => hF q (by simp [hq])), h4⟩, fun q hq => by have := h.lt q hq; have := hs.1; omega⟩
theorem Ref.idle {σ σ' : St} {a : Nat} {F : List Nat} {S : List Sec} {W : List Lw} (h : Ref σ a F S W) (hs : Same σ σ' []) : Ref σ' a F S W := h.same hs (by simp)

theorem rnew_loop (L k : Nat) {a N : Nat} {σ0 : St} (hN : N ≤ 20) (ha0 : σ0.next ≤ a) : ∀ (n i : Nat) (σ : St) (F : List Nat), i ≤ N → N - i < n → Ref σ a F (List.replicate i zsec) [] → Same σ0 σ [] → (∀ q ∈ F, σ0.next ≤ q) →
    ∃ F' σ9, lpAt Tryd.prog env L k 18 [true, true, false, true] [] n [(0, .int .i64 (N : Nat)), (3, ptr a), (4, .int .i64 i)] σ = some (ptr a, σ9) ∧ Ref σ9 a F' (List.replicate N zsec) [] ∧ Same σ0 σ9 [] ∧ ∀ q ∈ F', σ0.next ≤ q
  | 0, i, σ, F, _, h, _, _, _ => by omega
  | n + 1, i, σ, F, hi, h, hR, hs, hF => by
    rw [f18_l3]
    by_cases hie : i = N
    · subst hie
      rw [decide_eq_false (by omega), br_false]
      exact ⟨F, σ, rfl, hR, hs, hF⟩
    · obtain ⟨q1, q2, ad1, z1, ad2, z2, rfl, h1, h2, h3, ha1, ha2, hd⟩ := hR.ex
      have hw : IntKind.wrap .i64 ((i : Int) + 1) = ((i + 1 : Nat) : Int) := by rw [wrap_in _ (by omega) (by omega)]; omega
      have hlt := hR.lt
      have hal := hlt a (by simp)
      rw [decide_eq_true (by omega), br_true, decide_eq_true (by omega), br_true, ld_at h1 (0 + 0) _ rfl, asSl_s, zerosN_one, show List.replicate 64 (Value.int .u8 0) = by8 (List.replicate 64 0) by rw [by8, List.map_replicate]; rfl]
      generalize hσ1 : σ.new (.own (by8 (List.replicate 64 0)) 5) = σ1
      have g1 : σ1.get σ.next = some (.own (by8 (List.replicate 64 0)) 5) := by rw [← hσ1, get_new_same]
      have s1 : Same σ σ1 [] := by rw [← hσ1]; exact Same.new _ _ _
      have n1 : σ1.next = σ.next + 1 := by rw [← hσ1]; rfl
      have h11 : σ1.get a = _ := (s1.2 a hal (by simp)).trans h1
      rw [ld_at h11 (0 + 0) _ rfl, asSl_s, chk_same, (Bytes.own g1 (by omega)).row 64 (List.length_replicate).symm, asBy_by8]
      generalize hσ2 : σ1.new (.own [.string ⟨(List.replicate 64 (0 : UInt8)).toArray⟩] 9) = σ2
      have g2 : σ2.get σ1.next = some (.own [.string ⟨(List.replicate 64 (0 : UInt8)).toArray⟩] 9) := by rw [← hσ2, get_new_same]
      have s2 : Same σ1 σ2 [] := by rw [← hσ2]; exact Same.new _ _ _
      have n2 : σ2.next = σ1.next + 1 := by rw [← hσ2]; rfl
      have h12 : σ2.get a = _ := (s2.2 a (by omega) (by simp)).trans h11
      rw [ld_at h12 (0 + 0) _ rfl, asSl_s, chk_same, row_one g2]
      have s12 := s1.trans s2
      obtain ⟨ad', z', q', σ3, hgrow, hr3, s3, hq3⟩ := grow_row (by_ := 16) (h2.same s12 (by simp)) rs_len rs_one (by omega) [zsec] [.string ⟨(List.replicate 64 (0 : UInt8)).toArray⟩] rfl 1 rfl (by rw [List.length_replicate]; unfold roomTop; omega) (by rw [List.length_replicate]; unfold sizeTop; omega)
      rw [hgrow]
      have h13 : σ3.get a = _ := (s3.2 a (by omega) ha1).trans h12
      rw [put_sl h13 (0 + 0) _ _ _ (by simp), hw]
      have s4 := Same.set σ3 a (.own (List.set [Value.slice ad1 (List.replicate i zsec).length z1, .slice ad2 ([] : List Lw).length z2] (0 + 0) (.slice ad' ((List.replicate i zsec).length + 1) z')) 51)
      have hne' : a ∉ q' := fun hx => by
        rcases hq3 a hx with hx | hx
        · exact ha1 hx
        · omega
      have n3 := s3.1
      have hrep : List.replicate i zsec ++ [zsec] = List.replicate (i + 1) zsec := List.replicate_succ'.symm
      rw [hrep] at hr3
      refine rnew_loop L k hN ha0 n (i + 1) _ (a :: (q' ++ q2)) (by omega) (by omega) ⟨⟨q', q2, ad', z', ad2, z2, rfl, by rw [get_set_same, List.length_replicate, List.length_replicate]; rfl, hr3.same s4 (fun q hq => by simp; rintro rfl; exact hne' hq), ((h3.same s12 (by simp)).same s3 (fun q hq hq' => hd q hq' hq)).same s4 (fun q hq => by simp; rintro rfl; exact ha2 hq), hne', ha2, fun q hq hq' => ?_⟩, fun q hq => ?_⟩ ⟨by have := hs.1; simp; omega, fun j hj _ => ?_⟩ (fun q hq => ?_)
      · rcases hq3 q hq with hx | hx
        · exact hd q hx hq'
        · have := hlt q (by simp [hq']); omega
      · simp only [next_set]
        rcases List.mem_cons.1 hq with rfl | hq
        · omega
        · rcases List.mem_append.1 hq with hq | hq
          · exact hr3.lt q hq
          · have := hlt q (by simp [hq]); omega
      · have hj2 : j < σ.next := by have := hs.1; omega
        rw [s4.2 j (by omega) (by simp; omega), s3.2 j (by omega) (fun hx => by have := hF j (by simp [hx]); omega), s12.2 j hj2 (by simp), hs.2 j hj (by simp)]
      · rcases List.mem_cons.1 hq with rfl | hq
        · exact hF _ (by simp)
        · rcases List.mem_append.1 hq with hq | hq
          · rcases hq3 q hq with hx | hx
            · exact hF q (by simp [hx])
            · have := hs.1; omega
          · exact hF q (by simp [hq])
theorem rnew_spec (L k : Nat) (hL : 30 < L) (σ : St) (N : Nat) (hN : N ≤ 20) : ∃ a F σ', evCall Tryd.prog env L (k + 1) 18 [.int .i64 (N : Nat)] σ = some (ptr a, σ') ∧ Ref σ' a F (List.replicate N zsec) [] ∧ Same σ σ' [] ∧ ∀ q ∈ F, σ.next ≤ q := by
  rw [f18_eq]
  obtain ⟨F', σ9, g, h1, h2, h3⟩ := rnew_loop L k (a := σ.next) (σ0 := σ) hN (Nat.le_refl _) L 0 (σ.new (.own [.slice none 0 0, .slice none 0 0] 51)) [σ.next] (by omega) (by omega) ⟨⟨[], [], none, 0, none, 0, rfl, get_new_same _ _, Row.nil _ _ _ _, Row.nil _ _ _ _, by simp, by simp, by simp⟩, by simp⟩ (Same.new _ _ _) (by simp)
  exact ⟨σ.next, F', σ9, g, h1, h2, h3⟩

section
variable {σ : St} {a : Nat} {F : List Nat} {S : List Sec} {W : List Lw} (h : Ref σ a F S W) (L k : Nat)
include h
theorem rwrite_spec (hW : W.length ≤ 100000) (i : Int) (s : ByteArray) :
    ∃ (c : Int) (σ' : St), evCall Tryd.prog env L (k + 1) 20 [ptr a, .int .i64 i, .string s] σ = some (.int .i64 c, σ') ∧
      ((∃ (F' : List Nat) (hl : s.data.toList.length = 64), c = 0 ∧ 0 ≤ i ∧ i < S.length ∧ Ref σ' a F' S (W ++ [⟨i, ⟨s.data.toList, hl⟩⟩]) ∧ Turn σ σ' F F') ∨
       (¬ (0 ≤ i ∧ i < S.length) ∧ c = 5 ∧ σ' = σ) ∨ ((0 ≤ i ∧ i < S.length) ∧ s.data.toList.length ≠ 64 ∧ c = 1 ∧ σ' = σ)) := by
  obtain ⟨q1, q2, ad1, z1, ad2, z2, rfl, h1, h2, h3, ha1, ha2, hd⟩ := h.ex
  have hlt := h.lt
  have hal := hlt a (by simp)
  rw [f20_eq]
  by_cases c0 : i < 0
  · rw [decide_eq_true c0, br_true]
    exact ⟨5, σ, rfl, .inr (.inl ⟨by omega, rfl, rfl⟩)⟩
  rw [decide_eq_false c0, br_false, ld_at h1 0 _ rfl, asSl_s]
  by_cases c1 : i ≥ S.length
  · rw [decide_eq_true c1, br_true]
    exact ⟨5, σ, rfl, .inr (.inl ⟨by omega, rfl, rfl⟩)⟩
  rw [decide_eq_false c1, br_false]
  have hsz : s.size = s.data.toList.length := by rw [Array.length_toList]; rfl
  by_cases c2 : s.data.toList.length = 64
  rotate_left
  · rw [show ((s.size : Int) != 64) = true by rw [hsz]; simp only [bne_iff_ne, ne_eq]; omega, br_true]
    exact ⟨1, σ, rfl, .inr (.inr ⟨⟨by omega, by omega⟩, c2, rfl, rfl⟩)⟩
  rw [show ((s.size : Int) != 64) = false by rw [hsz, c2]; rfl, br_false, ld_at h1 1 _ rfl, asSl_s, need_true, need_true, need_true]
  generalize hσ1 : σ.new (.own [.int .i64 i, .string s] 75) = σ1
  have g1 : σ1.get σ.next = some (.own [.int .i64 i, .string s] 75) := by rw [← hσ1, get_new_same]
  have s1 : Same σ σ1 [] := by rw [← hσ1]; exact Same.new _ _ _
  have n1 : σ1.next = σ.next + 1 := by rw [← hσ1]; rfl
  have h11 : σ1.get a = _ := (s1.2 a hal (by simp)).trans h1
  rw [row_all (n := 2) g1 rfl (by omega)]
  have hstr : s = str ⟨s.data.toList, c2⟩ := by unfold str; simp
  obtain ⟨ad', z', q', σ3, hgrow, hr3, s3, hq3⟩ := grow_row (by_ := 24) (h3.same s1 (by simp)) rw2_len rw2_one (by omega) [(⟨i, ⟨s.data.toList, c2⟩⟩ : Lw)] [.int .i64 i, .string s] (by simp [rw2, ← hstr]) 1 rfl (by unfold roomTop; omega) (by unfold sizeTop; omega)
  rw [hgrow]
  have n3 := s3.1
  have h13 : σ3.get a = _ := (s3.2 a (by omega) ha2).trans h11
  rw [put_sl h13 1 _ _ _ (by simp)]
  have s4 := Same.set σ3 a (.own (List.set [Value.slice ad1 S.length z1, .slice ad2 W.length z2] 1 (.slice ad' (W.length + 1) z')) 51)
  have hne' : a ∉ q' := fun hx => by
    rcases hq3 a hx with hx | hx
    · exact ha2 hx
    · omega
  refine ⟨0, _, rfl, .inl ⟨a :: (q1 ++ q'), c2, rfl, by omega, by omega, ⟨⟨q1, q', ad1, z1, ad', z', rfl, by rw [get_set_same, List.length_append]; rfl, ((h2.same s1 (by simp)).same s3 hd).same s4 (fun q hq => by simp; rintro rfl; exact ha1 hq), hr3.same s4 (fun q hq => by simp; rintro rfl; exact hne' hq), ha1, hne', fun q hq hq' => ?_⟩, fun q hq => ?_⟩, ⟨⟨by simp; omega, fun j hj hS => ?_⟩, fun q hq => ?_⟩⟩⟩
  · rcases hq3 q hq' with hx | hx
    · exact hd q hq hx
    · have := hlt q (by simp [hq]); omega
  · simp only [next_set]
    rcases List.mem_cons.1 hq with rfl | hq
    · omega
    · rcases List.mem_append.1 hq with hq | hq
      · have := hlt q (by simp [hq]); omega
      · exact hr3.lt q hq
  · simp only [List.mem_cons, List.mem_append, not_or] at hS
    rw [s4.2 j (by omega) (by simp; exact hS.1), s3.2 j (by omega) hS.2.2, s1.2 j hj (by simp)]
  · simp only [next_set]
    rcases List.mem_cons.1 hq with rfl | hq
    · exact ⟨.inl (by simp), by omega⟩
    · rcases List.mem_append.1 hq with hq | hq
      · exact ⟨.inl (by simp [hq]), by have := hlt q (by simp [hq]); omega⟩
      · refine ⟨?_, hr3.lt q hq⟩
        rcases hq3 q hq with hx | hx
        · exact .inl (by simp [hx])
        · exact .inr (by omega)

theorem rread_loop {ad1 ad2 : Option Addr} {z1 z2 : Nat} {q2 : List Nat} (h1 : σ.get a = some (.own [.slice ad1 S.length z1, .slice ad2 W.length z2] 51)) (hr : Row rw2 2 75 σ ad2 z2 q2 W) (hW : W.length ≤ 100000) (i : Int) : ∀ (n j : Nat) (s : Sec), j ≤ W.length → W.length - j < n →
    lpAt Tryd.prog env L k 21 [true, true, true, false, true] [] n [(0, ptr a), (1, .int .i64 i), (6, .string (str s)), (30, .int .i64 W.length), (31, .int .i64 j)] σ = some (.tuple #[.string (str (look i s (W.drop j))), .int .i64 0], σ)
  | 0, j, s, _, hn => by omega
  | n + 1, j, s, hj, hn => by
    rw [f21_l5]
    by_cases hje : j = W.length
    · rw [decide_eq_false (by omega), br_false, List.drop_of_length_le (by omega)]; rfl
    · have hget : W[j]? = some W[j] := List.getElem?_eq_getElem (by omega)
      have hdrop : W.drop j = W[j] :: W.drop (j + 1) := List.drop_eq_getElem_cons (by omega)
      obtain ⟨q, e, hat⟩ := hr.at rw2_len hget
      rw [hdrop]
      generalize W[j] = w at hat
      have hw : IntKind.wrap .i64 ((j : Int) + 1) = ((j + 1 : Nat) : Int) := by rw [wrap_in _ (by omega) (by omega)]; omega
      rw [decide_eq_true (by omega), br_true, ld_at h1 (0 + 1) _ rfl, asSl_s, need_of (by simp [inRange]; omega), e, adr_some, hat 0 (.int .i64 w.at_) _ (by omega) rfl (by simp), asI_i]
      unfold look
      by_cases hc : w.at_ = i
      · rw [show (w.at_ == i) = true by simpa using hc, br_true, ld_at h1 (0 + 1) _ rfl, asSl_s, need_of (by simp [inRange]; omega), e, adr_some, hat 1 (.string (str w.b)) _ (by omega) rfl (by simp), asS_s, hw, if_pos hc]
        exact rread_loop h1 hr hW i n (j + 1) w.b (by omega) (by omega)
      · rw [show (w.at_ == i) = false by simpa using hc, br_false, hw, if_neg hc]
        exact rread_loop h1 hr hW i n (j + 1) s (by omega) (by omega)
theorem rread_spec (hL : W.length < L) (hW : W.length ≤ 100000) (i : Int) :
    (∃ s, 0 ≤ i ∧ i < S.length ∧ S[i.toNat]? = some s ∧ evCall Tryd.prog env L (k + 1) 21 [ptr a, .int .i64 i] σ = some (.tuple #[.string (str (look i s W)), .int .i64 0], σ)) ∨
    (¬ (0 ≤ i ∧ i < S.length) ∧ evCall Tryd.prog env L (k + 1) 21 [ptr a, .int .i64 i] σ = some (.tuple #[.string ⟨#[]⟩, .int .i64 5], σ)) := by
  obtain ⟨q1, q2, ad1, z1, ad2, z2, rfl, h1, h2, h3, ha1, ha2, hd⟩ := h.ex
  rw [f21_eq]
  by_cases c0 : i < 0
  · rw [decide_eq_true c0, br_true]
    exact .inr ⟨by omega, rfl⟩
  rw [decide_eq_false c0, br_false, ld_at h1 0 _ rfl, asSl_s]
  by_cases c1 : i ≥ S.length
  · rw [decide_eq_true c1, br_true]
    exact .inr ⟨by omega, rfl⟩
  have hget : S[i.toNat]? = some (S[i.toNat]'(by omega)) := List.getElem?_eq_getElem (by omega)
  obtain ⟨q, e, hat⟩ := h2.at rs_len hget
  refine .inl ⟨S[i.toNat]'(by omega), by omega, by omega, hget, ?_⟩
  generalize S[i.toNat]'(by omega) = s at hat
  rw [decide_eq_false c1, br_false, ld_at h1 0 _ rfl, asSl_s, need_of (by simp [inRange]; omega), e, adr_some, hat 0 (.string (str s)) _ (by omega) rfl (by simp), asS_s, ld_at h1 1 _ rfl, asSl_s]
  have := rread_loop h L k h1 h3 hW i L 0 s (by omega) (by omega)
  rw [List.drop_zero] at this
  exact this
end

/-! What is laid. -/
theorem rflush_loop (L k : Nat) {a : Nat} {ad1 ad2 : Option Addr} {z1 z2 : Nat} {q1 q2 : List Nat} {W : List Lw} {n0 : Nat} (ha1 : a ∉ q1) (ha2 : a ∉ q2) (hd : ∀ q ∈ q1, q ∉ q2) {σ0 : St} (ha0 : a < σ0.next) (hW : W.length ≤ 100000) (hin : InR n0 W) : ∀ (n j : Nat) (σ : St) (S : List Sec), j ≤ W.length → W.length - j < n → S.length = n0 →
    Row rs 1 9 σ ad1 z1 q1 S → Row rw2 2 75 σ ad2 z2 q2 W → σ.get a = some (.own [.slice ad1 n0 z1, .slice ad2 W.length z2] 51) → Same σ0 σ q1 →
    ∃ σ9, lpAt Tryd.prog env L k 22 [false, true] [] n [(0, ptr a), (7, .int .i64 W.length), (8, .int .i64 j)] σ = some (.tuple #[], σ9) ∧
      Row rs 1 9 σ9 ad1 z1 q1 (lay (fun _ => true) j S (W.drop j)) ∧ σ9.get a = some (.own [.slice ad1 n0 z1, .slice none 0 0] 51) ∧ Same σ0 σ9 (a :: q1)
  | 0, j, σ, S, _, hn, _, _, _, _, _ => by omega
  | n + 1, j, σ, S, hj, hn, hS, hr1, hr2, ha, hs => by
    rw [f22_l1]
    by_cases hje : j = W.length
    · rw [decide_eq_false (by omega), br_false, List.drop_of_length_le (by omega), put_sl ha (0 + 1) _ _ _ (by simp)]
      have s3 := Same.set σ a (.own (List.set [Value.slice ad1 n0 z1, .slice ad2 W.length z2] (0 + 1) (.slice none 0 0)) 51)
      exact ⟨_, rfl, hr1.same s3 (fun q hq => by simp; rintro rfl; exact ha1 hq), by rw [get_set_same]; rfl, (hs.mono (by simp +contextual)).trans (s3.mono (by simp))⟩
    · have hget : W[j]? = some W[j] := List.getElem?_eq_getElem (by omega)
      have hdrop : W.drop j = W[j] :: W.drop (j + 1) := List.drop_eq_getElem_cons (by omega)
      have hwin := hin _ (List.mem_of_getElem? hget)
      obtain ⟨q, e, hat⟩ := hr2.at rw2_len hget
      rw [hdrop]
      generalize W[j] = w at hat hwin
      have hw : IntKind.wrap .i64 ((j : Int) + 1) = ((j + 1 : Nat) : Int) := by rw [wrap_in _ (by omega) (by omega)]; omega
      obtain ⟨q', σ3, e1, e2, hput, hr3, s3, n3⟩ := hr1.put rs_len rs_one (i := w.at_.toNat) (by omega) w.b
      have hput' : ∀ K : St → Res, σ.put q' (0 + w.at_.toNat * 1) [.string (str w.b)] K = K σ3 := fun K => hput _ (by simp) K
      unfold lay
      rw [decide_eq_true (by omega), br_true, ld_at ha (0 + 0) _ rfl, asSl_s, ld_at ha (0 + 1) _ rfl, asSl_s, need_of (by simp [inRange]; omega), e, adr_some, hat 0 (.int .i64 w.at_) _ (by omega) rfl (by simp), asI_i, ld_at ha (0 + 1) _ rfl, asSl_s, need_of (by simp [inRange]; omega), e, adr_some, hat 1 (.string (str w.b)) _ (by omega) rfl (by simp), asS_s, need_of (by simp [inRange]; omega), e2, adr_some, hput', hw, if_pos rfl, ← e2]
      have hal : a < σ.next := by have := hs.1; omega
      have ha3 : σ3.get a = _ := (s3.2 a hal ha1).trans ha
      exact rflush_loop L k ha1 ha2 hd ha0 hW hin n (j + 1) σ3 _ (by omega) (by omega) (by simpa using hS) hr3 (hr2.same s3 (fun q hq hq' => hd q hq' hq)) ha3 (hs.trans s3)
theorem bit_eq (x j : Nat) (hx : x < 18446744073709551616) : (Int.tmod (Int.fdiv (x : Int) (2 ^ min (Int.toNat (IntKind.wrap .u64 (Int.tmod (j : Int) 64))) 64)) 2 == 1) = bit (x : Int) j := by
  unfold bit
  rw [show Int.tmod (j : Int) 64 = ((j % 64 : Nat) : Int) from rfl, show IntKind.wrap .u64 ((j % 64 : Nat) : Int) = ((j % 64 : Nat) : Int) by rw [show ∀ y : Int, IntKind.wrap .u64 y = y % 18446744073709551616 from fun _ => rfl]; omega, Int.toNat_natCast, fdiv_pow, and_one _ (shr_lt x _ hx)]
  rfl
theorem rcrash_loop (L k x : Nat) (hx : x < 18446744073709551616) {a : Nat} {ad1 ad2 : Option Addr} {z1 z2 : Nat} {q1 q2 : List Nat} {W : List Lw} {n0 : Nat} (ha1 : a ∉ q1) (ha2 : a ∉ q2) (hd : ∀ q ∈ q1, q ∉ q2) {σ0 : St} (ha0 : a < σ0.next) (hW : W.length ≤ 100000) (hin : InR n0 W) : ∀ (n j : Nat) (σ : St) (S : List Sec), j ≤ W.length → W.length - j < n → S.length = n0 →
    Row rs 1 9 σ ad1 z1 q1 S → Row rw2 2 75 σ ad2 z2 q2 W → σ.get a = some (.own [.slice ad1 n0 z1, .slice ad2 W.length z2] 51) → Same σ0 σ q1 →
    ∃ σ9, lpAt Tryd.prog env L k 23 [false, true] [] n [(0, ptr a), (1, .int .u64 (x : Nat)), (9, .int .i64 W.length), (10, .int .i64 j)] σ = some (.tuple #[], σ9) ∧
      Row rs 1 9 σ9 ad1 z1 q1 (lay (bit (x : Int)) j S (W.drop j)) ∧ σ9.get a = some (.own [.slice ad1 n0 z1, .slice none 0 0] 51) ∧ Same σ0 σ9 (a :: q1)
  | 0, j, σ, S, _, hn, _, _, _, _, _ => by omega
  | n + 1, j, σ, S, hj, hn, hS, hr1, hr2, ha, hs => by
    rw [f23_l1]
    by_cases hje : j = W.length
    · rw [decide_eq_false (by omega), br_false, List.drop_of_length_le (by omega), put_sl ha (0 + 1) _ _ _ (by simp)]
      have s3 := Same.set σ a (.own (List.set [Value.slice ad1 n0 z1, .slice ad2 W.length z2] (0 + 1) (.slice none 0 0)) 51)
      exact ⟨_, rfl, hr1.same s3 (fun q hq => by simp; rintro rfl; exact ha1 hq), by rw [get_set_same]; rfl, (hs.mono (by simp +contextual)).trans (s3.mono (by simp))⟩
    · have hget : W[j]? = some W[j] := List.getElem?_eq_getElem (by omega)
      have hdrop : W.drop j = W[j] :: W.drop (j + 1) := List.drop_eq_getElem_cons (by omega)
      have hwin := hin _ (List.mem_of_getElem? hget)
      obtain ⟨q, e, hat⟩ := hr2.at rw2_len hget
      rw [hdrop]
      generalize W[j] = w at hat hwin
      have hw : IntKind.wrap .i64 ((j : Int) + 1) = ((j + 1 : Nat) : Int) := by rw [wrap_in _ (by omega) (by omega)]; omega
      have h64 : decide (0 ≤ IntKind.wrap .u64 (Int.tmod (j : Int) 64)) = true := by
        rw [show ∀ y : Int, IntKind.wrap .u64 y = y % 18446744073709551616 from fun _ => rfl]; exact decide_eq_true (by omega)
      have hal : a < σ.next := by have := hs.1; omega
      rw [decide_eq_true (by omega), br_true, need_of h64, bit_eq x j hx]
      unfold lay
      cases hk : bit (x : Int) j with
      | false =>
        rw [br_false, if_neg (by simp), hw]
        exact rcrash_loop L k x hx ha1 ha2 hd ha0 hW hin n (j + 1) σ S (by omega) (by omega) hS hr1 hr2 ha hs
      | true =>
        obtain ⟨q', σ3, e1, e2, hput, hr3, s3, n3⟩ := hr1.put rs_len rs_one (i := w.at_.toNat) (by omega) w.b
        have hput' : ∀ K : St → Res, σ.put q' (0 + w.at_.toNat * 1) [.string (str w.b)] K = K σ3 := fun K => hput _ (by simp) K
        rw [br_true, if_pos rfl, ld_at ha (0 + 0) _ rfl, asSl_s, ld_at ha (0 + 1) _ rfl, asSl_s, need_of (by simp [inRange]; omega), e, adr_some, hat 0 (.int .i64 w.at_) _ (by omega) rfl (by simp), asI_i, ld_at ha (0 + 1) _ rfl, asSl_s, need_of (by simp [inRange]; omega), e, adr_some, hat 1 (.string (str w.b)) _ (by omega) rfl (by simp), asS_s, need_of (by simp [inRange]; omega), e2, adr_some, hput', hw, ← e2]
        have ha3 : σ3.get a = _ := (s3.2 a hal ha1).trans ha
        exact rcrash_loop L k x hx ha1 ha2 hd ha0 hW hin n (j + 1) σ3 _ (by omega) (by omega) (by simpa using hS) hr3 (hr2.same s3 (fun q hq hq' => hd q hq' hq)) ha3 (hs.trans s3)

theorem Ref.laid {σ σ9 : St} {a n0 : Nat} {q1 q2 : List Nat} {ad1 : Option Addr} {z1 : Nat} {S' : List Sec} (hlt : ∀ q ∈ a :: (q1 ++ q2), q < σ.next) (hr9 : Row rs 1 9 σ9 ad1 z1 q1 S') (ha9 : σ9.get a = some (.own [.slice ad1 n0 z1, .slice none 0 0] 51)) (hn : S'.length = n0) (s9 : Same σ σ9 (a :: q1)) (ha1 : a ∉ q1) :
    Ref σ9 a (a :: q1) S' [] ∧ Turn σ σ9 (a :: (q1 ++ q2)) (a :: q1) := by
  have hn9 := s9.1
  refine ⟨⟨⟨q1, [], ad1, z1, none, 0, by simp, by rw [ha9, hn]; rfl, hr9, Row.nil _ _ _ _, ha1, by simp, by simp⟩, fun q hq => ?_⟩, ⟨s9.mono (fun x hx => ?_), fun q hq => ⟨.inl ?_, ?_⟩⟩⟩
  · rcases List.mem_cons.1 hq with rfl | hq
    · have := hlt q (by simp); omega
    · have := hlt q (by simp [hq]); omega
  · rcases List.mem_cons.1 hx with rfl | hx
    · simp
    · simp [hx]
  · rcases List.mem_cons.1 hq with rfl | hq
    · simp
    · simp [hq]
  · rcases List.mem_cons.1 hq with rfl | hq
    · have := hlt q (by simp); omega
    · have := hlt q (by simp [hq]); omega

theorem rflush_spec (L k : Nat) {σ : St} {a : Nat} {F : List Nat} {S : List Sec} {W : List Lw} (h : Ref σ a F S W) (hL : W.length < L) (hW : W.length ≤ 100000) (hin : InR S.length W) :
    ∃ F' σ', evCall Tryd.prog env L (k + 1) 22 [ptr a] σ = some (.tuple #[], σ') ∧ Ref σ' a F' (lay (fun _ => true) 0 S W) [] ∧ Turn σ σ' F F' := by
  obtain ⟨q1, q2, ad1, z1, ad2, z2, rfl, h1, h2, h3, ha1, ha2, hd⟩ := h.ex
  rw [f22_eq, ld_at h1 1 _ rfl, asSl_s]
  obtain ⟨σ9, g9, hr9, ha9, s9⟩ := rflush_loop L k ha1 ha2 hd (h.lt a (by simp)) hW hin L 0 σ S (by omega) (by omega) rfl h2 h3 h1 (Same.refl _ _)
  rw [List.drop_zero] at hr9
  obtain ⟨r1, r2⟩ := Ref.laid h.lt hr9 ha9 (lay_len _ _ _ _) s9 ha1
  exact ⟨a :: q1, σ9, g9, r1, r2⟩
theorem rcrash_spec (L k x : Nat) (hx : x < 18446744073709551616) {σ : St} {a : Nat} {F : List Nat} {S : List Sec} {W : List Lw} (h : Ref σ a F S W) (hL : W.length < L) (hW : W.length ≤ 100000) (hin : InR S.length W) :
    ∃ F' σ', evCall Tryd.prog env L (k + 1) 23 [ptr a, .int .u64 (x : Nat)] σ = some (.tuple #[], σ') ∧ Ref σ' a F' (lay (bit (x : Int)) 0 S W) [] ∧ Turn σ σ' F F' := by
  obtain ⟨q1, q2, ad1, z1, ad2, z2, rfl, h1, h2, h3, ha1, ha2, hd⟩ := h.ex
  rw [f23_eq, ld_at h1 1 _ rfl, asSl_s]
  obtain ⟨σ9, g9, hr9, ha9, s9⟩ := rcrash_loop L k x hx ha1 ha2 hd (h.lt a (by simp)) hW hin L 0 σ S (by omega) (by omega) rfl h2 h3 h1 (Same.refl _ _)
  rw [List.drop_zero] at hr9
  obtain ⟨r1, r2⟩ := Ref.laid h.lt hr9 ha9 (lay_len _ _ _ _) s9 ha1
  exact ⟨a :: q1, σ9, g9, r1, r2⟩

end Go.AM.Dk
