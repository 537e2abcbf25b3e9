/-
  THE DISK's calls, one by one.
-/
import Derived.Test.YtkgpnhkildoeoaaDoorAm21
import Derived.Test.YtkgpnhkildoeoaaDoorDfE
set_option linter.unusedVariables false
set_option linter.unusedSimpArgs false
set_option linter.unusedSectionVars false
namespace Go.AM.Df
open Go.Proofs

/-- A sector's bytes. -/
abbrev Sec := { l : List UInt8 // l.length = 64 }
def sc (s : Sec) : List Value := by8 s.1
theorem sc_len (s : Sec) : (sc s).length = 64 := by unfold sc; rw [by8_len, s.2]
theorem sc_one (s : Sec) : (sc s).all oneCell = true := by8_one _
def zsec : Sec := ⟨List.replicate 64 0, rfl⟩
/-- A write that isn't fast. -/
structure Lw where
  at_ : Int
  b : Sec
def lw (w : Lw) : List Value := .int .i64 w.at_ :: sc w.b
theorem lw_len (w : Lw) : (lw w).length = 65 := by unfold lw; rw [List.length_cons, sc_len]
theorem lw_one (w : Lw) : (lw w).all oneCell = true := by unfold lw; rw [List.all_cons, sc_one]; rfl
theorem z64 : (List.replicate 64 (.int .u8 0) : List Value) = sc zsec := rfl
theorem z65 : (.int .i64 0 :: List.replicate 64 (.int .u8 0) : List Value) = lw ⟨0, zsec⟩ := rfl
theorem ov65 (a : Int) : over (lw ⟨0, zsec⟩) 0 [.int .i64 a] = lw ⟨a, zsec⟩ := rfl
theorem over_all {vs ws : List Value} (h : ws.length = vs.length) : over vs 0 ws = ws := by simp [over, h]
theorem ov_sec (a : Int) (s b : Sec) : over (lw ⟨a, s⟩) 1 (sc b) = lw ⟨a, b⟩ := by
  unfold over lw
  rw [sc_len, show 1 + 64 = 65 from rfl, List.drop_of_length_le (by rw [List.length_cons, sc_len]; exact Nat.le_refl _)]
  simp

/-! What a disk is. -/
def look (i : Int) (s : Sec) : List Lw → Sec
  | [] => s
  | w :: ws => look i (if w.at_ = i then w.b else s) ws
def lay (kept : Nat → Bool) : Nat → List Sec → List Lw → List Sec
  | _, S, [] => S
  | k, S, w :: ws => lay kept (k + 1) (if kept k = true then S.set w.at_.toNat w.b else S) ws
theorem lay_len (kept : Nat → Bool) : ∀ (W : List Lw) (k : Nat) (S : List Sec), (lay kept k S W).length = S.length
  | [], _, _ => rfl
  | w :: ws, k, S => by
    unfold lay
    rw [lay_len kept ws]
    split <;> simp
def InR (n : Nat) (W : List Lw) : Prop := ∀ w ∈ W, 0 ≤ w.at_ ∧ w.at_ < n

structure Disk (σ : St) (a : Nat) (F : List Nat) (S : List Sec) (W : List Lw) : Prop where
  ex : ∃ q1 q2 ad1 z1 ad2 z2, F = a :: (q1 ++ q2) ∧ σ.get a = some (.own [.slice ad1 S.length z1, .slice ad2 W.length z2] 58) ∧ Row sc 64 68 σ ad1 z1 q1 S ∧ Row lw 65 70 σ ad2 z2 q2 W ∧ a ∉ q1 ∧ a ∉ q2 ∧ ∀ q ∈ q1, q ∉ q2
  lt : ∀ q ∈ F, q < σ.next
theorem Disk.same {σ σ' : St} {a : Nat} {F G : List Nat} {S : List Sec} {W : List Lw} (h : Disk σ a F S W) (hs : Same σ σ' G) (hF : ∀ q ∈ F, q ∉ G) : Disk σ' a F S W := by
  obtain ⟨q1, q2, ad1, z1, ad2, z2, rfl, h1, h2, h3, h4⟩ := h.ex
  exact ⟨⟨q1, q2, ad1, z1, ad2, z2, rfl, by rw [hs.2 a (h.lt a (by simp)) (hF a (by simp))]; exact h1, h2.same hs (fun q hq => hF q (by simp [hq])), h3.same hs (fun q hq => hF q (by simp [hq])), h4⟩, fun q hq => by have := h.lt q hq; have := hs.1; omega⟩
theorem Disk.idle {σ σ' : St} {a : Nat} {F : List Nat} {S : List Sec} {W : List Lw} (h : Disk σ a F S W) (hs : Same σ σ' []) : Disk σ' a F S W := h.same hs (by simp)

abbrev ptr (a : Nat) : Value := .pointer (some ⟨a, 0, none⟩)
abbrev word : ByteArray := ⟨#[100, 105, 115, 107]⟩

theorem wrap_spec (L k : Nat) (σ : St) (at_ : Int) (e : Int) (he : e ≠ 0) : ∃ v σ', evCall Tryd.prog env L (k + 1) 31 [.string word, .int .i64 at_, .iface 43 (.int .i64 e)] σ = some (v, σ') ∧ Err σ' v e at_ ∧ Same σ σ' [] := by
  rw [f31_eq, eqNil_iface, br_false]
  have hb : (e == 0) = false := by simpa using he
  refine ⟨.iface 79 (.pointer (some ⟨σ.next, 0, none⟩)), σ.new (Blk.own [.string word, .int .i64 at_, .iface 43 (.int .i64 e)] 81), ?_, ⟨_, rfl, get_new_same _ _, by simp⟩, Same.new _ _ _⟩
  simp [eqErr, hb, oneCell]

theorem new_spec (L k : Nat) (σ : St) (n : Int) : ∃ a F σ', evCall Tryd.prog env L (k + 1) 11 [.int .i64 n] σ = some (ptr a, σ') ∧ Disk σ' a F (List.replicate (mx 0 (mn n 1024)).toNat zsec) [] ∧ Same σ σ' [] ∧ ∀ q ∈ F, σ.next ≤ q := by
  have hm : 0 ≤ mx 0 (mn n 1024) ∧ mx 0 (mn n 1024) ≤ 1024 := by unfold mx mn; repeat' split <;> omega
  rw [f11_eq]
  generalize mx 0 (mn n 1024) = m at hm
  rw [need_of (by simp; omega), z64, zerosN_flat]
  have hr := Row.fresh sc 64 68 σ (List.replicate m.toNat zsec)
  generalize hσ1 : σ.new (.own ((List.replicate m.toNat zsec).flatMap sc) 68) = σ1 at hr
  have hs1 : Same σ σ1 [] := by rw [← hσ1]; exact Same.new _ _ _
  have hn1 : σ1.next = σ.next + 1 := by rw [← hσ1]; rfl
  have hs2 : Same σ1 (σ1.new (.own [.slice (some ⟨σ.next, 0, none⟩) m.toNat 64, .slice none 0 0] 58)) [] := Same.new _ _ _
  refine ⟨σ1.next, [σ1.next, σ.next], _, rfl, ⟨⟨[σ.next], [], some ⟨σ.next, 0, none⟩, 64, none, 0, rfl, by rw [get_new_same, List.length_replicate]; rfl, hr.same hs2 (by simp), Row.nil _ _ _ _, by simp; omega, by simp, by simp⟩, by simp; omega⟩, hs1.trans hs2, by simp; omega⟩

section
variable {σ : St} {a : Nat} {F : List Nat} {S : List Sec} {W : List Lw} (h : Disk σ a F S W) (L k : Nat)
include h
theorem len_spec : evCall Tryd.prog env L (k + 1) 16 [ptr a] σ = some (.int .i64 S.length, σ) := by
  obtain ⟨q1, q2, ad1, z1, ad2, z2, rfl, h1, _⟩ := h.ex
  rw [f16_eq, ld_at h1 0 _ rfl, asSl_s]
theorem loose_spec : evCall Tryd.prog env L (k + 1) 24 [ptr a] σ = some (.int .i64 W.length, σ) := by
  obtain ⟨q1, q2, ad1, z1, ad2, z2, rfl, h1, _⟩ := h.ex
  rw [f24_eq, ld_at h1 1 _ rfl, asSl_s]

theorem there_spec (i : Int) : ∃ v σ', evCall Tryd.prog env L (k + 2) 30 [ptr a, .int .i64 i] σ = some (v, σ') ∧ Same σ σ' [] ∧ ((0 ≤ i ∧ i < S.length ∧ v = .nilIface) ∨ (¬ (0 ≤ i ∧ i < S.length) ∧ Err σ' v 5 i)) := by
  rw [f30_eq]
  by_cases h0 : i < 0
  · obtain ⟨v, σ', g, e, s⟩ := wrap_spec L k σ i 5 (by decide)
    rw [decide_eq_true h0, br_true, g]
    exact ⟨v, σ', rfl, s, .inr ⟨by omega, e⟩⟩
  · rw [decide_eq_false h0, br_false, len_spec h, bnd_some, asI_i]
    by_cases h1 : i ≥ S.length
    · obtain ⟨v, σ', g, e, s⟩ := wrap_spec L k σ i 5 (by decide)
      rw [decide_eq_true h1, br_true, g]
      exact ⟨v, σ', rfl, s, .inr ⟨by omega, e⟩⟩
    · rw [decide_eq_false h1, br_false]
      exact ⟨_, σ, rfl, Same.refl _ _, .inl ⟨by omega, by omega, rfl⟩⟩

/-- A sector is written: whatever it says, where it lies stays. -/
theorem write_spec {ad : Option Addr} {z : Nat} {l : List UInt8} {G : List Nat} (hB : Bytes σ ad l G) (hW : W.length ≤ 100000) (i : Int) :
    ∃ v σ', evCall Tryd.prog env L (k + 3) 13 [ptr a, .int .i64 i, .slice ad l.length z] σ = some (v, σ') ∧
      ((∃ (F' : List Nat) (hl : l.length = 64), 0 ≤ i ∧ i < S.length ∧ v = .nilIface ∧ Disk σ' a F' S (W ++ [⟨i, ⟨l, hl⟩⟩]) ∧ Turn σ σ' F F') ∨
       (¬ (0 ≤ i ∧ i < S.length) ∧ Err σ' v 5 i ∧ Same σ σ' []) ∨ ((0 ≤ i ∧ i < S.length) ∧ l.length ≠ 64 ∧ Err σ' v 1 i ∧ Same σ σ' [])) := by
  rw [f13_eq, z65, ov65]
  obtain ⟨v1, σ1, g1, s1, h1⟩ := there_spec h L k i
  rw [g1, bnd_some]
  rcases h1 with ⟨i0, i1, rfl⟩ | ⟨i0, e1⟩
  rotate_left
  · rw [e1.nil, not_false, br_true]
    exact ⟨v1, σ1, rfl, .inr (.inl ⟨i0, e1, s1⟩)⟩
  have hn64 : Nat.beq (List.length (lw ⟨i, zsec⟩)) 65 = true := by rw [lw_len]; rfl
  rw [eqNil_nil, not_true, br_false, need_of hn64, tmp_put2 _ _ _ _ (by rw [lw_len, lw_len]) (lw_one _)]
  generalize hσ2 : σ1.new (.own (lw ⟨i, zsec⟩) 70) = σ2
  have hg2 : σ2.get σ1.next = some (.own (lw ⟨i, zsec⟩) 70) := by rw [← hσ2, get_new_same]
  have s2 : Same σ1 σ2 [] := by rw [← hσ2]; exact Same.new _ _ _
  have n2 : σ2.next = σ1.next + 1 := by rw [← hσ2]; rfl
  have s12 := s1.trans s2
  have n1 := s1.1
  obtain ⟨σ3, g3, hg3, s3, n3⟩ := cpy_spec (hB.same s12 (by simp)) hg2 (m := min l.length 64) (o := 1) (Nat.min_le_left _ _) (by rw [lw_len]; omega)
  rw [g3]
  have s13 : Same σ σ3 [] := s12.fresh s3 (by simp; omega)
  by_cases hl : l.length = 64
  rotate_left
  · obtain ⟨v4, σ4, g4, e4, s4⟩ := wrap_spec L (k + 1) σ3 i 1 (by decide)
    refine ⟨v4, σ4, ?_, .inr (.inr ⟨⟨i0, i1⟩, hl, e4, s13.trans s4⟩)⟩
    by_cases hm : (((min l.length 64 : Nat) : Int) != (l.length : Int)) = true
    · rw [hm, br_true, g4]; rfl
    · rw [show (((min l.length 64 : Nat) : Int) != (l.length : Int)) = false by simpa using hm, br_false, show ((l.length : Int) != 64) = true by simp; omega, br_true, g4]; rfl
  rw [show (((min l.length 64 : Nat) : Int) != (l.length : Int)) = false by simp; omega, br_false, show ((l.length : Int) != 64) = false by simp; omega, br_false]
  have hov : over (lw ⟨i, zsec⟩) 1 (by8 (l.take (min l.length 64))) = lw ⟨i, ⟨l, hl⟩⟩ := by
    rw [List.take_of_length_le (by omega)]; exact ov_sec i zsec ⟨l, hl⟩
  rw [hov] at hg3
  obtain ⟨q1, q2, ad1, z1, ad2, z2, rfl, ha, hr1, hr2, ha1, ha2, hd⟩ := h.ex
  have hlt := h.lt
  have hal := hlt a (by simp)
  have hg3a : σ3.get a = _ := (s13.2 a hal (by simp)).trans ha
  rw [ld_at hg3a 1 _ rfl, asSl_s, lds_all hg3 (lw_len _).symm, need_of (by rw [lw_len]; rfl), need_of (by rw [lw_len]; rfl), show zerosN (lw ⟨0, zsec⟩) 1 = lw ⟨0, zsec⟩ from List.append_nil _, over_all (by rw [lw_len, lw_len])]
  generalize hσ4 : σ3.new (.own (lw ⟨i, ⟨l, hl⟩⟩) 70) = σ4
  have hg4 : σ4.get σ3.next = some (.own (lw ⟨i, ⟨l, hl⟩⟩) 70) := by rw [← hσ4, get_new_same]
  have s4 : Same σ3 σ4 [] := by rw [← hσ4]; exact Same.new _ _ _
  have n4 : σ4.next = σ3.next + 1 := by rw [← hσ4]; rfl
  have s14 := s13.trans s4
  have hg4a : σ4.get a = _ := (s14.2 a hal (by simp)).trans ha
  rw [ld_at hg4a 1 _ rfl, asSl_s, chk_same, row_all hg4 (lw_len _).symm (by omega)]
  have hr4 := hr2.same s14 (by simp)
  obtain ⟨ad', z', q', σ5, hgrow, hr5, s5, hq5⟩ := grow_row (by_ := 72) hr4 lw_len lw_one (by omega) [(⟨i, ⟨l, hl⟩⟩ : Lw)] (lw ⟨i, ⟨l, hl⟩⟩) (by simp) 1 rfl (by unfold roomTop; omega) (by unfold sizeTop; omega)
  rw [hgrow]
  have n14 := s14.1
  have n5 := s5.1
  have hg5a : σ5.get a = _ := (s5.2 a (by omega) ha2).trans hg4a
  rw [put_sl hg5a 1 _ _ _ (by simp)]
  have s6 := Same.set σ5 a (.own (List.set [Value.slice ad1 S.length z1, .slice ad2 W.length z2] 1 (.slice ad' (W.length + 1) z')) 58)
  have hne' : a ∉ q' := fun hx => by
    rcases hq5 a hx with hx | hx
    · exact ha2 hx
    · omega
  have hd5 : ∀ q ∈ q1, q ∉ q2 := hd
  refine ⟨_, _, rfl, .inl ⟨a :: (q1 ++ q'), hl, i0, i1, rfl, ⟨⟨q1, q', ad1, z1, ad', z', rfl, by rw [get_set_same, List.length_append]; rfl, ((hr1.same s14 (by simp)).same s5 hd).same s6 (fun q hq => by simp; rintro rfl; exact ha1 hq), hr5.same s6 (fun q hq => by simp; rintro rfl; exact hne' hq), ha1, hne', fun q hq hq' => ?_⟩, fun q hq => ?_⟩, ⟨⟨by simp; omega, fun j hj hS => ?_⟩, fun q hq => ?_⟩⟩⟩
  · rcases hq5 q hq' with hx | hx
    · exact hd q hq hx
    · have := hlt q (by simp [hq]); omega
  · simp only [next_set]
    rcases List.mem_cons.1 hq with rfl | hq
    · omega
    · rcases List.mem_append.1 hq with hq | hq
      · have := hlt q (by simp [hq]); omega
      · exact hr5.lt q hq
  · simp only [List.mem_cons, List.mem_append, not_or] at hS
    rw [s6.2 j (by omega) (by simp; exact hS.1), s5.2 j (by omega) hS.2.2, s14.2 j hj (by simp)]
  · simp only [next_set]
    rcases List.mem_cons.1 hq with rfl | hq
    · exact ⟨.inl (by simp), by omega⟩
    · rcases List.mem_append.1 hq with hq | hq
      · exact ⟨.inl (by simp [hq]), by have := hlt q (by simp [hq]); omega⟩
      · refine ⟨?_, hr5.lt q hq⟩
        rcases hq5 q hq with hx | hx
        · exact .inl (by simp [hx])
        · exact .inr (by omega)

/-- A sector is read. -/
theorem read_loop {ad2 : Option Addr} {z2 : Nat} {q2 : List Nat} (hF : ∀ q ∈ q2, q ∈ F) (hW : W.length ≤ 100000) (i : Int) (t : Nat) (ht : σ.next ≤ t) : ∀ (n j : Nat) (σ' : St) (s : Sec), j ≤ W.length → W.length - j < n → Row lw 65 70 σ' ad2 z2 q2 W → σ'.get t = some (.own (sc s) 68) → t < σ'.next → Same σ σ' [] →
    ∃ σ9, lpAt Tryd.prog env L k 15 [true, true, true, false, true] [] n [(1, .int .i64 i), (7, ptr t), (26, .slice ad2 W.length z2), (27, .int .i64 W.length), (28, .int .i64 j)] σ' = some (.tuple #[.slice (some ⟨t, 0, none⟩) 64 0, .nilIface], σ9) ∧ σ9.get t = some (.own (sc (look i s (W.drop j))) 68) ∧ t < σ9.next ∧ Same σ σ9 []
  | 0, j, σ', s, _, hn, _, _, _, _ => by omega
  | n + 1, j, σ', s, hj, hn, hr, hg, htl, hs => by
    rw [f15_l6]
    by_cases hje : j = W.length
    · rw [decide_eq_false (by omega), br_false, List.drop_of_length_le (by omega)]
      exact ⟨σ', rfl, hg, htl, hs⟩
    · have hget : W[j]? = some W[j] := List.getElem?_eq_getElem (by omega)
      have hdrop : W.drop j = W[j] :: W.drop (j + 1) := List.drop_eq_getElem_cons (by omega)
      obtain ⟨q, e, hat⟩ := hr.lds lw_len hget
      rw [hdrop]
      generalize W[j] = w at hat
      have hw : IntKind.wrap .i64 ((j : Int) + 1) = ((j + 1 : Nat) : Int) := by rw [wrap_in _ (by omega) (by omega)]; omega
      rw [decide_eq_true (by omega), br_true, need_of (by simp [inRange]; omega), e, adr_some, hat _ (by simp), need_of (by rw [lw_len]; rfl), z65, tmp_put2 _ _ _ _ (by rw [lw_len, lw_len]) (lw_one _)]
      generalize hσ2 : σ'.new (.own (lw w) 70) = σ2
      have hg2 : σ2.get σ'.next = some (.own (lw w) 70) := by rw [← hσ2, get_new_same]
      have s2 : Same σ' σ2 [] := by rw [← hσ2]; exact Same.new _ _ _
      have n2 : σ2.next = σ'.next + 1 := by rw [← hσ2]; rfl
      have ht2 : σ2.get t = some (.own (sc s) 68) := by rw [s2.2 t htl (by simp)]; exact hg
      rw [ld_at hg2 0 (.int .i64 w.at_) rfl, asI_i, hw, ← e]
      unfold look
      by_cases hc : w.at_ = i
      · have hl1 : ∀ K : List Value → Res, σ2.lds σ'.next 1 64 K = K (sc w.b) := fun K => by
          rw [lds_own K hg2 (by rw [lw_len]; omega)]
          congr 1
          unfold lw
          rw [List.drop_succ_cons, List.drop_zero, ← sc_len w.b, List.take_length]
        rw [show (w.at_ == i) = true by simpa using hc, br_true, hl1, need_of (by rw [sc_len]; rfl), put_all ht2 (by rw [sc_len, sc_len]) (sc_one _), if_pos hc]
        have s3 := Same.set σ2 t (.own (sc w.b) 68)
        exact read_loop hF hW i t ht n (j + 1) _ w.b (by omega) (by omega) ((hr.same s2 (by simp)).same s3 (fun q hq => by have := h.lt q (hF q hq); simp; omega)) (get_set_same _ _ _) (by simp; omega) ((hs.trans s2).fresh s3 (by simp; omega))
      · rw [show (w.at_ == i) = false by simpa using hc, br_false, if_neg hc]
        exact read_loop hF hW i t ht n (j + 1) σ2 s (by omega) (by omega) (hr.same s2 (by simp)) ht2 (by omega) (hs.trans s2)

theorem read_spec (hL : W.length < L) (hW : W.length ≤ 100000) (i : Int) :
    ∃ v σ', evCall Tryd.prog env L (k + 3) 15 [ptr a, .int .i64 i] σ = some (v, σ') ∧ Same σ σ' [] ∧
      ((∃ (s : Sec) (t : Nat), 0 ≤ i ∧ i < S.length ∧ S[i.toNat]? = some s ∧ v = .tuple #[.slice (some ⟨t, 0, none⟩) 64 0, .nilIface] ∧ σ'.get t = some (.own (sc (look i s W)) 68) ∧ σ.next ≤ t ∧ t < σ'.next) ∨
       (∃ v', ¬ (0 ≤ i ∧ i < S.length) ∧ v = .tuple #[.slice none 0 0, v'] ∧ Err σ' v' 5 i)) := by
  rw [f15_eq]
  obtain ⟨v1, σ1, g1, s1, h1⟩ := there_spec h L k i
  rw [g1, bnd_some]
  rcases h1 with ⟨i0, i1, rfl⟩ | ⟨i0, e1⟩
  rotate_left
  · rw [e1.nil, not_false, br_true]
    exact ⟨_, σ1, rfl, s1, .inr ⟨v1, i0, rfl, e1⟩⟩
  obtain ⟨q1, q2, ad1, z1, ad2, z2, rfl, ha, hr1, hr2, ha1, ha2, hd⟩ := h.ex
  have hlt := h.lt
  have hal := hlt a (by simp)
  have hg1a : σ1.get a = _ := (s1.2 a hal (by simp)).trans ha
  have hget : S[i.toNat]? = some (S[i.toNat]'(by omega)) := List.getElem?_eq_getElem (by omega)
  obtain ⟨q, e, hat⟩ := (hr1.same s1 (by simp)).lds sc_len hget
  rw [eqNil_nil, not_true, br_false, ld_at hg1a 0 _ rfl, asSl_s, need_of (by simp [inRange]; omega), e, adr_some, hat _ (by simp), need_of (by rw [sc_len]; rfl), z64, tmp_put2 _ _ _ _ (by rw [sc_len, sc_len]) (sc_one _)]
  generalize S[i.toNat]'(by omega) = s at hget
  generalize hσ2 : σ1.new (.own (sc s) 68) = σ2
  have hg2 : σ2.get σ1.next = some (.own (sc s) 68) := by rw [← hσ2, get_new_same]
  have s2 : Same σ1 σ2 [] := by rw [← hσ2]; exact Same.new _ _ _
  have n2 : σ2.next = σ1.next + 1 := by rw [← hσ2]; rfl
  have hg2a : σ2.get a = _ := (s2.2 a (by have := s1.1; omega) (by simp)).trans hg1a
  rw [ld_at hg2a 1 _ rfl, asSl_s]
  obtain ⟨σ9, g9, hg9, hl9, s9⟩ := read_loop h L (k + 2) (ad2 := ad2) (z2 := z2) (q2 := q2) (fun q hq => by simp [hq]) hW i σ1.next s1.1 L 0 σ2 s (by omega) (by omega) (hr2.same (s1.trans s2) (by simp)) hg2 (by omega) (s1.trans s2)
  exact ⟨_, σ9, g9, s9, .inl ⟨s, σ1.next, i0, i1, hget, rfl, hg9, s1.1, hl9⟩⟩
end

/-! Some of what isn't fast is laid. -/
theorem settle_loop (L k f : Nat) (caps : List Value) (kept : Nat → Bool) (P : St → Prop) {a : Nat} {ad1 ad2 : Option Addr} {z1 z2 : Nat} {q1 q2 : List Nat} {W : List Lw} {n0 : Nat} (ha1 : a ∉ q1) (ha2 : a ∉ q2) (hd : ∀ q ∈ q1, q ∉ q2) {σ0 : St} (ha0 : a < σ0.next)
    (hP : ∀ σ σ', P σ → Same σ σ' q1 → P σ') (hcall : ∀ (σ : St) (j : Nat), P σ → evCall Tryd.prog env L k f (.int .i64 j :: caps) σ = some (.bool (kept j), σ)) (hW : W.length ≤ 100000) (hin : InR n0 W) : ∀ (n j : Nat) (σ : St) (S : List Sec), j ≤ W.length → W.length - j < n → S.length = n0 →
    Row sc 64 68 σ ad1 z1 q1 S → Row lw 65 70 σ ad2 z2 q2 W → σ.get a = some (.own [.slice ad1 n0 z1, .slice ad2 W.length z2] 58) → P σ → Same σ0 σ q1 →
    ∃ σ9, lpAt Tryd.prog env L k 28 [true, false, true] [] n [(0, ptr a), (1, .func (.func f) #[] caps.toArray), (11, .slice ad2 W.length z2), (12, .int .i64 W.length), (13, .int .i64 j)] σ = some (.tuple #[], σ9) ∧
      Row sc 64 68 σ9 ad1 z1 q1 (lay kept j S (W.drop j)) ∧ σ9.get a = some (.own [.slice ad1 n0 z1, .slice none 0 0] 58) ∧ Same σ0 σ9 (a :: q1)
  | 0, j, σ, S, _, hn, _, _, _, _, _, _ => by omega
  | n + 1, j, σ, S, hj, hn, hS, hr1, hr2, ha, hp, hs => by
    rw [f28_l2]
    by_cases hje : j = W.length
    · rw [decide_eq_false (by omega), br_false, List.drop_of_length_le (by omega), put_sl ha (0 + 1) _ _ _ (by simp)]
      have s3 := Same.set σ a (.own (List.set [Value.slice ad1 n0 z1, .slice ad2 W.length z2] (0 + 1) (.slice none 0 0)) 58)
      exact ⟨_, rfl, hr1.same s3 (fun q hq => by simp; rintro rfl; exact ha1 hq), by rw [get_set_same]; rfl, (hs.mono (by simp +contextual)).trans (s3.mono (by simp))⟩
    · have hget : W[j]? = some W[j] := List.getElem?_eq_getElem (by omega)
      have hdrop : W.drop j = W[j] :: W.drop (j + 1) := List.drop_eq_getElem_cons (by omega)
      have hwin := hin _ (List.mem_of_getElem? hget)
      obtain ⟨q, e, hat⟩ := hr2.lds lw_len hget
      rw [hdrop]
      generalize W[j] = w at hat hwin
      have hw : IntKind.wrap .i64 ((j : Int) + 1) = ((j + 1 : Nat) : Int) := by rw [wrap_in _ (by omega) (by omega)]; omega
      rw [decide_eq_true (by omega), br_true, need_of (by simp [inRange]; omega), e, adr_some, hat _ (by simp), need_of (by rw [lw_len]; rfl), z65, tmp_put2 _ _ _ _ (by rw [lw_len, lw_len]) (lw_one _)]
      generalize hσ2 : σ.new (.own (lw w) 70) = σ2
      have hg2 : σ2.get σ.next = some (.own (lw w) 70) := by rw [← hσ2, get_new_same]
      have s2 : Same σ σ2 [] := by rw [← hσ2]; exact Same.new _ _ _
      have n2 : σ2.next = σ.next + 1 := by rw [← hσ2]; rfl
      have hasF : ∀ K : FuncId → List Value → List Value → Res, asF (.func (.func f) #[] caps.toArray) K = K f [] caps := fun K => by simp [asF]
      have hal : a < σ.next := by have := hs.1; omega
      have ha2' : σ2.get a = _ := (s2.2 a hal (by simp)).trans ha
      have hp2 := hP σ σ2 hp (s2.mono (by simp))
      rw [hasF, List.nil_append, List.singleton_append, hcall σ2 j hp2, bnd_some, asB_b, hw, ← e]
      unfold lay
      cases hk : kept j with
      | false =>
        rw [br_false, if_neg (by simp)]
        exact settle_loop L k f caps kept P ha1 ha2 hd ha0 hP hcall hW hin n (j + 1) σ2 S (by omega) (by omega) hS (hr1.same s2 (by simp)) (hr2.same s2 (by simp)) ha2' hp2 (hs.trans (s2.mono (by simp)))
      | true =>
        have hl1 : ∀ K : List Value → Res, σ2.lds σ.next 1 64 K = K (sc w.b) := fun K => by
          rw [lds_own K hg2 (by rw [lw_len]; omega)]
          congr 1
          unfold lw
          rw [List.drop_succ_cons, List.drop_zero, ← sc_len w.b, List.take_length]
        obtain ⟨q', σ3, e1, e2, hput, hr3, s3, n3⟩ := (hr1.same s2 (by simp)).put sc_len sc_one (i := w.at_.toNat) (by omega) w.b
        rw [br_true, if_pos rfl, ld_at ha2' (0 + 0) _ rfl, asSl_s, ld_at hg2 0 (.int .i64 w.at_) rfl, asI_i, hl1, need_of (by simp [inRange]; omega), e2, adr_some, need_of (by rw [sc_len]; rfl), hput _ (by simp)]
        rw [← e2]
        have ha3 : σ3.get a = _ := (s3.2 a (by omega) ha1).trans ha2'
        exact settle_loop L k f caps kept P ha1 ha2 hd ha0 hP hcall hW hin n (j + 1) σ3 _ (by omega) (by omega) (by simpa using hS) hr3 ((hr2.same s2 (by simp)).same s3 (fun q hq hq' => hd q hq' hq)) ha3 (hP σ2 σ3 hp2 s3) ((hs.trans (s2.mono (by simp))).trans s3)

theorem settle_spec (L k f : Nat) (caps : List Value) (kept : Nat → Bool) (P : St → Prop) {σ : St} {a : Nat} {F : List Nat} {S : List Sec} {W : List Lw} (h : Disk σ a F S W) (hL : W.length < L)
    (hP : ∀ σ1 σ', P σ1 → σ.next ≤ σ1.next → Same σ1 σ' F → P σ') (hp : P σ) (hcall : ∀ (σ : St) (j : Nat), P σ → evCall Tryd.prog env L k f (.int .i64 j :: caps) σ = some (.bool (kept j), σ)) (hW : W.length ≤ 100000) (hin : InR S.length W) :
    ∃ F' σ', evCall Tryd.prog env L (k + 1) 28 [ptr a, .func (.func f) #[] caps.toArray] σ = some (.tuple #[], σ') ∧ Disk σ' a F' (lay kept 0 S W) [] ∧ Turn σ σ' F F' ∧ (∀ q ∈ F', q ∈ F) := by
  obtain ⟨q1, q2, ad1, z1, ad2, z2, rfl, ha, hr1, hr2, ha1, ha2, hd⟩ := h.ex
  have hlt := h.lt
  rw [f28_eq, ld_at ha 1 _ rfl, asSl_s]
  obtain ⟨σ9, g9, hr9, ha9, s9⟩ := settle_loop L k f caps kept (fun σ' => P σ' ∧ σ.next ≤ σ'.next) ha1 ha2 hd (hlt a (by simp)) (fun σ1 σ2 h1 h2 => ⟨hP σ1 σ2 h1.1 h1.2 (h2.mono (fun x hx => by simp [hx])), by have := h2.1; omega⟩) (fun σ j hp => hcall σ j hp.1) hW hin L 0 σ S (by omega) (by omega) rfl hr1 hr2 ha ⟨hp, Nat.le_refl _⟩ (Same.refl _ _)
  have hn := s9.1
  rw [List.drop_zero] at hr9
  refine ⟨a :: q1, σ9, g9, ⟨⟨q1, [], ad1, z1, none, 0, by simp, by rw [ha9, lay_len]; rfl, hr9, Row.nil _ _ _ _, ha1, by simp, by simp⟩, fun q hq => ?_⟩, ⟨s9.mono (fun x hx => ?_), fun q hq => ⟨.inl ?_, ?_⟩⟩, fun q hq => ?_⟩
  · rcases List.mem_cons.1 hq with rfl | hq
    · have := hlt q (by simp); omega
    · have := hlt q (by simp [hq]); omega
  · rcases List.mem_cons.1 hx with rfl | hx
    · simp
    · simp [hx]
  · rcases List.mem_cons.1 hq with rfl | hq
    · simp
    · simp [hq]
  · rcases List.mem_cons.1 hq with rfl | hq
    · have := hlt q (by simp); omega
    · have := hlt q (by simp [hq]); omega
  · rcases List.mem_cons.1 hq with rfl | hq
    · simp
    · simp [hq]

theorem flush_spec (L k : Nat) {σ : St} {a : Nat} {F : List Nat} {S : List Sec} {W : List Lw} (h : Disk σ a F S W) (hL : W.length < L) (hW : W.length ≤ 100000) (hin : InR S.length W) :
    ∃ F' σ', evCall Tryd.prog env L (k + 3) 12 [ptr a] σ = some (.tuple #[], σ') ∧ Disk σ' a F' (lay (fun _ => true) 0 S W) [] ∧ Turn σ σ' F F' := by
  obtain ⟨F', σ', g, h1, h2, _⟩ := settle_spec L (k + 1) 29 [] (fun _ => true) (fun _ => True) h hL (fun _ _ _ _ _ => trivial) trivial (fun σ j _ => by rw [f29_eq]) hW hin
  refine ⟨F', σ', ?_, h1, h2⟩
  rw [f12_eq, g, bnd_some, asT_t, toList0, endl_n]

/-- Which writes a crash keeps. -/
def bit (keep : Int) (j : Nat) : Bool := ibit BinOp.and IntKind.u64 (Int.fdiv keep (2 ^ (min (Int.toNat (Int.tmod (j : Int) 64)) 64))) 1 == 1
theorem crash_spec (L k : Nat) {σ : St} {a : Nat} {F : List Nat} {S : List Sec} {W : List Lw} (h : Disk σ a F S W) (hL : W.length < L) (hW : W.length ≤ 100000) (hin : InR S.length W) (keep : Int) :
    ∃ F' σ', evCall Tryd.prog env L (k + 3) 17 [ptr a, .int .u64 keep] σ = some (.tuple #[], σ') ∧ Disk σ' a F' (lay (bit keep) 0 S W) [] ∧ Turn σ σ' F F' := by
  rw [f17_eq]
  generalize hσ1 : σ.new (.own [.int .u64 keep] 28) = σ1
  have hg1 : σ1.get σ.next = some (.own [.int .u64 keep] 28) := by rw [← hσ1, get_new_same]
  have s1 : Same σ σ1 [] := by rw [← hσ1]; exact Same.new _ _ _
  have n1 : σ1.next = σ.next + 1 := by rw [← hσ1]; rfl
  have h1 := h.idle s1
  obtain ⟨F', σ', g, h2, h3, _⟩ := settle_spec L (k + 1) 32 [ptr σ.next] (bit keep) (fun σ' => σ'.get σ.next = some (.own [.int .u64 keep] 28)) h1 hL (fun σ1' σ2 hp hn hs => by rw [hs.2 _ (by omega) (fun hx => by have := h.lt _ hx; omega)]; exact hp) hg1 (fun σ' j hp => by
    rw [f32_eq, asP_p, adr_some, ld_own _ hp (v := .int .u64 keep) rfl, asI_i, need_of (by rw [show Int.tmod (j : Int) 64 = ((j % 64 : Nat) : Int) from rfl]; exact decide_eq_true (by omega))]; rfl) hW hin
  refine ⟨F', σ', ?_, h2, .before s1 h3 h.lt⟩
  rw [show (#[Value.pointer (some { block := σ.next, off := 0 })] : Array Value) = [ptr σ.next].toArray from rfl, g, bnd_some, asT_t, toList0, endl_n]

/-! A sector of one byte. -/
def fsec (c : UInt8) : Sec := ⟨List.replicate 64 c, List.length_replicate⟩
theorem full_loop (L k : Nat) {c : UInt8} {t : Nat} {σ0 : St} (ht : σ0.next ≤ t) : ∀ (n j : Nat) (σ : St) (l : List UInt8), j ≤ 64 → 64 - j < n → l.length = 64 → (∀ p, p < j → l[p]? = some c) → σ.get t = some (.own (by8 l) 5) → t < σ.next → Same σ0 σ [] →
    ∃ σ9, lpAt Tryd.prog env L k 14 [true, true, false, true] [] n [(0, .int .u8 (c.toNat : Int)), (3, .slice (some ⟨t, 0, none⟩) 64 1), (7, .int .i64 64), (8, .int .i64 j)] σ = some (.slice (some ⟨t, 0, none⟩) 64 1, σ9) ∧ σ9.get t = some (.own (sc (fsec c)) 5) ∧ t < σ9.next ∧ Same σ0 σ9 []
  | 0, j, σ, l, _, hn, _, _, _, _, _ => by omega
  | n + 1, j, σ, l, hj, hn, hl, hc, hg, htl, hs => by
    rw [f14_l3]
    by_cases hje : j = 64
    · rw [decide_eq_false (by omega), br_false]
      have hl64 : l = (fsec c).1 := List.ext_getElem? fun p => by
        by_cases hp : p < 64
        · rw [hc p (by omega)]; unfold fsec; rw [List.getElem?_replicate, if_pos hp]
        · rw [List.getElem?_eq_none (by omega), List.getElem?_eq_none (by rw [(fsec c).2]; omega)]
      rw [hl64] at hg
      exact ⟨σ, rfl, hg, htl, hs⟩
    · have hw : IntKind.wrap .i64 ((j : Int) + 1) = ((j + 1 : Nat) : Int) := by rw [wrap_in _ (by omega) (by omega)]; omega
      have hset : over (by8 l) (0 + (j : Int).toNat * 1) [.int .u8 (c.toNat : Int)] = by8 (l.set j c) := by
        unfold over by8
        rw [show 0 + (j : Int).toNat * 1 = j by simp, List.set_eq_take_append_cons_drop, if_pos (by omega)]
        simp [List.map_take, List.map_drop]
      rw [decide_eq_true (by omega), br_true, need_of (by simp [inRange]; omega), adr_some, put_own _ hg (by rw [by8_len]; simp; omega) rfl, hset, hw]
      have s3 := Same.set σ t (.own (by8 (l.set j c)) 5)
      refine full_loop L k ht n (j + 1) _ (l.set j c) (by omega) (by omega) (by simpa using hl) (fun p hp => ?_) (get_set_same _ _ _) htl (hs.fresh s3 (by simp; omega))
      rw [List.getElem?_set]
      by_cases hpj : j = p
      · rw [if_pos hpj, if_pos (by omega)]
      · rw [if_neg hpj]; exact hc p (by omega)
theorem full_spec (L k : Nat) (hL : 64 < L) (σ : St) (c : UInt8) : ∃ t σ', evCall Tryd.prog env L (k + 1) 14 [.int .u8 (c.toNat : Int)] σ = some (.slice (some ⟨t, 0, none⟩) 64 1, σ') ∧ σ'.get t = some (.own (sc (fsec c)) 5) ∧ σ.next ≤ t ∧ t < σ'.next ∧ Same σ σ' [] := by
  rw [f14_eq, zerosN_one, show List.replicate 64 (Value.int .u8 0) = by8 (List.replicate 64 0) by rw [by8, List.map_replicate]; rfl]
  obtain ⟨σ9, g9, h9, h9', s9⟩ := full_loop L k (c := c) (t := σ.next) (σ0 := σ) (Nat.le_refl _) L 0 (σ.new (.own (by8 (List.replicate 64 0)) 5)) (List.replicate 64 0) (by omega) (by omega) rfl (by omega) (get_new_same _ _) (by simp) (Same.new _ _ _)
  exact ⟨σ.next, σ9, g9, h9, Nat.le_refl _, h9', s9⟩

end Go.AM.Df
