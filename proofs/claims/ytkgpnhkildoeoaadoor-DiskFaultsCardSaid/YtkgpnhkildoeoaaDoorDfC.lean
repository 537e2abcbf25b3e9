/-
  DiskFaults: what isn't there has an error, with the disk's place, and one place in its path.
-/
import Derived.Test.YtkgpnhkildoeoaaDoorDfB
import Derived.Lib.ItoaLen
set_option linter.unusedVariables false
set_option linter.unusedSimpArgs false
set_option linter.unusedSectionVars false
namespace Go.AM.Df
open Go.Proofs

theorem itoa_prim (L k : Nat) (args : List Value) (σ : St) : evCall Tryd.prog env L (k + 1) 40 args σ = Td.itoaG args σ := rfl
theorem place_spec (L k : Nat) {σ : St} {q : Nat} {n : Int} {y : Value} (hg : σ.get q = some (.own [.string ⟨#[100, 105, 115, 107]⟩, .int .i64 n, y] 81)) (h0 : -9223372036854775808 ≤ n) (h1 : n ≤ 9223372036854775807) :
    ∃ t, evCall Tryd.prog env L (k + 2) 35 [.pointer (some ⟨q, 0, none⟩)] σ = some (.string t, σ) := by
  have hi : Td.itoaG [.int .i64 n] σ = some (.string ⟨(Lib.itoa n).toArray⟩, σ) := by simp only [Td.itoaG]; rw [if_pos ⟨h0, h1⟩]
  have hl := Lib.itoa_length_le n h0 h1
  rw [f35_eq, ld_own _ hg (v := .string ⟨#[100, 105, 115, 107]⟩) rfl, asS_s, need_of (by rfl), ld_own _ hg (v := .int .i64 n) rfl, asI_i, itoa_prim, hi, bnd_some, asS_s, ld_own _ hg (v := .string ⟨#[100, 105, 115, 107]⟩) rfl, asS_s, chk_same,
    need_of (decide_eq_true (by show 5 + (Lib.itoa n).length ≤ _; omega))]
  exact ⟨_, rfl⟩

def cs (s : ByteArray) : List Value := [.string s]
theorem path_spec (L k : Nat) (hL : 3 < L) {σ : St} {v : Value} {c a : Int} (h : Err σ v c a) (h0 : -9223372036854775808 ≤ a) (h1 : a ≤ 9223372036854775807) : ∃ ad z σ', evCall Tryd.prog env L (k + 3) 27 [v] σ = some (.slice ad 1 z, σ') ∧ Same σ σ' [] := by
  obtain ⟨m, rfl⟩ : ∃ m, L = m + 4 := ⟨L - 4, by omega⟩
  obtain ⟨q, rfl, hg, hq⟩ := h
  rw [f27_eq, f34_eq, f34_l3, as_prim]
  generalize hσ1 : σ.new (Blk.own [Value.pointer none] 79) = σ1
  have hs1 : Same σ σ1 [] := by rw [← hσ1]; exact Same.new _ _ _
  have hn1 : σ1.next = σ.next + 1 := by rw [← hσ1]; rfl
  have ht1 : σ1.get σ.next = some (Blk.own [Value.pointer none] 79) := by rw [← hσ1, get_new_same]
  have h : Td.asG [.iface 79 (.pointer (some ⟨q, 0, none⟩)), .iface 95 (.pointer (some ⟨σ.next, 0, none⟩))] σ1 = some (.bool true, σ1.set σ.next (.own [.pointer (some ⟨q, 0, none⟩)] 79)) := by
    simp only [Td.asG, ht1]
    rw [if_pos (by simp), if_pos (by simp)]
    exact put_own _ ht1 (by simp) rfl
  rw [h, bnd_some, asB_b, br_true, asP_p, adr_some]
  generalize hσ2 : σ1.set σ.next (.own [.pointer (some ⟨q, 0, none⟩)] 79) = σ2
  have hs2 : Same σ σ2 [] := by rw [← hσ2]; exact ⟨by simp; omega, fun k hk _ => by rw [get_set (by omega), hs1.2 k hk (by simp)]⟩
  have hn2 : σ2.next = σ.next + 1 := by rw [← hσ2]; simpa using hn1
  have ht2 : σ2.get σ.next = some (.own [.pointer (some ⟨q, 0, none⟩)] 79) := by rw [← hσ2, get_set_same]
  rw [ld_own _ ht2 (v := .pointer (some ⟨q, 0, none⟩)) rfl, asP_p, show (!(some (⟨q, 0, none⟩ : Addr)).isNone) = true from rfl, br_true, asP_p, adr_some, ld_own _ ht2 (v := .pointer (some ⟨q, 0, none⟩)) rfl, asP_p]
  generalize hσ3 : σ2.new (Blk.own [Value.pointer (some ⟨q, 0, none⟩)] 79) = σ3
  have hs3 : Same σ2 σ3 [] := by rw [← hσ3]; exact Same.new _ _ _
  have ht3 : σ3.get σ2.next = some (Blk.own [Value.pointer (some ⟨q, 0, none⟩)] 79) := by rw [← hσ3, get_new_same]
  rw [row_one ht3]
  obtain ⟨ad, z, qs, σ4, hgrow, hrow, hs4, hq4⟩ := grow_row (by_ := 8) (Row.nil cp 1 79 σ3) (fun _ => rfl) (fun _ => rfl) (by omega) [q] [Value.pointer (some ⟨q, 0, none⟩)] rfl 1 rfl (by unfold roomTop; simp) (by unfold sizeTop; simp)
  have hgrow' : ∀ K : Option Addr → Nat → Nat → St → Res, grow 79 1 8 none 0 0 1 [Value.pointer (some ⟨q, 0, none⟩)] σ3 K = K ad 1 z σ4 := hgrow
  have hs24 : Same σ2 σ4 [] := hs3.trans hs4
  have hs04 : Same σ σ4 [] := hs2.trans hs24
  have ht4 : σ4.get σ.next = some (.own [.pointer (some ⟨q, 0, none⟩)] 79) := by rw [hs24.2 _ (by omega) (by simp)]; exact ht2
  have hg4 : σ4.get q = some (.own [.string ⟨#[100, 105, 115, 107]⟩, .int .i64 a, .iface 43 (.int .i64 c)] 81) := by rw [hs04.2 q hq (by simp)]; exact hg
  rw [hgrow', asP_p, adr_some, ld_own _ ht4 (v := .pointer (some ⟨q, 0, none⟩)) rfl, asP_p, adr_some, ld_own _ hg4 (v := .iface 43 (.int .i64 c)) rfl, f34_l3, as_prim]
  have h5 : Td.asG [.iface 43 (.int .i64 c), .iface 95 (.pointer (some ⟨σ.next, 0, none⟩))] σ4 = some (.bool false, σ4) := by
    simp only [Td.asG, ht4]
    rw [if_pos (by simp), if_neg (by simp), if_pos (by simp)]
  obtain ⟨q9, e9, hat⟩ := hrow.at (fun _ => rfl) (i := 0) (a := q) rfl
  obtain ⟨t, gp⟩ := place_spec (m + 4) k hg4 h0 h1
  rw [h5, bnd_some, asB_b, br_false, bnd_some, asSl_s, f27_l3, decide_eq_true (by omega), br_true, need_of (by simp [inRange]), e9, adr_some, hat 0 (.pointer (some ⟨q, 0, none⟩)) _ (by omega) rfl (by simp), asP_p, gp, bnd_some, asS_s, row_one (get_new_same _ _)]
  obtain ⟨ad', z', qs', σ5, hgrow5, hrow5, hs5, hq5⟩ := grow_row (by_ := 16) (Row.nil cs 1 9 (σ4.new (.own [.string t] 9))) (fun _ => rfl) (fun _ => rfl) (by omega) [t] [Value.string t] rfl 1 rfl (by unfold roomTop; simp) (by unfold sizeTop; simp)
  have hgrow5' : ∀ K : Option Addr → Nat → Nat → St → Res, grow 9 1 16 none 0 0 1 [Value.string t] (σ4.new (.own [.string t] 9)) K = K ad' 1 z' σ5 := hgrow5
  rw [hgrow5', f27_l3, show IntKind.wrap .i64 ((0 : Int) + 1) = 1 from rfl, decide_eq_false (by omega), br_false]
  exact ⟨ad', z', σ5, rfl, (hs04.trans (Same.new _ _ _)).trans hs5⟩

def wdisk : ByteArray := ⟨#[100, 105, 115, 107]⟩
/-- What is asked of the read's error. -/
noncomputable def askF (L k : Nat) (i : Int) (e f : Value) (σ : St) : Res :=
  bnd (evCall Tryd.prog env L k 26 [f, .string ⟨#[100, 105, 115, 107]⟩] σ) fun v45 v46 => asT v45 fun v47 => uncons v47 fun v48 v49 => asI .i64 v48 fun v50 => uncons v49 fun v51 v52 => asB v51 fun v53 => endl v52 (eqNil f fun v54 =>
  br v54 (some (Value.bool true, v46)) (br v53 (br (v50 == i) (bnd (evCall Tryd.prog env L k 19 [f] v46) fun v55 v56 => asI .i64 v55 fun v57 =>
  br (v57 == (5 : Int)) (bnd (evCall Tryd.prog env L k 19 [e] v56) fun v58 v59 => asI .i64 v58 fun v60 => some (Value.bool (v60 == (5 : Int)), v59)) (some (Value.bool false, v56))) (some (Value.bool false, v46))) (some (Value.bool false, v46))))
/-- What is asked of both. -/
noncomputable def askE (L k : Nat) (i : Int) (e f : Value) (σ : St) : Res :=
  bnd (evCall Tryd.prog env L k 26 [e, .string ⟨#[100, 105, 115, 107]⟩] σ) fun v30 v31 => asT v30 fun v32 => uncons v32 fun v33 v34 => asI .i64 v33 fun v35 => uncons v34 fun v36 v37 => asB v36 fun v38 => endl v37 (eqNil e fun v39 =>
  br (!v39) (br (!v38) (some (Value.bool false, v31)) (br (v35 != i) (some (Value.bool false, v31)) (bnd (evCall Tryd.prog env L k 27 [e] v31) fun v40 v41 => asSl v40 fun v42 v43 v44 =>
  br (((v43 : Nat) : Int) != (1 : Int)) (some (Value.bool false, v41)) (askF L k i e f v41)))) (askF L k i e f v31))

theorem askF_ok (L k : Nat) (hL : 3 < L) (i : Int) {e f : Value} {σ : St} (h : f = .nilIface ∨ (Err σ f 5 i ∧ Err σ e 5 i)) : ∃ σ', askF L (k + 3) i e f σ = some (.bool true, σ') := by
  unfold askF
  rcases h with rfl | ⟨hf, he⟩
  · obtain ⟨σ1, g1, s1⟩ := first_nil L k hL σ ⟨#[100, 105, 115, 107]⟩
    rw [g1, bnd_some, asT_t, toList2, uncons_c, asI_i, uncons_c, asB_b, endl_n, show ∀ K : Bool → Res, eqNil .nilIface K = K true from fun _ => rfl, br_true]
    exact ⟨σ1, rfl⟩
  · obtain ⟨σ1, g1, s1⟩ := first_spec L k hL hf
    obtain ⟨σ2, g2, s2⟩ := code_spec L (k + 1) (hf.same s1)
    obtain ⟨σ3, g3, s3⟩ := code_spec L (k + 1) ((he.same s1).same s2)
    rw [g1, bnd_some, asT_t, toList2, uncons_c, asI_i, uncons_c, asB_b, endl_n, hf.nil, br_false, br_true, beq_self_eq_true, br_true, g2, bnd_some, asI_i, beq_self_eq_true, br_true, g3, bnd_some, asI_i, beq_self_eq_true]
    exact ⟨σ3, rfl⟩
theorem askE_ok (L k : Nat) (hL : 3 < L) (i : Int) (h0 : -9223372036854775808 ≤ i) (h1 : i ≤ 9223372036854775807) {e f : Value} {σ : St} (h : (e = .nilIface ∧ f = .nilIface) ∨ (∃ c, Err σ e c i ∧ (f = .nilIface ∨ (Err σ f 5 i ∧ c = 5)))) : ∃ σ', askE L (k + 3) i e f σ = some (.bool true, σ') := by
  unfold askE
  rcases h with ⟨rfl, rfl⟩ | ⟨c, he, hf⟩
  · obtain ⟨σ1, g1, s1⟩ := first_nil L k hL σ ⟨#[100, 105, 115, 107]⟩
    obtain ⟨σ2, g2⟩ := askF_ok L k hL i (e := .nilIface) (f := .nilIface) (σ := σ1) (.inl rfl)
    rw [g1, bnd_some, asT_t, toList2, uncons_c, asI_i, uncons_c, asB_b, endl_n, show ∀ K : Bool → Res, eqNil .nilIface K = K true from fun _ => rfl, not_true, br_false]
    exact ⟨σ2, g2⟩
  · obtain ⟨σ1, g1, s1⟩ := first_spec L k hL he
    obtain ⟨ad, z, σ2, g2, s2⟩ := path_spec L k hL (he.same s1) h0 h1
    have he2 := (he.same s1).same s2
    obtain ⟨σ3, g3⟩ := askF_ok L k hL i (e := e) (f := f) (σ := σ2) (by
      rcases hf with rfl | ⟨hf, rfl⟩
      · exact .inl rfl
      · exact .inr ⟨(hf.same s1).same s2, he2⟩)
    rw [g1, bnd_some, asT_t, toList2, uncons_c, asI_i, uncons_c, asB_b, endl_n, he.nil, not_false, br_true, not_true, br_false, show (i != i) = false by simp, br_false, g2, bnd_some, asSl_s, show ((((1 : Nat) : Int)) != (1 : Int)) = false from rfl, br_false]
    exact ⟨σ3, g3⟩
end Go.AM.Df
