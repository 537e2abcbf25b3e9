/-
  FAULT's ERRORS: a chain of faults around a number; what the code answers of it.
-/
import Derived.Test.YtiiophkfecpbfaaDoorAm13g
import Derived.Test.YtiiophkfecpbfaaDoorEqFw
import Derived.Lib.ItoaLen
set_option linter.unusedVariables false
set_option linter.unusedSimpArgs false
set_option linter.unusedSectionVars false
namespace Go.AM.Fw
open Go.Proofs

def words13 : List ByteArray := [⟨#[111, 107]⟩, ⟨#[97, 114, 103]⟩, ⟨#[115, 104, 111, 114, 116]⟩, ⟨#[116, 97, 105, 108]⟩, ⟨#[115, 117, 109]⟩, ⟨#[114, 97, 110, 103, 101]⟩, ⟨#[102, 117, 108, 108]⟩, ⟨#[98, 117, 115, 121]⟩, ⟨#[110, 111, 110, 101]⟩, ⟨#[115, 116, 97, 116, 101]⟩, ⟨#[115, 116, 97, 108, 101]⟩, ⟨#[100, 111, 119, 110]⟩, ⟨#[103, 111, 110, 101]⟩]
/-- A number's word. -/
def word (c : Int) : ByteArray := if 0 ≤ c ∧ c < 13 then (words13[c.toNat]?).getD ⟨#[63]⟩ else ⟨#[63]⟩
theorem word_get {c : Int} (h0 : 0 ≤ c) (h1 : c < 13) : (words13.map Value.string)[0 + c.toNat * 1]? = some (.string (word c)) := by
  have h : c = 0 ∨ c = 1 ∨ c = 2 ∨ c = 3 ∨ c = 4 ∨ c = 5 ∨ c = 6 ∨ c = 7 ∨ c = 8 ∨ c = 9 ∨ c = 10 ∨ c = 11 ∨ c = 12 := by omega
  rcases h with rfl | rfl | rfl | rfl | rfl | rfl | rfl | rfl | rfl | rfl | rfl | rfl | rfl <;> rfl

theorem word10_spec (L k : Nat) (σ : St) (c : Int) : ∃ σ', evCall Tryd.prog env L (k + 1) 10 [.int .i64 c] σ = some (.string (word c), σ') ∧ Same σ σ' [] := by
  refine ⟨σ.new (.own (words13.map Value.string) 59), ?_, Same.new _ _ _⟩
  rw [f10_eq, tmp_put2]
  case hn => rfl
  case h1 => rfl
  by_cases h0 : c < 0
  · rw [decide_eq_true h0, br_true, word, if_neg (by omega)]; rfl
  rw [decide_eq_false h0, br_false]
  by_cases h1 : c ≥ 13
  · rw [decide_eq_true h1, br_true, word, if_neg (by omega)]; rfl
  rw [decide_eq_false h1, br_false, need_of (by simp [inRange]; omega)]
  exact (ld_own (vs := words13.map Value.string) (e := 59) (v := .string (word c)) _ (get_new_same _ _) (word_get (by omega) (by omega))).trans rfl

/-- A number with places around it, the outermost one first. -/
inductive Ch (σ : St) : Value → Int → List (ByteArray × Int) → Prop
  | num (c : Int) : c ≠ 0 → Ch σ (.iface 23 (.int .i64 c)) c []
  | flt (q : Nat) (s : ByteArray) (n : Int) (y : Value) (c : Int) (l : List (ByteArray × Int)) : σ.get q = some (.own [.string s, .int .i64 n, y] 32) → q < σ.next → Ch σ y c l → Ch σ (.iface 30 (.pointer (some ⟨q, 0, none⟩))) c ((s, n) :: l)

theorem Ch.same {σ σ' : St} {v : Value} {c : Int} {l : List (ByteArray × Int)} (h : Ch σ v c l) (hs : Same σ σ' []) : Ch σ' v c l := by
  induction h with
  | num c hc => exact .num c hc
  | flt q s n y c l hg hq _ ih => exact .flt q s n y c l (by rw [hs.2 q hq (by simp)]; exact hg) (by have := hs.1; omega) ih
theorem Ch.iface {σ : St} {v : Value} {c : Int} {l : List (ByteArray × Int)} (h : Ch σ v c l) : ∃ T x, v = .iface T x := by cases h <;> exact ⟨_, _, rfl⟩
theorem Ch.nz {σ : St} {v : Value} {c : Int} {l : List (ByteArray × Int)} (h : Ch σ v c l) : c ≠ 0 := by
  induction h with
  | num c hc => exact hc
  | flt q s n y c l hg hq _ ih => exact ih
theorem Ch.nil {σ : St} {v : Value} {c : Int} {l : List (ByteArray × Int)} (h : Ch σ v c l) {α : Type} (K : Bool → Option α) : eqNil v K = K false := by
  obtain ⟨T, x, rfl⟩ := h.iface
  rfl
theorem Ch.one {σ : St} {v : Value} {c : Int} {l : List (ByteArray × Int)} (h : Ch σ v c l) : oneCell v = true := by cases h <;> rfl
theorem Ch.chE {σ : St} {v : Value} {c : Int} {l : List (ByteArray × Int)} (h : Ch σ v c l) : ∀ n, l.length ≤ n → Td.chE σ n v = some (some c) := by
  induction h with
  | num c hc => intro n _; cases n <;> rfl
  | flt q s n y c l hg hq hy ih =>
    intro m hm
    cases m with
    | zero => simp at hm
    | succ m =>
      show σ.ld q (0 + 2) (fun y => match y with | .nilIface => some none | _ => Td.chE σ m y) = _
      have hx := ih m (by simpa using hm)
      obtain ⟨T, x, rfl⟩ := hy.iface
      unfold St.ld St.cell St.cells
      rw [hg]
      exact hx

theorem wrap_spec (L k : Nat) {σ : St} {v : Value} {c : Int} {l : List (ByteArray × Int)} (h : Ch σ v c l) (s : ByteArray) (n : Int) :
    evCall Tryd.prog env L (k + 1) 12 [.string s, .int .i64 n, v] σ = some (.iface 30 (.pointer (some ⟨σ.next, 0, none⟩)), σ.new (.own [.string s, .int .i64 n, v] 32)) ∧
      Ch (σ.new (.own [.string s, .int .i64 n, v] 32)) (.iface 30 (.pointer (some ⟨σ.next, 0, none⟩))) c ((s, n) :: l) ∧ Same σ (σ.new (.own [.string s, .int .i64 n, v] 32)) [] := by
  refine ⟨?_, .flt _ _ _ _ _ _ (get_new_same _ _) (by simp) (h.same (Same.new _ _ _)), Same.new _ _ _⟩
  rw [f12_eq, h.nil, br_false, h.one]
  cases h with
  | num c hc =>
    have hb : (c == 0) = false := by simpa using hc
    simp [eqErr, hb, oneCell]
  | flt q s n y c l hg hq hy => rfl

theorem as_prim (L k : Nat) (args : List Value) (σ : St) : evCall Tryd.prog env L (k + 1) 20 args σ = Td.asG args σ := rfl
theorem is_prim (L k : Nat) (args : List Value) (σ : St) : evCall Tryd.prog env L (k + 1) 21 args σ = Td.isG args σ := rfl
theorem itoa_prim (L k : Nat) (args : List Value) (σ : St) : evCall Tryd.prog env L (k + 1) 37 args σ = Td.itoaG args σ := rfl

/-- errors.As, for a number. -/
theorem as_num (L k : Nat) {σ : St} {v : Value} {c : Int} {l : List (ByteArray × Int)} (h : Ch σ v c l) (hl : l.length ≤ 64) {t : Nat} {old : Value} (ht : σ.get t = some (.own [old] 23)) :
    evCall Tryd.prog env L (k + 1) 20 [v, .iface 42 (.pointer (some ⟨t, 0, none⟩))] σ = some (.bool true, σ.set t (.own [.int .i64 c] 23)) := by
  have hc := h.chE 64 hl
  obtain ⟨T, x, rfl⟩ := h.iface
  rw [as_prim]
  simp only [Td.asG, ht]
  rw [if_pos (by simp), if_neg (by simp), if_neg (by simp), if_neg (by simp), if_pos trivial, hc]
  exact put_own _ ht (by simp) rfl

theorem code_spec (L k : Nat) {σ : St} {v : Value} {c : Int} {l : List (ByteArray × Int)} (h : Ch σ v c l) (hl : l.length ≤ 64) : ∃ σ', evCall Tryd.prog env L (k + 2) 17 [v] σ = some (.int .i64 c, σ') ∧ Same σ σ' [] := by
  rw [f17_eq, as_num L k (h.same (Same.new _ (Blk.own [Value.int .i64 0] 23) _)) hl (get_new_same _ _), bnd_some, asB_b, not_true, br_false, ld_own _ (get_set_same _ _ _) (v := .int .i64 c) rfl, asI_i]
  refine ⟨_, rfl, ⟨by simp, fun k hk _ => ?_⟩⟩
  rw [get_set (by omega), get_new (by omega)]

theorem is_spec (L k : Nat) {σ : St} {v : Value} {c : Int} {l : List (ByteArray × Int)} (h : Ch σ v c l) (hl : l.length ≤ 64) (d : Int) : evCall Tryd.prog env L (k + 1) 21 [v, .iface 23 (.int .i64 d)] σ = some (.bool (c == d), σ) := by
  have hc := h.chE 64 hl
  obtain ⟨T, x, rfl⟩ := h.iface
  rw [is_prim]
  simp only [Td.isG, hc]
  congr 3

def dg (n : Int) : ByteArray := ⟨(Lib.itoa n).toArray⟩
theorem place_spec (L k : Nat) {σ : St} {q : Nat} {s : ByteArray} {n : Int} {y : Value} (hg : σ.get q = some (.own [.string s, .int .i64 n, y] 32)) (hn : -9223372036854775808 ≤ n ∧ n ≤ 9223372036854775807) (hs : s.size ≤ 100000) :
    evCall Tryd.prog env L (k + 2) 30 [.pointer (some ⟨q, 0, none⟩)] σ = some (.string ⟨⟨s.data.toList ++ [32] ++ (dg n).data.toList⟩⟩, σ) := by
  have hi : Td.itoaG [.int .i64 n] σ = some (.string (dg n), σ) := by simp only [Td.itoaG]; rw [if_pos hn]; rfl
  have hd : (dg n).size ≤ 21 := Lib.itoa_length_le n hn.1 hn.2
  have hss : s.data.toList.length ≤ 100000 := by rw [Array.length_toList]; exact hs
  rw [f30_eq, ld_own _ hg (v := .string s) rfl, asS_s, need_of (decide_eq_true (by omega)), ld_own _ hg (v := .int .i64 n) rfl, asI_i, itoa_prim, hi, bnd_some, asS_s, ld_own _ hg (v := .string s) rfl, asS_s, chk_same, need_of (decide_eq_true (by show (s.data.toList ++ [32]).length + (dg n).size ≤ _; rw [List.length_append]; simp only [List.length_cons, List.length_nil]; omega))]
  rfl

def textC : List (ByteArray × Int) → Int → List UInt8
  | [], c => (word c).data.toList
  | (s, n) :: l, c => s.data.toList ++ [32] ++ (dg n).data.toList ++ [58, 32] ++ textC l c

theorem dm30 : directM Tryd.prog 30 "Error" = some 14 := by kernel_rfl
theorem dm23 : directM Tryd.prog 23 "Error" = some 10 := by kernel_rfl

theorem err_spec (L : Nat) {σ : St} {v : Value} {c : Int} {l : List (ByteArray × Int)} (h : Ch σ v c l) (hl : ∀ p ∈ l, -9223372036854775808 ≤ p.2 ∧ p.2 ≤ 9223372036854775807) (hs : (textC l c).length ≤ 100000) (k : Nat) :
    ∃ σ', (∀ K : Value → St → Res, aMeth Tryd.prog v "Error" (fun f u => bnd (evCall Tryd.prog env L (k + l.length + 2) f [u] σ) K) = K (.string ⟨⟨textC l c⟩⟩) σ') ∧ Same σ σ' [] := by
  induction h with
  | num c hc =>
    obtain ⟨σ', g, s⟩ := word10_spec L (k + 1) σ c
    refine ⟨σ', fun K => ?_, s⟩
    simp only [aMeth, dm23]
    rw [show k + ([] : List (ByteArray × Int)).length + 2 = k + 1 + 1 from rfl, g, bnd_some]
    rfl
  | flt q s n y c l hg hq hy ih =>
    have hlen : (textC l c).length ≤ 100000 ∧ s.data.toList.length ≤ 100000 := by
      simp only [textC, List.length_append] at hs
      omega
    obtain ⟨σ', g, hs'⟩ := ih (fun p hp => hl p (List.mem_cons_of_mem _ hp)) hlen.1
    refine ⟨σ', fun K => ?_, hs'⟩
    have hd : (dg n).data.toList.length ≤ 21 := Lib.itoa_length_le n (hl (s, n) (by simp)).1 (hl (s, n) (by simp)).2
    simp only [aMeth, dm30]
    rw [show k + ((s, n) :: l).length + 2 = (k + l.length + 2) + 1 from by simp; omega, f14_eq, ld_own _ hg (v := y) rfl, hy.nil, br_false, place_spec L (k + l.length) hg (hl (s, n) (by simp)) (by show s.data.size ≤ _; rw [← Array.length_toList]; omega), bnd_some, asS_s,
      need_of (decide_eq_true (by show (s.data.toList ++ [32] ++ (dg n).data.toList).length + 2 ≤ _; simp only [List.length_append, List.length_cons, List.length_nil]; omega)), ld_own _ hg (v := y) rfl, ld_own _ hg (v := y) rfl, chk_same, g, asS_s,
      need_of (decide_eq_true (by show ((s.data.toList ++ [32] ++ (dg n).data.toList) ++ [58, 32]).length + (textC l c).length ≤ _; simp only [List.length_append, List.length_cons, List.length_nil]; omega)), bnd_some]
    rfl

theorem dg1 : dg 1 = ⟨#[49]⟩ := by
  have h : Lib.itoa 1 = [49] := by unfold Lib.itoa; rw [if_neg (by decide)]; exact Lib.decDigits_one (i := 1) (by decide)
  unfold dg; rw [h]
theorem dg3 : dg 3 = ⟨#[51]⟩ := by
  have h : Lib.itoa 3 = [51] := by unfold Lib.itoa; rw [if_neg (by decide)]; exact Lib.decDigits_one (i := 3) (by decide)
  unfold dg; rw [h]
theorem awake_text : textC [(⟨#[106, 111, 117, 114, 110, 97, 108]⟩, 1), (⟨#[100, 105, 115, 107]⟩, 3)] 6 = [106, 111, 117, 114, 110, 97, 108, 32, 49, 58, 32, 100, 105, 115, 107, 32, 51, 58, 32, 102, 117, 108, 108] := by
  simp only [textC, dg1, dg3]; rfl
theorem awake_spec (L k : Nat) (σ : St) : ∃ σ', evCall Tryd.prog env L (k + 6) 9 [] σ = some (.bool true, σ') ∧ Same σ σ' [] := by
  obtain ⟨g1, h1, s1⟩ := wrap_spec L (k + 4) (σ := σ) (.num 6 (by omega)) ⟨#[100, 105, 115, 107]⟩ 3
  obtain ⟨g2, h2, s2⟩ := wrap_spec L (k + 4) h1 ⟨#[106, 111, 117, 114, 110, 97, 108]⟩ 1
  obtain ⟨σ3, g3, s3⟩ := err_spec L h2 (by simp) (by rw [awake_text]; decide) (k + 1)
  obtain ⟨σ4, g4, s4⟩ := code_spec L (k + 3) (h2.same s3) (by simp)
  rw [f9_eq, g1, bnd_some, g2, bnd_some, h2.nil, not_false, br_true]
  have g3' := g3 (fun v8 v9 => asS v8 fun v10 =>
    br (ByteArray.toList v10 == ByteArray.toList ⟨#[106, 111, 117, 114, 110, 97, 108, 32, 49, 58, 32, 100, 105, 115, 107, 32, 51, 58, 32, 102, 117, 108, 108]⟩) (bnd (evCall Tryd.prog env L (k + 5) 17 [.iface 30 (.pointer (some ⟨(σ.new (.own [.string ⟨#[100, 105, 115, 107]⟩, .int .i64 3, .iface 23 (.int .i64 6)] 32)).next, 0, none⟩))] v9) fun v11 v12 => asI .i64 v11 fun v13 => some (Value.bool (v13 == (6 : Int)), v12)) (some (Value.bool false, v9)))
  refine ⟨σ4, g3'.trans ?_, ((s1.trans s2).trans s3).trans s4⟩
  rw [asS_s, awake_text, beq_self_eq_true, br_true, g4, bnd_some, asI_i]
  rfl

theorem err_nil (L k : Nat) (σ : St) : evCall Tryd.prog env L (k + 2) 14 [.pointer none] σ = bnd (evCall Tryd.prog env L (k + 1) 10 [.int .i64 0] σ) fun v σ' => asS v fun s => some (.string s, σ') := by kernel_rfl
theorem unw_nil (L k : Nat) (σ : St) : evCall Tryd.prog env L (k + 1) 15 [.pointer none] σ = some (.nilIface, σ) := by kernel_rfl
theorem first_nil (L k : Nat) (hL : 3 < L) (σ : St) (s : ByteArray) : ∃ σ', evCall Tryd.prog env L (k + 3) 13 [.nilIface, .string s] σ = some (.tuple #[.int .i64 0, .bool false], σ') ∧ Same σ σ' [] := by
  obtain ⟨m, rfl⟩ : ∃ m, L = m + 4 := ⟨L - 4, by omega⟩
  rw [f13_eq, f29_eq, f29_l3, as_prim]
  have h : ∀ s4 σ1, Td.asG [.nilIface, s4] σ1 = some (.bool false, σ1) := fun _ _ => rfl
  rw [h, bnd_some, asB_b, br_false, bnd_some, asSl_s, f13_l2, decide_eq_false (by omega), br_false]
  exact ⟨_, rfl, Same.new _ _ _⟩
theorem nn (K : Bool → Res) : eqNil .nilIface K = K true := rfl
theorem digits_prim (L k : Nat) (args : List Value) (σ : St) : evCall Tryd.prog env L (k + 1) 16 args σ = Td.itoaG args σ := rfl
theorem code_zero (L k : Nat) {σ : St} {q : Nat} {s : ByteArray} {n : Int} (hg : σ.get q = some (.own [.string s, .int .i64 n, .nilIface] 32)) (hq : q < σ.next) : ∃ σ', evCall Tryd.prog env L (k + 2) 17 [.iface 30 (.pointer (some ⟨q, 0, none⟩))] σ = some (.int .i64 0, σ') ∧ Same σ σ' [] := by
  have hg' : (σ.new (Blk.own [Value.int .i64 0] 23)).get q = some (.own [.string s, .int .i64 n, .nilIface] 32) := by rw [get_new (by omega)]; exact hg
  have hc : Td.chE (σ.new (Blk.own [Value.int .i64 0] 23)) 64 (.iface 30 (.pointer (some ⟨q, 0, none⟩))) = some none := by
    show (σ.new (Blk.own [Value.int .i64 0] 23)).ld q (0 + 2) (fun y => match y with | .nilIface => some none | _ => Td.chE (σ.new (Blk.own [Value.int .i64 0] 23)) 63 y) = _
    unfold St.ld St.cell St.cells
    rw [hg']
    rfl
  have ha : Td.asG [.iface 30 (.pointer (some ⟨q, 0, none⟩)), .iface 42 (.pointer (some ⟨σ.next, 0, none⟩))] (σ.new (Blk.own [Value.int .i64 0] 23)) = some (.bool false, σ.new (Blk.own [Value.int .i64 0] 23)) := by
    simp only [Td.asG, get_new_same]
    rw [if_pos (by simp), if_neg (by simp), if_neg (by simp), if_neg (by simp), if_pos trivial, hc]
  rw [f17_eq, as_prim, ha, bnd_some, asB_b, not_false, br_true]
  exact ⟨_, rfl, Same.new _ _ _⟩
theorem code_nil (L k : Nat) (σ : St) : ∃ σ', evCall Tryd.prog env L (k + 2) 17 [.nilIface] σ = some (.int .i64 0, σ') ∧ Same σ σ' [] := by
  rw [f17_eq, as_prim]
  exact ⟨_, rfl, Same.new _ _ _⟩
theorem word11_spec (L k : Nat) (σ : St) (c : Int) : ∃ σ', evCall Tryd.prog env L (k + 1) 11 [.int .i64 c] σ = some (.string (word c), σ') ∧ Same σ σ' [] := by
  refine ⟨σ.new (.own (words13.map Value.string) 9), ?_, Same.new _ _ _⟩
  rw [f11_eq]
  by_cases h0 : c < 0
  · rw [decide_eq_true h0, br_true, word, if_neg (by omega)]; rfl
  rw [decide_eq_false h0, br_false]
  by_cases h1 : c ≥ 13
  · rw [decide_eq_true h1, br_true, word, if_neg (by omega)]; rfl
  rw [decide_eq_false h1, br_false, need_of (by simp [inRange]; omega)]
  exact (ld_own (vs := words13.map Value.string) (e := 9) (v := .string (word c)) _ (get_new_same _ _) (word_get (by omega) (by omega))).trans rfl

theorem fis_spec (L k : Nat) {σ : St} {v : Value} {c : Int} {l : List (ByteArray × Int)} (h : Ch σ v c l) (hl : l.length ≤ 64) (d : Int) : ∃ σ', evCall Tryd.prog env L (k + 3) 22 [v, .int .i64 d] σ = some (.bool (c == d), σ') ∧ Same σ σ' [] := by
  rw [f22_eq]
  by_cases hd : d = 0
  · subst hd
    obtain ⟨σ', g, s⟩ := code_spec L k h hl
    rw [beq_self_eq_true, br_true, g, bnd_some, asI_i]
    exact ⟨σ', rfl, s⟩
  · have hb : (d == 0) = false := by simpa using hd
    rw [hb, br_false, is_spec L (k + 1) h hl d, bnd_some, asB_b]
    exact ⟨σ, rfl, Same.refl _ _⟩

end Go.AM.Fw
