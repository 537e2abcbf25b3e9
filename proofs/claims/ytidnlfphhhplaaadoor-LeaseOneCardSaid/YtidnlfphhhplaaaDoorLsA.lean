/-
  THE LEASE's calls, and the document's, one by one.
-/
import Derived.Test.YtidnlfphhhplaaaDoorAm20
import Derived.Test.YtidnlfphhhplaaaDoorLsE
set_option linter.unusedVariables false
set_option linter.unusedSimpArgs false
set_option linter.unusedSectionVars false
namespace Go.AM.Ls
open Go.Proofs

/-- What a call answers: nil, or an error of a number and an epoch. -/
def Ans (σ : St) (v : Value) (c at_ : Int) : Prop := (c = 0 ∧ v = .nilIface) ∨ (c ≠ 0 ∧ Err σ v c at_)
theorem Ans.same {σ σ' : St} {v : Value} {c a : Int} {S : List Nat} (h : Ans σ v c a) (hs : Same σ σ' S) (hS : S = [] := by rfl) : Ans σ' v c a := h.imp id (fun h => ⟨h.1, h.2.same hs hS⟩)
theorem Ans.same' {σ σ' : St} {v : Value} {c a : Int} {S : List Nat} (h : Ans σ v c a) (hs : Same σ σ' S) (hS : ∀ x ∈ S, ∀ cs T, σ.get x ≠ some (.own ((.string ⟨#[108, 101, 97, 115, 101]⟩) :: cs) T)) : Ans σ' v c a := by
  rcases h with h | ⟨h1, q, e, g, l⟩
  · exact .inl h
  · exact .inr ⟨h1, q, e, by rw [hs.2 q l (fun hq => hS q hq _ _ g)]; exact g, by have := hs.1; omega⟩
theorem Ans.nil {σ : St} {v : Value} {c a : Int} (h : Ans σ v c a) {α : Type} (K : Bool → Option α) : eqNil v K = K (decide (c = 0)) := by
  rcases h with ⟨rfl, rfl⟩ | ⟨h1, h2⟩
  · rfl
  · rw [h2.nil, decide_eq_false h1]

theorem code_ans (L k : Nat) {σ : St} {v : Value} {c a : Int} (h : Ans σ v c a) : ∃ σ', evCall Tryd.prog env L (k + 2) 12 [v] σ = some (.int .i64 c, σ') ∧ Same σ σ' [] := by
  rcases h with ⟨rfl, rfl⟩ | ⟨h1, h2⟩
  · exact code_nil L k σ
  · exact code_spec L k h2

theorem place_spec (L k : Nat) (hL : 3 < L) {σ : St} {v : Value} {c a : Int} (h : Ans σ v c a) : ∃ σ', evCall Tryd.prog env L (k + 4) 17 [v, .int .i64 a, .int .i64 c] σ = some (.bool true, σ') ∧ Same σ σ' [] := by
  rw [f17_eq]
  rcases h with ⟨rfl, rfl⟩ | ⟨h1, h2⟩
  · obtain ⟨σ1, g1, s1⟩ := first_nil L k hL σ ⟨#[108, 101, 97, 115, 101]⟩
    obtain ⟨σ2, g2, s2⟩ := code_nil L (k + 1) σ1
    rw [g1, bnd_some, asT_t, toList2, uncons_c, asI_i, uncons_c, asB_b, endl_n, g2, bnd_some, asI_i]
    exact ⟨σ2, rfl, s1.trans s2⟩
  · obtain ⟨σ1, g1, s1⟩ := first_spec L k hL h2
    obtain ⟨σ2, g2, s2⟩ := code_spec L (k + 1) (h2.same s1)
    rw [g1, bnd_some, asT_t, toList2, uncons_c, asI_i, uncons_c, asB_b, endl_n, g2, bnd_some, asI_i, beq_self_eq_true, br_true, show (true == (c != 0)) = true by simpa using h1, br_true, not_true, br_false, beq_self_eq_true]
    exact ⟨σ2, rfl, s1.trans s2⟩

theorem toList3 (x y z : Value) : (#[x, y, z] : Array Value).toList = [x, y, z] := rfl

/-- A site, a fence: in numbers. -/
structure S where
  now : Int
  e : Int
  u : Int
structure Fe where
  now : Int
  e : Int
  since : Int
  till : Int
/-- A time as it counts. -/
def tm (n t : Int) : Int := mx n (mn t 1152921504606846976)
def S.at (s : S) (t : Int) : S := ⟨tm s.now t, s.e, s.u⟩
def Fe.at (f : Fe) (t : Int) : Fe := ⟨tm f.now t, f.e, f.since, f.till⟩
def S.grant (s : S) (ep t : Int) : Int × S := if ep < 1 then (1, s.at t) else if ep < s.e then (10, s.at t) else (0, ⟨tm s.now t, ep, IntKind.wrap .i64 (tm s.now t + 10)⟩)
def S.check (s : S) (ep t : Int) : Int := if s.e = 0 then 10 else if ep ≠ s.e then 10 else if tm s.now t ≥ s.u then 11 else 0
def Fe.renew (f : Fe) (ep t : Int) : Int × Fe := if f.e = 0 then (10, f.at t) else if ep ≠ f.e then (10, f.at t) else if tm f.now t < f.since then (9, f.at t) else (0, ⟨tm f.now t, f.e, f.since, IntKind.wrap .i64 (tm f.now t + 10)⟩)
def Fe.full (f : Fe) : Prop := f.e ≥ 1073741824
instance (f : Fe) : Decidable f.full := inferInstanceAs (Decidable (f.e ≥ 1073741824))
def Fe.next (f : Fe) (t : Int) : Fe := ⟨tm f.now t, f.e + 1, mx (tm f.now t) f.till, f.till⟩
def Fe.promote (f : Fe) (t : Int) : Fe := if f.full then f.at t else f.next t
def Fe.holds (f : Fe) (t : Int) : Int := if tm f.now t < f.since then 0 else f.e

def S.cells (s : S) : List Value := [.int .i64 s.now, .int .i64 s.e, .int .i64 s.u]
def S.rcells (s : S) : List Value := [.int .i64 s.e, .int .i64 s.u, .int .i64 s.now]
def Fe.cells (f : Fe) : List Value := [.int .i64 f.now, .int .i64 f.e, .int .i64 f.since, .int .i64 f.till]
def Fe.rcells (f : Fe) : List Value := [.int .i64 f.e, .int .i64 f.since, .int .i64 f.till, .int .i64 f.now]

/-- A block of some cells. -/
structure Has (σ : St) (a : Nat) (cs : List Value) (T : TypeId) : Prop where
  get : σ.get a = some (.own cs T)
  lt : a < σ.next
theorem Has.same {σ σ' : St} {a : Nat} {cs : List Value} {T : TypeId} {S : List Nat} (h : Has σ a cs T) (hs : Same σ σ' S) (hS : a ∉ S) : Has σ' a cs T :=
  ⟨by rw [hs.2 a h.lt hS]; exact h.get, by have := hs.1; have := h.lt; omega⟩
theorem Has.new (σ : St) (cs : List Value) (T : TypeId) : Has (σ.new (.own cs T)) σ.next cs T := ⟨get_new_same _ _, by simp⟩
theorem Has.set {σ : St} {a : Nat} {cs : List Value} {T : TypeId} (h : Has σ a cs T) (cs' : List Value) : Has (σ.set a (.own cs' T)) a cs' T := ⟨get_set_same _ _ _, by simpa using h.lt⟩

theorem Ans.past {σ σ' : St} {v : Value} {c a x : Int} {b : Nat} {cs : List Value} {T : TypeId} (h : Ans σ v c a) (hb : Has σ b (.int .i64 x :: cs) T) (hs : Same σ σ' [b]) : Ans σ' v c a :=
  h.same' hs (fun y hy cs' T' e => by
    obtain rfl : y = b := by simpa using hy
    rw [hb.get] at e
    cases e)

abbrev ptr (a : Nat) : Value := .pointer (some ⟨a, 0, none⟩)

theorem at_spec (L k : Nat) {σ : St} {a : Nat} {n : Int} {rest : List Value} {T : TypeId} (h : Has σ a (.int .i64 n :: rest) T) (t : Int) :
    ∃ σ', evCall Tryd.prog env L (k + 1) 24 [ptr a, .int .i64 t] σ = some (.int .i64 (tm n t), σ') ∧ Has σ' a (.int .i64 (tm n t) :: rest) T ∧ Same σ σ' [a] := by
  refine ⟨σ.set a (.own (.int .i64 (tm n t) :: rest) T), ?_, h.set _, Same.set _ _ _⟩
  rw [f24_eq, ld_at h.get 0 _ rfl, asI_i, put_int h.get 0 .i64 _ (by simp), ld_at (get_set_same _ _ _) 0 _ rfl, asI_i]
  rfl
theorem timeS_spec (L k : Nat) {σ : St} {a : Nat} {x y : Value} {n : Int} {T : TypeId} (h : Has σ a [x, y, .int .i64 n] T) (t : Int) :
    ∃ σ', evCall Tryd.prog env L (k + 1) 27 [ptr a, .int .i64 t] σ = some (.int .i64 (tm n t), σ') ∧ Has σ' a [x, y, .int .i64 (tm n t)] T ∧ Same σ σ' [a] := by
  refine ⟨σ.set a (.own [x, y, .int .i64 (tm n t)] T), ?_, h.set _, Same.set _ _ _⟩
  rw [f27_eq, ld_at h.get 2 _ rfl, asI_i, put_int h.get 2 .i64 _ (by simp), ld_at (get_set_same _ _ _) 2 (.int .i64 (tm n t)) rfl, asI_i]
  rfl
theorem timeF_spec (L k : Nat) {σ : St} {a : Nat} {x y z : Value} {n : Int} {T : TypeId} (h : Has σ a [x, y, z, .int .i64 n] T) (t : Int) :
    ∃ σ', evCall Tryd.prog env L (k + 1) 28 [ptr a, .int .i64 t] σ = some (.int .i64 (tm n t), σ') ∧ Has σ' a [x, y, z, .int .i64 (tm n t)] T ∧ Same σ σ' [a] := by
  refine ⟨σ.set a (.own [x, y, z, .int .i64 (tm n t)] T), ?_, h.set _, Same.set _ _ _⟩
  rw [f28_eq, ld_at h.get 3 _ rfl, asI_i, put_int h.get 3 .i64 _ (by simp), ld_at (get_set_same _ _ _) 3 (.int .i64 (tm n t)) rfl, asI_i]
  rfl

section
variable {σ : St} {a : Nat} {s : S} {f : Fe}
/-- An error that ends a call. -/
theorem fail (L k : Nat) {σ1 : St} {cs : List Value} {T : TypeId} (at_ c : Int) (hc : c ≠ 0) (h1 : Has σ1 a cs T) (hs : Same σ σ1 [a]) :
    ∃ v σ', (bnd (evCall Tryd.prog env L (k + 2) 23 [.int .i64 at_, .int .i64 c] σ1) fun v4 v5 => some (pack [v4], v5)) = some (v, σ') ∧ Ans σ' v c at_ ∧ Has σ' a cs T ∧ Same σ σ' [a] := by
  obtain ⟨v, σ2, g, he, h2⟩ := wrong_spec L k σ1 at_ c hc
  exact ⟨v, σ2, by rw [g]; rfl, .inr ⟨hc, he⟩, h1.same h2 (by simp), hs.trans (h2.mono (by simp))⟩

theorem grant_spec (h : Has σ a s.cells 28) (L k : Nat) (ep t : Int) :
    ∃ v σ', evCall Tryd.prog env L (k + 3) 10 [ptr a, .int .i64 ep, .int .i64 t] σ = some (v, σ') ∧ Ans σ' v (s.grant ep t).1 ep ∧ Has σ' a (s.grant ep t).2.cells 28 ∧ Same σ σ' [a] := by
  obtain ⟨σ1, g1, h1, s1⟩ := at_spec L (k + 1) h t
  rw [f10_eq, g1, bnd_some, asI_i]
  unfold S.grant
  by_cases c1 : ep < 1
  · rw [decide_eq_true c1, br_true, if_pos c1]
    exact fail L k ep 1 (by decide) h1 s1
  · rw [decide_eq_false c1, br_false, if_neg c1, ld_at h1.get 1 _ rfl, asI_i]
    by_cases c2 : ep < s.e
    · rw [decide_eq_true c2, br_true, if_pos c2]
      exact fail L k ep 10 (by decide) h1 s1
    · rw [decide_eq_false c2, br_false, if_neg c2, put_int h1.get 1 .i64 _ (by simp), put_int (get_set_same _ _ _) 2 .i64 _ (by simp)]
      exact ⟨_, _, rfl, .inl ⟨rfl, rfl⟩, ⟨get_set_same _ _ _, by simpa using h1.lt⟩, s1.trans ((Same.set _ _ _).trans (Same.set _ _ _))⟩

theorem check_spec (h : Has σ a s.cells 28) (L k : Nat) (ep t : Int) :
    ∃ v σ', evCall Tryd.prog env L (k + 3) 11 [ptr a, .int .i64 ep, .int .i64 t] σ = some (v, σ') ∧ Ans σ' v (s.check ep t) ep ∧ Has σ' a (s.at t).cells 28 ∧ Same σ σ' [a] := by
  obtain ⟨σ1, g1, h1, s1⟩ := at_spec L (k + 1) h t
  rw [f11_eq, g1, bnd_some, asI_i, ld_at h1.get 1 _ rfl, asI_i]
  unfold S.check
  by_cases c1 : s.e = 0
  · rw [show (s.e == 0) = true by simpa using c1, br_true, if_pos c1]
    exact fail L k ep 10 (by decide) h1 s1
  · rw [show (s.e == 0) = false by simpa using c1, br_false, if_neg c1, ld_at h1.get 1 _ rfl, asI_i]
    by_cases c2 : ep ≠ s.e
    · rw [show (ep != s.e) = true by simpa using c2, br_true, if_pos c2]
      exact fail L k ep 10 (by decide) h1 s1
    · rw [show (ep != s.e) = false by simpa using c2, br_false, if_neg c2, ld_at h1.get 2 _ rfl, asI_i]
      by_cases c3 : tm s.now t ≥ s.u
      · rw [decide_eq_true c3, br_true, if_pos c3]
        exact fail L k ep 11 (by decide) h1 s1
      · rw [decide_eq_false c3, br_false, if_neg c3]
        exact ⟨_, _, rfl, .inl ⟨rfl, rfl⟩, h1, s1⟩

theorem epoch_spec (h : Has σ a s.cells 28) (L k : Nat) : evCall Tryd.prog env L (k + 1) 13 [ptr a] σ = some (.tuple #[.int .i64 s.e, .int .i64 s.u], σ) := by
  rw [f13_eq, ld_at h.get 1 _ rfl, asI_i, ld_at h.get 2 _ rfl, asI_i]

theorem renew_spec (h : Has σ a f.cells 39) (L k : Nat) (ep t : Int) :
    ∃ v σ', evCall Tryd.prog env L (k + 3) 15 [ptr a, .int .i64 ep, .int .i64 t] σ = some (v, σ') ∧ Ans σ' v (f.renew ep t).1 ep ∧ Has σ' a (f.renew ep t).2.cells 39 ∧ Same σ σ' [a] := by
  obtain ⟨σ1, g1, h1, s1⟩ := at_spec L (k + 1) h t
  rw [f15_eq, g1, bnd_some, asI_i, ld_at h1.get 1 _ rfl, asI_i]
  unfold Fe.renew
  by_cases c1 : f.e = 0
  · rw [show (f.e == 0) = true by simpa using c1, br_true, if_pos c1]
    exact fail L k ep 10 (by decide) h1 s1
  · rw [show (f.e == 0) = false by simpa using c1, br_false, if_neg c1, ld_at h1.get 1 _ rfl, asI_i]
    by_cases c2 : ep ≠ f.e
    · rw [show (ep != f.e) = true by simpa using c2, br_true, if_pos c2]
      exact fail L k ep 10 (by decide) h1 s1
    · rw [show (ep != f.e) = false by simpa using c2, br_false, if_neg c2, ld_at h1.get 2 _ rfl, asI_i]
      by_cases c3 : tm f.now t < f.since
      · rw [decide_eq_true c3, br_true, if_pos c3]
        exact fail L k ep 9 (by decide) h1 s1
      · rw [decide_eq_false c3, br_false, if_neg c3, put_int h1.get 3 .i64 _ (by simp)]
        exact ⟨_, _, rfl, .inl ⟨rfl, rfl⟩, h1.set _, s1.trans (Same.set _ _ _)⟩

/-- A fence's epochs are few. -/
def Fe.Ok (f : Fe) : Prop := 0 ≤ f.e ∧ f.e ≤ 1073741824
theorem promote_spec (h : Has σ a f.cells 39) (hf : f.Ok) (L k : Nat) (t : Int) :
    ∃ v σ', evCall Tryd.prog env L (k + 3) 14 [ptr a, .int .i64 t] σ = some (.tuple #[.int .i64 (if f.full then 0 else f.e + 1), .int .i64 (if f.full then 0 else (f.next t).since), v], σ') ∧ Ans σ' v (if f.full then 6 else 0) f.e ∧ Has σ' a (f.promote t).cells 39 ∧ Same σ σ' [a] := by
  obtain ⟨σ1, g1, h1, s1⟩ := at_spec L (k + 1) h t
  rw [f14_eq, g1, bnd_some, asI_i, ld_at h1.get 1 _ rfl, asI_i]
  unfold Fe.promote
  obtain ⟨hf0, hf1⟩ := hf
  by_cases c1 : f.full
  · have c1' : f.e ≥ 1073741824 := c1
    obtain ⟨v, σ2, g, he, h2⟩ := wrong_spec L k σ1 f.e 6 (by decide)
    rw [decide_eq_true c1', br_true, if_pos c1, if_pos c1, if_pos c1, if_pos c1, ld_at h1.get 1 _ rfl, asI_i, g, bnd_some]
    exact ⟨v, σ2, rfl, .inr ⟨by decide, he⟩, h1.same h2 (by simp), s1.trans (h2.mono (by simp))⟩
  · have c1' : ¬ f.e ≥ 1073741824 := c1
    rw [decide_eq_false c1', br_false, if_neg c1, if_neg c1, if_neg c1, if_neg c1, ld_at h1.get 1 _ rfl, asI_i, put_int h1.get 1 .i64 _ (by simp), ld_at (get_set_same _ _ _) 3 _ rfl, asI_i, put_int (get_set_same _ _ _) 2 .i64 _ (by simp), ld_at (get_set_same _ _ _) 1 (.int .i64 (IntKind.wrap .i64 (f.e + 1))) rfl, asI_i, ld_at (get_set_same _ _ _) 2 (.int .i64 (mx (tm f.now t) f.till)) rfl, asI_i, wrap_in (f.e + 1) (by omega) (by omega)]
    exact ⟨_, _, rfl, .inl ⟨rfl, rfl⟩, ⟨get_set_same _ _ _, by simpa using h1.lt⟩, s1.trans ((Same.set _ _ _).trans (Same.set _ _ _))⟩

theorem holds_spec (h : Has σ a f.cells 39) (L k : Nat) (t : Int) :
    ∃ σ', evCall Tryd.prog env L (k + 2) 16 [ptr a, .int .i64 t] σ = some (.int .i64 (f.holds t), σ') ∧ Has σ' a (f.at t).cells 39 ∧ Same σ σ' [a] := by
  obtain ⟨σ1, g1, h1, s1⟩ := at_spec L k h t
  rw [f16_eq, g1, bnd_some, asI_i, ld_at h1.get 2 _ rfl, asI_i, ld_at h.get 2 _ rfl, asI_i, chk_same]
  unfold Fe.holds
  by_cases c1 : tm f.now t < f.since
  · rw [decide_eq_true c1, br_true, if_pos c1]
    exact ⟨σ1, rfl, h1, s1⟩
  · rw [decide_eq_false c1, br_false, if_neg c1, ld_at h1.get 1 _ rfl, asI_i]
    exact ⟨σ1, rfl, h1, s1⟩

/-! The document's. -/
theorem rgrant_spec (h : Has σ a s.rcells 55) (L k : Nat) (ep t : Int) :
    ∃ σ', evCall Tryd.prog env L (k + 3) 18 [ptr a, .int .i64 ep, .int .i64 t] σ = some (.int .i64 (s.grant ep t).1, σ') ∧ Has σ' a (s.grant ep t).2.rcells 55 ∧ Same σ σ' [a] := by
  obtain ⟨σ1, g1, h1, s1⟩ := timeS_spec L (k + 1) h t
  rw [f18_eq, g1, bnd_some, asI_i]
  unfold S.grant
  by_cases c1 : ep < 1
  · rw [decide_eq_true c1, br_true, if_pos c1]
    exact ⟨σ1, rfl, h1, s1⟩
  · rw [decide_eq_false c1, br_false, if_neg c1, ld_at h1.get 0 _ rfl, asI_i]
    by_cases c2 : ep < s.e
    · rw [decide_eq_true c2, br_true, if_pos c2]
      exact ⟨σ1, rfl, h1, s1⟩
    · rw [decide_eq_false c2, br_false, if_neg c2, put_int h1.get 0 .i64 _ (by simp), put_int (get_set_same _ _ _) 1 .i64 _ (by simp)]
      exact ⟨_, rfl, ⟨get_set_same _ _ _, by simpa using h1.lt⟩, s1.trans ((Same.set _ _ _).trans (Same.set _ _ _))⟩
theorem rcheck_spec (h : Has σ a s.rcells 55) (L k : Nat) (ep t : Int) :
    ∃ σ', evCall Tryd.prog env L (k + 3) 19 [ptr a, .int .i64 ep, .int .i64 t] σ = some (.int .i64 (s.check ep t), σ') ∧ Has σ' a (s.at t).rcells 55 ∧ Same σ σ' [a] := by
  obtain ⟨σ1, g1, h1, s1⟩ := timeS_spec L (k + 1) h t
  rw [f19_eq, g1, bnd_some, asI_i, ld_at h1.get 0 _ rfl, asI_i]
  unfold S.check
  by_cases c1 : s.e = 0
  · rw [show (s.e == 0) = true by simpa using c1, br_true, if_pos c1]
    exact ⟨σ1, rfl, h1, s1⟩
  · rw [show (s.e == 0) = false by simpa using c1, br_false, if_neg c1, ld_at h1.get 0 _ rfl, asI_i]
    by_cases c2 : ep ≠ s.e
    · rw [show (ep != s.e) = true by simpa using c2, br_true, if_pos c2]
      exact ⟨σ1, rfl, h1, s1⟩
    · rw [show (ep != s.e) = false by simpa using c2, br_false, if_neg c2, ld_at h1.get 1 _ rfl, asI_i]
      by_cases c3 : tm s.now t ≥ s.u
      · rw [decide_eq_true c3, br_true, if_pos c3]
        exact ⟨σ1, rfl, h1, s1⟩
      · rw [decide_eq_false c3, br_false, if_neg c3]
        exact ⟨σ1, rfl, h1, s1⟩
theorem rrenew_spec (h : Has σ a f.rcells 58) (L k : Nat) (ep t : Int) :
    ∃ σ', evCall Tryd.prog env L (k + 3) 21 [ptr a, .int .i64 ep, .int .i64 t] σ = some (.int .i64 (f.renew ep t).1, σ') ∧ Has σ' a (f.renew ep t).2.rcells 58 ∧ Same σ σ' [a] := by
  obtain ⟨σ1, g1, h1, s1⟩ := timeF_spec L (k + 1) h t
  rw [f21_eq, g1, bnd_some, asI_i, ld_at h1.get 0 _ rfl, asI_i]
  unfold Fe.renew
  by_cases c1 : f.e = 0
  · rw [show (f.e == 0) = true by simpa using c1, br_true, if_pos c1]
    exact ⟨σ1, rfl, h1, s1⟩
  · rw [show (f.e == 0) = false by simpa using c1, br_false, if_neg c1, ld_at h1.get 0 _ rfl, asI_i]
    by_cases c2 : ep ≠ f.e
    · rw [show (ep != f.e) = true by simpa using c2, br_true, if_pos c2]
      exact ⟨σ1, rfl, h1, s1⟩
    · rw [show (ep != f.e) = false by simpa using c2, br_false, if_neg c2, ld_at h1.get 1 _ rfl, asI_i]
      by_cases c3 : tm f.now t < f.since
      · rw [decide_eq_true c3, br_true, if_pos c3]
        exact ⟨σ1, rfl, h1, s1⟩
      · rw [decide_eq_false c3, br_false, if_neg c3, put_int h1.get 2 .i64 _ (by simp)]
        exact ⟨_, rfl, h1.set _, s1.trans (Same.set _ _ _)⟩
theorem rpromote_spec (h : Has σ a f.rcells 58) (hf : f.Ok) (L k : Nat) (t : Int) :
    ∃ σ', evCall Tryd.prog env L (k + 3) 20 [ptr a, .int .i64 t] σ = some (.tuple #[.int .i64 (if f.full then 0 else f.e + 1), .int .i64 (if f.full then 0 else (f.next t).since), .int .i64 (if f.full then 6 else 0)], σ') ∧ Has σ' a (f.promote t).rcells 58 ∧ Same σ σ' [a] := by
  obtain ⟨σ1, g1, h1, s1⟩ := timeF_spec L (k + 1) h t
  obtain ⟨hf0, hf1⟩ := hf
  rw [f20_eq, g1, bnd_some, asI_i, ld_at h1.get 0 _ rfl, asI_i, wrap_in (f.e + 1) (by omega) (by omega)]
  unfold Fe.promote
  by_cases c1 : f.full
  · have c1' : f.e + 1 > 1073741824 := by have : f.e ≥ 1073741824 := c1; omega
    rw [decide_eq_true c1', br_true, if_pos c1, if_pos c1, if_pos c1, if_pos c1]
    exact ⟨σ1, rfl, h1, s1⟩
  · have c1' : ¬ f.e + 1 > 1073741824 := by have : ¬ f.e ≥ 1073741824 := c1; omega
    rw [decide_eq_false c1', br_false, if_neg c1, if_neg c1, if_neg c1, if_neg c1, ld_at h1.get 0 _ rfl, asI_i, put_int h1.get 0 .i64 _ (by simp), ld_at (get_set_same _ _ _) 2 _ rfl, asI_i, put_int (get_set_same _ _ _) 1 .i64 _ (by simp), ld_at (get_set_same _ _ _) 0 (.int .i64 (IntKind.wrap .i64 (f.e + 1))) rfl, asI_i, ld_at (get_set_same _ _ _) 1 (.int .i64 (mx (tm f.now t) f.till)) rfl, asI_i, wrap_in (f.e + 1) (by omega) (by omega)]
    exact ⟨_, rfl, ⟨get_set_same _ _ _, by simpa using h1.lt⟩, s1.trans ((Same.set _ _ _).trans (Same.set _ _ _))⟩
theorem rholds_spec (h : Has σ a f.rcells 58) (L k : Nat) (t : Int) :
    ∃ σ', evCall Tryd.prog env L (k + 2) 22 [ptr a, .int .i64 t] σ = some (.int .i64 (f.holds t), σ') ∧ Has σ' a (f.at t).rcells 58 ∧ Same σ σ' [a] := by
  obtain ⟨σ1, g1, h1, s1⟩ := timeF_spec L k h t
  rw [f22_eq, g1, bnd_some, asI_i, ld_at h1.get 1 _ rfl, asI_i]
  unfold Fe.holds
  by_cases c1 : tm f.now t < f.since
  · rw [decide_eq_true c1, br_true, if_pos c1]
    exact ⟨σ1, rfl, h1, s1⟩
  · rw [decide_eq_false c1, br_false, if_neg c1, ld_at h1.get 0 _ rfl, asI_i]
    exact ⟨σ1, rfl, h1, s1⟩
end

/-- What a program that does nothing answers wrongly. -/
theorem awake_spec (L k : Nat) (σ : St) : ∃ σ', evCall Tryd.prog env L (k + 4) 9 [] σ = some (.bool true, σ') ∧ Same σ σ' [] := by
  rw [f9_eq]
  have a1 : Has _ σ.next (Fe.cells ⟨0, 0, 0, 0⟩) 39 := Has.new σ _ _
  have b1 : Same σ (σ.new (.own (Fe.cells ⟨0, 0, 0, 0⟩) 39)) [] := Same.new _ _ _
  obtain ⟨v, σ2, g2, e2, h2, s2⟩ := promote_spec a1 (by unfold Fe.Ok; decide) L k 0
  have hf : ¬ Fe.full ⟨0, 0, 0, 0⟩ := by decide
  rw [if_neg hf] at e2
  have e2' : v = .nilIface := by rcases e2 with ⟨_, h⟩ | ⟨h, _⟩; exact h; exact absurd rfl h
  subst e2'
  rw [if_neg hf, if_neg hf] at g2
  have b2 : Same σ σ2 [] := b1.fresh s2 (by simp)
  rw [show ([.int .i64 0, .int .i64 0, .int .i64 0, .int .i64 0] : List Value) = Fe.cells ⟨0, 0, 0, 0⟩ from rfl, g2, bnd_some, asT_t, show ∀ x y z : Value, (#[x, y, z] : Array Value).toList = [x, y, z] from fun _ _ _ => rfl, uncons_c, asI_i, uncons_c, asI_i, uncons_c, endl_n,
    show ((0 : Int) + 1 == 1) = true from rfl, br_true, show ((Fe.next ⟨0, 0, 0, 0⟩ 0).since == 0) = true from rfl, br_true, eqNil_nil, br_true]
  have a3 : Has _ σ2.next (S.cells ⟨0, 0, 0⟩) 28 := Has.new σ2 _ _
  have b3 : Same σ2 (σ2.new (.own (S.cells ⟨0, 0, 0⟩) 28)) [] := Same.new _ _ _
  obtain ⟨v4, σ4, g4, e4, h4, s4⟩ := grant_spec a3 L k 1 3
  have b4 : Same σ σ4 [] := (b2.trans b3).fresh s4 (by have := b2.1; simp; omega)
  obtain ⟨v5, σ5, g5, e5, h5, s5⟩ := check_spec h4 L k 1 12
  have b5 : Same σ σ5 [] := b4.fresh s5 (by have := b2.1; simp; omega)
  obtain ⟨v6, σ6, g6, e6, h6, s6⟩ := check_spec h5 L k 1 13
  have b6 : Same σ σ6 [] := b5.fresh s6 (by have := b2.1; simp; omega)
  obtain ⟨σ7, g7, s7⟩ := code_ans L (k + 1) e6
  rw [show ([.int .i64 0, .int .i64 0, .int .i64 0] : List Value) = S.cells ⟨0, 0, 0⟩ from rfl, g4, bnd_some, e4.nil, show decide ((S.grant ⟨0, 0, 0⟩ 1 3).1 = 0) = true from rfl, br_true, g5, bnd_some, e5.nil, show decide (S.check (S.grant ⟨0, 0, 0⟩ 1 3).2 1 12 = 0) = true from rfl, br_true, g6, bnd_some, g7, bnd_some, asI_i, show (S.check (S.at (S.grant ⟨0, 0, 0⟩ 1 3).2 12) 1 13 == 11) = true from rfl]
  exact ⟨σ7, rfl, b6.trans s7⟩

end Go.AM.Ls
