/-
  WHAT COMES IN: the arguments of a call, as the abstract machine sees them: memory that is only read.
-/
import Derived.Test.YtiiophkfecpbfaaDoorAm14
import Derived.WalkKit
import Derived.ProofKit
import Derived.OpenShut
import Derived.ShutString
import Derived.ChangeOld
import Derived.Below
import Derived.SizedLaws
import Derived.Carry
set_option linter.unusedVariables false
set_option linter.unusedSimpArgs false
set_option linter.unusedSectionVars false
namespace Go.AM
open Go.RowKit Go.ChangeShapes
variable [Laid]

/-- Types of which nothing but bools, whole numbers and strings are reached. -/
def flatT (P : Program) : Nat → TypeId → Bool
  | 0, _ => false
  | n + 1, t =>
    match P.underlying t with
    | some .bool => true
    | some (.int _) => true
    | some .string => true
    | some (.struct fs) => (fs.toList.all fun f => flatT P n f.type) && (List.range (P.cellsOf t)).all fun c => fs.toList.any fun f => Nat.ble f.offset c && Nat.blt c (f.offset + P.cellsOf f.type)
    | some (.array m e) => flatT P n e && Nat.beq (P.cellsOf t) (m * P.cellsOf e) && Nat.blt 0 (P.cellsOf e)
    | _ => false

/-- Cells of a type, in the store. -/
inductive Img (P : Program) (σ : St) : TypeId → List Value → Prop
  | bool {t : TypeId} (b : Bool) (h : P.underlying t = some .bool) : Img P σ t [.bool b]
  | int {t : TypeId} {k : IntKind} (n : Int) (h : P.underlying t = some (.int k)) (hw : (Lit.int k n).wf = true) : Img P σ t [.int k n]
  | str {t : TypeId} (s : ByteArray) (h : P.underlying t = some .string) (hs : s.size ≤ maxLen) : Img P σ t [.string s]
  | nil {t e : TypeId} (h : P.underlying t = some (.slice e)) : Img P σ t [.slice none 0 0]
  | slice {t e : TypeId} {q n : Nat} (h : P.underlying t = some (.slice e)) (hm : n ≤ maxLen)
      (vs : List Value) (hg : n = 0 ∨ σ.get q = some (.ro vs)) (hl : n * P.cellsOf e ≤ vs.length) (hr : ∀ i, i < n → Img P σ e ((vs.drop (i * P.cellsOf e)).take (P.cellsOf e))) : Img P σ t [.slice (some ⟨q, 0, none⟩) n 0]
  | struct {t : TypeId} {fs : Array Field} {cs : List Value} (h : P.underlying t = some (.struct fs)) (hl : cs.length = P.cellsOf t) (hf : ∀ f ∈ fs.toList, Img P σ f.type ((cs.drop f.offset).take (P.cellsOf f.type))) : Img P σ t cs
  | array {t e : TypeId} {n : Nat} {cs : List Value} (h : P.underlying t = some (.array n e)) (hl : cs.length = P.cellsOf t) (hf : ∀ i, i < n → Img P σ e ((cs.drop (i * P.cellsOf e)).take (P.cellsOf e))) : Img P σ t cs

def flat1 (v : Value) : Bool :=
  match v with
  | .bool _ => true
  | .int _ _ => true
  | .string _ => true
  | _ => false
theorem flat1_rel (μ : Mp) (v : Value) (h : flat1 v = true) : VRel μ v v := by
  cases v <;> simp [flat1] at h <;> constructor

/-- The addresses of slices among values. -/
def adrs (cs : List Value) : List Addr := cs.filterMap fun v => match v with | .slice (some a) _ _ => some a | _ => none
def im (ads : List Addr) (v : Value) : Value := match v with | .slice (some a) n _ => .slice (some ⟨ads.idxOf a, 0, none⟩) n 0 | v => v

def stOf (ads : List Addr) (W : World) : St where
  get r := match ads[r]? with
    | some a => match W.heap[a.block]? with
      | some (.cells cur _ _) => some (.ro ((cur.toList.drop a.off).takeWhile flat1))
      | _ => none
    | none => none
  next := ads.length
def mpOf (ads : List Addr) : Mp := fun r => (ads[r]?).map fun a => ⟨a.block, a.off, 0⟩

theorem idx_get {ads : List Addr} {a : Addr} (h : a ∈ ads) : ads[ads.idxOf a]? = some a := by
  have h1 := List.idxOf_lt_length_of_mem h
  rw [List.getElem?_eq_getElem h1, List.getElem_idxOf h1]

theorem rel_stOf (ads : List Addr) (W : World) (hI : Laid.I W) : Rel (Base.of W) (mpOf ads) (stOf ads W) W := by
  refine ⟨Below.refl _ _, fun q hq => ?_, fun q p B hp hB => ?_, fun q vs e h => ?_, fun q vs h => ?_, fun q kv h => ?_, fun q q' B B' p p' h hw => ?_, hI, fun b o he => (by cases he), fun _ _ _ _ _ => rfl⟩
  · have h1 : ads[q]? = none := List.getElem?_eq_none hq
    simp [mpOf, stOf, h1]
  · simp only [mpOf, Option.map_eq_some_iff] at hp
    obtain ⟨a, ha, rfl⟩ := hp
    simp only [stOf, ha] at hB
    split at hB
    · rename_i cur e fz hc
      exact (Array.getElem?_eq_some_iff.1 hc).1
    · cases hB
  · simp only [stOf] at h
    split at h
    · split at h <;> cases h
    · cases h
  · simp only [stOf] at h
    split at h
    · rename_i a ha
      split at h
      · rename_i cur e fz hc
        cases h
        refine ⟨⟨a.block, a.off, 0⟩, by simp [mpOf, ha], fun i x hx => ?_⟩
        have hpre : (cur.toList.drop a.off)[i]? = some x := by
          have h1 := List.takeWhile_prefix flat1 (l := cur.toList.drop a.off)
          have hlt : i < ((cur.toList.drop a.off).takeWhile flat1).length := (List.getElem?_eq_some_iff.1 hx).1
          obtain ⟨t, ht⟩ := h1
          rw [← ht, List.getElem?_append_left hlt]
          exact hx
        have hgood : flat1 x = true := by
          have h1 := List.all_takeWhile (p := flat1) (l := cur.toList.drop a.off)
          exact List.all_eq_true.1 h1 x (List.mem_of_getElem? hx)
        refine ⟨x, ?_, flat1_rel _ x hgood⟩
        simp only [World.cell?, hc]
        rw [List.getElem?_drop, Array.getElem?_toList] at hpre
        exact hpre
      · cases h
    · cases h
  · simp only [stOf] at h
    split at h
    · split at h <;> cases h
    · cases h
  · simp only [stOf] at h
    split at h
    · split at h
      · cases h; cases hw
      · cases h
    · cases h

theorem run_len : ∀ {l : List Value} {n : Nat}, n ≤ l.length → (∀ i v, i < n → l[i]? = some v → flat1 v = true) → n ≤ (l.takeWhile flat1).length
  | [], n, h, _ => by simpa using h
  | x :: l, 0, _, _ => by simp
  | x :: l, n + 1, h, hg => by
    have h1 := hg 0 x (by omega) rfl
    simp only [List.takeWhile_cons, h1, if_true, List.length_cons]
    have := run_len (l := l) (n := n) (by simpa using h) (fun i v hi hv => hg (i + 1) v (by omega) (by simpa using hv))
    omega

section
variable {H : Type} {enc : TypeId × Value → H} {P : Program}

theorem cells_inv {w : World} {base : Nat} {a : Addr} {n : Nat} {cs : List Value} (h : w.cells? base a n = some cs) : cs.length = n ∧ ∀ i, i < n → w.cell? (a.add i) = cs[i]? := by
  unfold World.cells? at h
  split at h
  · exact ⟨by simpa using mapM_some_length h, fun i hi => mapM_some_get h i i (by simp [hi])⟩
  · cases h

theorem image_flat {W : World} {base : Nat} {spare : Nat → Bool} {held : Bool} (σ : St) : ∀ (fuel : Nat) (t : TypeId) (cs : List Value) (x : DataW H × List MemPlace) (k : Nat), DataW.trod enc P W base spare held fuel t cs = some x → flatT P k t = true →
    (∀ v ∈ cs, flat1 v = true) ∧ cs.length = cs.length ∧ Img P σ t cs
  | 0, t, cs, x, k, h, _ => by simp [DataW.trod] at h
  | fuel + 1, t, cs, x, 0, h, hk => by cases hk
  | fuel + 1, t, cs, x, k + 1, h, hk => by
    unfold flatT at hk
    split at hk
    · rename_i hu
      unfold DataW.trod at h
      simp only [hu] at h
      split at h <;> try (cases h; done)
      all_goals simp_all
      exact ⟨by simp [flat1], .bool _ hu⟩
    · rename_i kk hu
      unfold DataW.trod at h
      simp only [hu] at h
      split at h <;> try (simp_all; done)
      rename_i k1 k2 n heq
      cases heq
      split at h
      · rename_i hw
        obtain ⟨rfl, hw⟩ := hw
        exact ⟨by simp [flat1], rfl, .int _ hu hw⟩
      · cases h
    · rename_i hu
      unfold DataW.trod at h
      simp only [hu] at h
      split at h <;> try (simp_all; done)
      split at h
      · exact ⟨by simp [flat1], rfl, .str _ hu (by assumption)⟩
      · cases h
    · rename_i fs hu
      rw [Bool.and_eq_true] at hk
      unfold DataW.trod at h
      simp only [hu] at h
      split at h
      · rename_i hlen
        obtain ⟨r, hr, _⟩ := Option.map_eq_some_iff.1 h
        have hrl := mapM_some_length hr
        have hall : ∀ f ∈ fs.toList, (∀ v ∈ (cs.drop f.offset).take (P.cellsOf f.type), flat1 v = true) ∧ Img P σ f.type ((cs.drop f.offset).take (P.cellsOf f.type)) := by
          intro f hf
          obtain ⟨i, hi, rfl⟩ := List.getElem_of_mem hf
          have h1 := mapM_some_get hr i _ (List.getElem?_eq_getElem hi)
          have h2 : i < r.length := by omega
          rw [List.getElem?_eq_getElem h2] at h1
          obtain ⟨h3, _, h4⟩ := image_flat σ fuel _ _ _ k h1 (List.all_eq_true.1 hk.1 _ (List.getElem_mem hi))
          exact ⟨h3, h4⟩
        refine ⟨fun v hv => ?_, rfl, .struct hu hlen (fun f hf => (hall f hf).2)⟩
        obtain ⟨c, hc, rfl⟩ := List.getElem_of_mem hv
        have h1 := List.all_eq_true.1 hk.2 c (by simp; omega)
        obtain ⟨f, hf, h2⟩ := List.any_eq_true.1 h1
        simp only [Bool.and_eq_true, Nat.ble_eq, Nat.blt_eq] at h2
        refine (hall f hf).1 _ (List.mem_of_getElem? (i := c - f.offset) ?_)
        rw [List.getElem?_take, if_pos (by omega), List.getElem?_drop, show f.offset + (c - f.offset) = c by omega]
        exact List.getElem?_eq_getElem hc
      · cases h
    · rename_i m e hu
      simp only [Bool.and_eq_true] at hk
      unfold DataW.trod at h
      simp only [hu] at h
      split at h
      · rename_i hlen
        obtain ⟨r, hr, _⟩ := Option.map_eq_some_iff.1 h
        have hrl := mapM_some_length hr
        simp only [List.length_range] at hrl
        have hall : ∀ i, i < m → (∀ v ∈ (cs.drop (i * P.cellsOf e)).take (P.cellsOf e), flat1 v = true) ∧ Img P σ e ((cs.drop (i * P.cellsOf e)).take (P.cellsOf e)) := by
          intro i hi
          have h1 := mapM_some_get hr i i (by simp [hi])
          have h2 : i < r.length := by omega
          rw [List.getElem?_eq_getElem h2] at h1
          obtain ⟨h3, _, h4⟩ := image_flat σ fuel _ _ _ k h1 hk.1.1
          exact ⟨h3, h4⟩
        refine ⟨fun v hv => ?_, rfl, .array hu hlen (fun i hi => (hall i hi).2)⟩
        obtain ⟨c, hc, rfl⟩ := List.getElem_of_mem hv
        have hz : 0 < P.cellsOf e := by simpa using hk.2
        have hcm : c < m * P.cellsOf e := by have := Nat.eq_of_beq_eq_true hk.1.2; omega
        have hdiv : c / P.cellsOf e < m := Nat.div_lt_of_lt_mul (by rw [Nat.mul_comm]; exact hcm)
        have hmod := Nat.mod_lt c hz
        have hdm := Nat.div_add_mod c (P.cellsOf e)
        refine (hall _ hdiv).1 _ (List.mem_of_getElem? (i := c % P.cellsOf e) ?_)
        rw [List.getElem?_take, if_pos hmod, List.getElem?_drop, Nat.mul_comm, hdm]
        exact List.getElem?_eq_getElem hc
      · cases h
    · cases hk

/-- An argument that holds no slice. -/
theorem open_flat {W : World} {t : TypeId} {v : Value} {d : DataW H} {p : List MemPlace} {k : Nat} {ads : List Addr} (hf : flatT P k t = true) (hv : Value.okWide P W .any 0 t v ∨ True)
    (h : DataW.Trod enc P W 0 (fun _ => true) true t v d p) (ha : (∃ cs, v = .agg cs) ∨ ∃ x, v.cells.toList = [x] ∧ v = x) : VRel (mpOf ads) v v ∧ Img P (stOf ads W) t v.cells.toList := by
  obtain ⟨fuel, h1⟩ := h
  obtain ⟨h2, _, h3⟩ := image_flat (stOf ads W) fuel t _ _ k h1 hf
  refine ⟨?_, h3⟩
  rcases ha with ⟨cs, rfl⟩ | ⟨x, hx, rfl⟩
  · refine .agg rfl fun i x y hx hy => ?_
    rw [hx] at hy; cases hy
    exact flat1_rel _ x (h2 x (List.mem_of_getElem? hx))
  · exact flat1_rel _ v (h2 v (by rw [hx]; simp))

/-- An argument that is a slice. -/
theorem open_slice {W : World} {base : Nat} {t e : TypeId} {v : Value} {d : DataW H} {p : List MemPlace} {k : Nat} {ads : List Addr} (hu : P.underlying t = some (.slice e)) (hf : flatT P k e = true) (hz : 0 < P.cellsOf e)
    (hv : Value.okWide P W .any base t v) (h : DataW.Trod enc P W 0 (fun _ => true) true t v d p) (has : ∀ a n c, v = .slice (some a) n c → a ∈ ads) : VRel (mpOf ads) (im ads v) v ∧ Img P (stOf ads W) t [im ads v] := by
  obtain ⟨fuel, h1⟩ := h
  cases fuel with
  | zero => simp [DataW.trod] at h1
  | succ fuel =>
    have hok : v = .slice none 0 0 ∨ ∃ b o n c, v = .slice (some ⟨b, o, none⟩) n c := by
      unfold Value.okWide Cell.okWide Cell.ok at hv
      simp only [hu] at hv
      cases v <;> simp at hv
      rename_i a n c
      cases a with
      | none => left; cases n <;> cases c <;> simp at hv ⊢
      | some a =>
        obtain ⟨b, o, sp⟩ := a
        simp only [World.has] at hv
        have : sp = none := hv.2.2.2.1
        subst this
        exact .inr ⟨b, o, n, c, rfl⟩
    rcases hok with rfl | ⟨b, o, n, c, rfl⟩
    · exact ⟨.sl0, .nil hu⟩
    · have hmem := has _ _ _ rfl
      have hidx := idx_get hmem
      unfold DataW.trod at h1
      simp only [hu, Value.cells] at h1
      split at h1
      · rename_i hb
        obtain ⟨elems, he, h2⟩ := Option.bind_eq_some_iff.1 h1
        have hel := mapM_some_length he
        simp only [List.length_range] at hel
        have hrow : ∀ i, i < n → ∃ cs y, W.cells? 0 ((⟨b, o, none⟩ : Addr).add (i * P.cellsOf e)) (P.cellsOf e) = some cs ∧ DataW.trod enc P W 0 (fun _ => true) true fuel e cs = some y := by
          intro i hi
          have h3 := mapM_some_get he i i (by simp [hi])
          have h4 : i < elems.length := by omega
          rw [List.getElem?_eq_getElem h4] at h3
          obtain ⟨cs, h5, h6⟩ := Option.bind_eq_some_iff.1 h3
          exact ⟨cs, _, h5, h6⟩
        have hrel : VRel (mpOf ads) (im ads (.slice (some ⟨b, o, none⟩) n c)) (.slice (some ⟨b, o, none⟩) n c) :=
          VRel.sl (p := ⟨b, o, 0⟩) (by simp [mpOf, hidx]) hb.2.1 (.inr rfl) (.inl rfl) hb.2.2
        refine ⟨hrel, ?_⟩
        by_cases hn : n = 0
        · subst hn
          exact .slice hu (by omega) [] (.inl rfl) (by simp) (fun i hi => by omega)
        · -- the block
          have hcell : ∀ i, i < n → ∀ j, j < P.cellsOf e → ∃ x, W.cell? ⟨b, o + (i * P.cellsOf e + j), none⟩ = some x ∧ flat1 x = true := by
            intro i hi j hj
            obtain ⟨cs, y, h5, h6⟩ := hrow i hi
            obtain ⟨h7, h8⟩ := cells_inv h5
            obtain ⟨h9, _, _⟩ := image_flat (stOf ads W) fuel e cs y k h6 hf
            have h10 := h8 j hj
            rw [addr_add, addr_add] at h10
            have h11 : j < cs.length := by omega
            rw [List.getElem?_eq_getElem h11] at h10
            exact ⟨cs[j], by rw [← Nat.add_assoc]; exact h10, h9 _ (List.getElem_mem h11)⟩
          have hblk : ∃ cur el fz, W.heap[b]? = some (.cells cur el fz) := by
            obtain ⟨x, hx, _⟩ := hcell 0 (by omega) 0 hz
            unfold World.cell? at hx
            split at hx
            · exact ⟨_, _, _, by assumption⟩
            · cases hx
          obtain ⟨cur, el, fz, hc⟩ := hblk
          have hflat : ∀ q, q < n * P.cellsOf e → ∃ x, (cur.toList.drop o)[q]? = some x ∧ flat1 x = true := by
            intro q hq
            have hdiv : q / P.cellsOf e < n := Nat.div_lt_of_lt_mul (by rw [Nat.mul_comm]; exact hq)
            have hmod := Nat.mod_lt q hz
            have hdm := Nat.div_add_mod q (P.cellsOf e)
            obtain ⟨x, hx, hg⟩ := hcell _ hdiv _ hmod
            rw [Nat.mul_comm, hdm] at hx
            refine ⟨x, ?_, hg⟩
            simp only [World.cell?, hc] at hx
            rw [List.getElem?_drop, Array.getElem?_toList]
            simpa using hx
          have hlen : n * P.cellsOf e ≤ (cur.toList.drop o).length := by
            rcases Nat.lt_or_ge (cur.toList.drop o).length (n * P.cellsOf e) with h | h
            · obtain ⟨x, hx, _⟩ := hflat _ h
              rw [List.getElem?_eq_none (Nat.le_refl _)] at hx
              cases hx
            · exact h
          have hget : (stOf ads W).get (ads.idxOf ⟨b, o, none⟩) = some (.ro ((cur.toList.drop o).takeWhile flat1)) := by simp [stOf, hidx, hc]
          have hlen2 := run_len hlen (fun i v hi hv => by obtain ⟨x, hx, hg⟩ := hflat i hi; rw [hv] at hx; cases hx; exact hg)
          have hpre : ∀ i, i < n * P.cellsOf e → ((cur.toList.drop o).takeWhile flat1)[i]? = (cur.toList.drop o)[i]? := by
            intro i hi
            obtain ⟨t', ht⟩ := List.takeWhile_prefix flat1 (l := cur.toList.drop o)
            conv => rhs; rw [← ht]
            rw [List.getElem?_append_left (by omega)]
          refine .slice hu (Nat.le_trans hb.2.1 hb.2.2) _ (.inr hget) hlen2 (fun i hi => ?_)
          obtain ⟨cs, y, h5, h6⟩ := hrow i hi
          obtain ⟨h7, h8⟩ := cells_inv h5
          obtain ⟨_, _, h10⟩ := image_flat (stOf ads W) fuel e cs y k h6 hf
          have heq : (((cur.toList.drop o).takeWhile flat1).drop (i * P.cellsOf e)).take (P.cellsOf e) = cs := by
            apply List.ext_getElem?
            intro j
            rw [List.getElem?_take]
            by_cases hj : j < P.cellsOf e
            · have hij : i * P.cellsOf e + j < n * P.cellsOf e := by
                have := Nat.mul_le_mul_right (P.cellsOf e) (show i + 1 ≤ n from hi)
                rw [Nat.add_mul] at this
                omega
              rw [if_pos hj, List.getElem?_drop, hpre _ hij, ← h8 j hj, addr_add, addr_add]
              simp only [World.cell?, hc]
              rw [List.getElem?_drop, Array.getElem?_toList]
              simp [Nat.add_assoc]
            · rw [if_neg hj, List.getElem?_eq_none (by omega)]
          rw [heq]
          exact h10
      · cases h1

/-- A list of what the elements say. -/
theorem Img.list {α : Type} {σ : St} {t e : TypeId} {v : Value} (hu : P.underlying t = some (.slice e)) (h : Img P σ t [v]) (cells : α → List Value) (dec : ∀ row, Img P σ e row → ∃ a, row = cells a) (hz : ∀ a, (cells a).length = P.cellsOf e) :
    ∃ (l : List α) (ad : Option Addr), v = .slice ad l.length 0 ∧ l.length ≤ maxLen ∧ (l ≠ [] → ∃ q vs, ad = some ⟨q, 0, none⟩ ∧ σ.cells q = some vs ∧ l.length * P.cellsOf e ≤ vs.length ∧ ∀ i a, l[i]? = some a → (vs.drop (i * P.cellsOf e)).take (P.cellsOf e) = cells a) := by
  generalize hx : [v] = xs at h
  cases h with
  | bool b h => rw [hu] at h; cases h
  | int n h => rw [hu] at h; cases h
  | str s h => rw [hu] at h; cases h
  | nil h => cases hx; exact ⟨[], none, rfl, by simp, fun h => absurd rfl h⟩
  | @slice t' e' q n h hm vs hg hl hr =>
    cases hx
    rw [hu] at h
    cases h
    have hex : ∀ m, m ≤ n → ∃ l : List α, l.length = m ∧ ∀ i a, l[i]? = some a → (vs.drop (i * P.cellsOf e)).take (P.cellsOf e) = cells a := by
      intro m
      induction m with
      | zero => exact fun _ => ⟨[], rfl, fun i a h => by simp at h⟩
      | succ m ih =>
        intro hmn
        obtain ⟨l, h1, h2⟩ := ih (by omega)
        obtain ⟨a, ha⟩ := dec _ (hr m (by omega))
        refine ⟨l ++ [a], by simp [h1], fun i a' hi => ?_⟩
        rcases Nat.lt_or_ge i m with h3 | h3
        · rw [List.getElem?_append_left (by omega)] at hi; exact h2 i a' hi
        · rw [List.getElem?_append_right (by omega)] at hi
          have : i - l.length = 0 := by
            rcases Nat.eq_zero_or_pos (i - l.length) with h | h
            · exact h
            · rw [List.getElem?_eq_none (by simp; omega)] at hi; cases hi
          rw [this] at hi
          simp at hi
          subst hi
          rw [show i = m by omega]
          exact ha
    obtain ⟨l, h1, h2⟩ := hex n (Nat.le_refl _)
    refine ⟨l, some ⟨q, 0, none⟩, by rw [h1], by omega, fun hne => ?_⟩
    have hn0 : n ≠ 0 := by intro h0; apply hne; exact List.eq_nil_of_length_eq_zero (by omega)
    refine ⟨q, vs, rfl, ?_, by rw [h1]; exact hl, h2⟩
    rcases hg with h | h
    · exact absurd h hn0
    · simp [St.cells, h, Blk.cells]
  | struct h => rw [hu] at h; cases h
  | array h => rw [hu] at h; cases h
end

end Go.AM
