/-
  WHAT COMES IN, deep: arguments whose elements hold slices of their own.
-/
import Derived.Test.YtmbofnomfmhmdaaAm17
set_option linter.unusedVariables false
set_option linter.unusedSimpArgs false
set_option linter.unusedSectionVars false
namespace Go.AM
open Go.RowKit Go.ChangeShapes
variable [Laid]

/-- A cell that may be read: flat, or a slice. -/
def ok1 (ads : List Addr) (v : Value) : Bool :=
  match v with
  | .slice none n c => Nat.beq n 0 && Nat.beq c 0
  | .slice (some a) n c => decide (a ∈ ads) && decide (n ≤ c) && decide (c ≤ maxLen) && (a.spot.isNone || Nat.beq c 0)
  | v => flat1 v
theorem ok1_flat {ads : List Addr} {v : Value} (h : flat1 v = true) : ok1 ads v = true ∧ im ads v = v := by
  cases v <;> simp [flat1] at h <;> exact ⟨rfl, rfl⟩
theorem idx_mp {ads : List Addr} {a : Addr} (h : a ∈ ads) : mpOf ads (ads.idxOf a) = some ⟨a.block, a.off, 0⟩ := by simp [mpOf, idx_get h]
theorem ok1_rel {ads : List Addr} {v : Value} (h : ok1 ads v = true) : VRel (mpOf ads) (im ads v) v := by
  unfold ok1 at h
  split at h
  · rename_i n c
    simp at h
    obtain ⟨rfl, rfl⟩ := h
    exact .sl0
  · rename_i a n c
    simp only [Bool.and_eq_true, decide_eq_true_eq, Bool.or_eq_true, Option.isNone_iff_eq_none] at h
    obtain ⟨⟨⟨h1, h2⟩, h3⟩, h4⟩ := h
    exact VRel.slw (p := ⟨a.block, a.off, 0⟩) (o' := a.off) (sp := a.spot) (idx_mp h1) h2 (.inr rfl) (.inl rfl) h3 (h4.imp id Nat.eq_of_beq_eq_true)
  · rename_i h1 h2
    have := ok1_flat (ads := ads) h
    rw [this.2]
    exact flat1_rel _ v h

def stOfD (ads : List Addr) (W : World) : St where
  get r := match ads[r]? with
    | some a => match W.heap[a.block]? with
      | some (.cells cur _ _) => some (.ro (((cur.toList.drop a.off).takeWhile (ok1 ads)).map (im ads)))
      | _ => none
    | none => none
  next := ads.length

theorem rel_stOfD (ads : List Addr) (W : World) (hI : Laid.I W) : Rel (Base.of W) (mpOf ads) (stOfD ads W) W := by
  refine ⟨Below.refl _ _, fun q hq => ?_, fun q p B hp hB => ?_, fun q vs e h => ?_, fun q vs h => ?_, fun q kv h => ?_, fun q q' B B' p p' h hw => ?_, hI, fun b o he => (by cases he), fun _ _ _ _ _ => rfl⟩
  · have h1 : ads[q]? = none := List.getElem?_eq_none hq
    simp [mpOf, stOfD, h1]
  · simp only [mpOf, Option.map_eq_some_iff] at hp
    obtain ⟨a, ha, rfl⟩ := hp
    simp only [stOfD, ha] at hB
    split at hB
    · rename_i cur e fz hc
      exact (Array.getElem?_eq_some_iff.1 hc).1
    · cases hB
  · simp only [stOfD] at h
    split at h
    · split at h <;> cases h
    · cases h
  · simp only [stOfD] at h
    split at h
    · rename_i a ha
      split at h
      · rename_i cur e fz hc
        cases h
        refine ⟨⟨a.block, a.off, 0⟩, by simp [mpOf, ha], fun i x hx => ?_⟩
        rw [List.getElem?_map, Option.map_eq_some_iff] at hx
        obtain ⟨y, hy, rfl⟩ := hx
        have hpre : (cur.toList.drop a.off)[i]? = some y := by
          have h1 := List.takeWhile_prefix (ok1 ads) (l := cur.toList.drop a.off)
          have hlt : i < ((cur.toList.drop a.off).takeWhile (ok1 ads)).length := (List.getElem?_eq_some_iff.1 hy).1
          obtain ⟨t, ht⟩ := h1
          rw [← ht, List.getElem?_append_left hlt]
          exact hy
        have hgood : ok1 ads y = true := by
          have h1 := List.all_takeWhile (p := ok1 ads) (l := cur.toList.drop a.off)
          exact List.all_eq_true.1 h1 y (List.mem_of_getElem? hy)
        refine ⟨y, ?_, ok1_rel hgood⟩
        simp only [World.cell?, hc]
        rw [List.getElem?_drop, Array.getElem?_toList] at hpre
        exact hpre
      · cases h
    · cases h
  · simp only [stOfD] at h
    split at h
    · split at h <;> cases h
    · cases h
  · simp only [stOfD] at h
    split at h
    · split at h
      · cases h; cases hw
      · cases h
    · cases h

theorem run_lenD {p : Value → Bool} : ∀ {l : List Value} {n : Nat}, n ≤ l.length → (∀ i v, i < n → l[i]? = some v → p v = true) → n ≤ (l.takeWhile p).length
  | [], n, h, _ => by simpa using h
  | x :: l, 0, _, _ => by simp
  | x :: l, n + 1, h, hg => by
    have h1 := hg 0 x (by omega) rfl
    simp only [List.takeWhile_cons, h1, if_true, List.length_cons]
    have := run_lenD (l := l) (n := n) (by simpa using h) (fun i v hi hv => hg (i + 1) v (by omega) (by simpa using hv))
    omega

section
variable {H : Type} {enc : TypeId × Value → H} {P : Program}

/-- Elements that can be read: the memory they lie in, as the machine sees it. -/
theorem elems_img {W : World} {ads : List Addr} {a : Addr} {n : Nat} {e : TypeId} (ha : a ∈ ads) (hsp : a.spot = none) (hz : 0 < P.cellsOf e) (hn : 0 < n)
    (h : ∀ i, i < n → ∃ cs, W.cells? 0 (a.add (i * P.cellsOf e)) (P.cellsOf e) = some cs ∧ (∀ v ∈ cs, ok1 ads v = true) ∧ Img P (stOfD ads W) e (cs.map (im ads))) :
    ∃ vs, (stOfD ads W).get (ads.idxOf a) = some (.ro vs) ∧ n * P.cellsOf e ≤ vs.length ∧ ∀ i, i < n → Img P (stOfD ads W) e ((vs.drop (i * P.cellsOf e)).take (P.cellsOf e)) := by
  obtain ⟨b, o, sp⟩ := a
  simp only at hsp
  subst hsp
  have hidx := idx_get ha
  have hcell : ∀ i, i < n → ∀ j, j < P.cellsOf e → ∃ x, W.cell? ⟨b, o + (i * P.cellsOf e + j), none⟩ = some x ∧ ok1 ads x = true := by
    intro i hi j hj
    obtain ⟨cs, h5, h6, _⟩ := h i hi
    obtain ⟨h7, h8⟩ := cells_inv h5
    have h10 := h8 j hj
    rw [addr_add, addr_add] at h10
    have h11 : j < cs.length := by omega
    rw [List.getElem?_eq_getElem h11] at h10
    exact ⟨cs[j], by rw [← Nat.add_assoc]; exact h10, h6 _ (List.getElem_mem h11)⟩
  have hblk : ∃ cur el fz, W.heap[b]? = some (.cells cur el fz) := by
    obtain ⟨x, hx, _⟩ := hcell 0 hn 0 hz
    unfold World.cell? at hx
    split at hx
    · exact ⟨_, _, _, by assumption⟩
    · cases hx
  obtain ⟨cur, el, fz, hc⟩ := hblk
  have hflat : ∀ q, q < n * P.cellsOf e → ∃ x, (cur.toList.drop o)[q]? = some x ∧ ok1 ads x = true := by
    intro q hq
    have hdiv : q / P.cellsOf e < n := Nat.div_lt_of_lt_mul (by rw [Nat.mul_comm]; exact hq)
    have hmod := Nat.mod_lt q hz
    have hdm := Nat.div_add_mod q (P.cellsOf e)
    obtain ⟨x, hx, hg⟩ := hcell _ hdiv _ hmod
    rw [Nat.mul_comm, hdm] at hx
    refine ⟨x, ?_, hg⟩
    simp only [World.cell?, hc] at hx
    rw [List.getElem?_drop, Array.getElem?_toList]
    simpa using hx
  have hlen : n * P.cellsOf e ≤ (cur.toList.drop o).length := by
    rcases Nat.lt_or_ge (cur.toList.drop o).length (n * P.cellsOf e) with h | h
    · obtain ⟨x, hx, _⟩ := hflat _ h
      rw [List.getElem?_eq_none (Nat.le_refl _)] at hx
      cases hx
    · exact h
  have hget : (stOfD ads W).get (ads.idxOf ⟨b, o, none⟩) = some (.ro (((cur.toList.drop o).takeWhile (ok1 ads)).map (im ads))) := by simp [stOfD, hidx, hc]
  have hlen2 := run_lenD (p := ok1 ads) hlen (fun i v hi hv => by obtain ⟨x, hx, hg⟩ := hflat i hi; rw [hv] at hx; cases hx; exact hg)
  have hpre : ∀ i, i < n * P.cellsOf e → ((cur.toList.drop o).takeWhile (ok1 ads))[i]? = (cur.toList.drop o)[i]? := by
    intro i hi
    obtain ⟨t', ht⟩ := List.takeWhile_prefix (ok1 ads) (l := cur.toList.drop o)
    conv => rhs; rw [← ht]
    rw [List.getElem?_append_left (by omega)]
  refine ⟨_, hget, by rw [List.length_map]; exact hlen2, fun i hi => ?_⟩
  obtain ⟨cs, h5, _, h10⟩ := h i hi
  obtain ⟨h7, h8⟩ := cells_inv h5
  have heq : (((cur.toList.drop o).takeWhile (ok1 ads)).drop (i * P.cellsOf e)).take (P.cellsOf e) = cs := by
    apply List.ext_getElem?
    intro j
    rw [List.getElem?_take]
    by_cases hj : j < P.cellsOf e
    · have hij : i * P.cellsOf e + j < n * P.cellsOf e := by
        have := Nat.mul_le_mul_right (P.cellsOf e) (show i + 1 ≤ n from hi)
        rw [Nat.add_mul] at this
        omega
      rw [if_pos hj, List.getElem?_drop, hpre _ hij, ← h8 j hj, addr_add, addr_add]
      simp only [World.cell?, hc]
      rw [List.getElem?_drop, Array.getElem?_toList]
      simp [Nat.add_assoc]
    · rw [if_neg hj, List.getElem?_eq_none (by omega)]
  rw [← List.map_drop, ← List.map_take, heq]
  exact h10

/-- Types of which bools, whole numbers, strings, and slices of these are reached. -/
def deepT (P : Program) : Nat → TypeId → Bool
  | 0, _ => false
  | n + 1, t =>
    flatT P 8 t || match P.underlying t with
    | some (.slice e) => flatT P 8 e && Nat.blt 0 (P.cellsOf e)
    | some (.struct fs) => (fs.toList.all fun f => deepT P n f.type) && (List.range (P.cellsOf t)).all fun c => fs.toList.any fun f => Nat.ble f.offset c && Nat.blt c (f.offset + P.cellsOf f.type)
    | _ => false

theorem map_im_flat {ads : List Addr} {cs : List Value} (h : ∀ v ∈ cs, flat1 v = true) : cs.map (im ads) = cs := by
  conv => rhs; rw [← List.map_id cs]
  exact List.map_congr_left fun v hv => (ok1_flat (h v hv)).2

theorem image_slice {W : World} {ads : List Addr} {fuel : Nat} {t e : TypeId} {v : Value} {x : DataW H × List MemPlace} (hu : P.underlying t = some (.slice e)) (hf : flatT P 8 e = true) (hz : 0 < P.cellsOf e)
    (h : DataW.trod enc P W 0 (fun _ => true) true (fuel + 1) t [v] = some x) (ha : ∀ a n c, v = .slice (some a) n c → a ∈ ads) : ok1 ads v = true ∧ Img P (stOfD ads W) t [im ads v] := by
  unfold DataW.trod at h
  simp only [hu] at h
  split at h <;> try (simp_all; done)
  · rename_i heq1 heq2
    obtain rfl : v = .slice none 0 0 := by simpa using heq2
    exact ⟨rfl, .nil hu⟩
  · rename_i a len cap heq1 heq2
    obtain rfl : v = .slice (some a) len cap := by simpa using heq2
    cases heq1
    have hm := ha _ _ _ rfl
    split at h
    · rename_i hb
      obtain ⟨elems, he, h2⟩ := Option.bind_eq_some_iff.1 h
      have hel := mapM_some_length he
      simp only [List.length_range] at hel
      rw [if_pos trivial] at h2
      obtain ⟨rest, hrest, _⟩ := Option.map_eq_some_iff.1 h2
      have hrl := mapM_some_length hrest
      simp only [List.length_range] at hrl
      have hrow : ∀ i, i < len → ∃ cs y, W.cells? 0 (a.add (i * P.cellsOf e)) (P.cellsOf e) = some cs ∧ DataW.trod enc P W 0 (fun _ => true) true fuel e cs = some y := by
        intro i hi
        have h3 := mapM_some_get he i i (by simp [hi])
        have h4 : i < elems.length := by omega
        rw [List.getElem?_eq_getElem h4] at h3
        obtain ⟨cs, h5, h6⟩ := Option.bind_eq_some_iff.1 h3
        exact ⟨cs, _, h5, h6⟩
      have hspot : a.spot = none ∨ cap = 0 := by
        by_cases hc0 : cap = 0
        · exact .inr hc0
        · refine .inl ?_
          have hread : ∃ (cs : List Value), W.cells? 0 (a.add 0) (P.cellsOf e) = some cs := by
            by_cases hl : 0 < len
            · obtain ⟨cs, _, h5, _⟩ := hrow 0 hl
              rw [Nat.zero_mul] at h5
              exact ⟨cs, h5⟩
            · have h3 := mapM_some_get hrest 0 0 (List.getElem?_range (by omega))
              rw [List.getElem?_eq_getElem (show 0 < rest.length by omega)] at h3
              obtain ⟨cs, h5, _⟩ := Option.bind_eq_some_iff.1 h3
              rw [show len + 0 = 0 by omega, Nat.zero_mul] at h5
              exact ⟨cs, h5⟩
          obtain ⟨cs, h5⟩ := hread
          obtain ⟨h7, h8⟩ := cells_inv h5
          have h9 := h8 0 hz
          rw [List.getElem?_eq_getElem (show 0 < cs.length by omega)] at h9
          obtain ⟨b, o, sp⟩ := a
          cases sp with
          | none => rfl
          | some s =>
            exfalso
            unfold World.cell? at h9
            split at h9
            · simp [Addr.add] at h9
            · cases h9
      have hok : ok1 ads (.slice (some a) len cap) = true := by
        unfold ok1
        simp only [Bool.and_eq_true, decide_eq_true_eq, Bool.or_eq_true, Option.isNone_iff_eq_none]
        exact ⟨⟨⟨hm, hb.2.1⟩, hb.2.2⟩, hspot.imp id (fun h => by rw [h]; rfl)⟩
      refine ⟨hok, ?_⟩
      show Img P (stOfD ads W) t [.slice (some ⟨ads.idxOf a, 0, none⟩) len 0]
      by_cases hl : len = 0
      · subst hl
        exact .slice hu (by omega) [] (.inl rfl) (by simp) (fun i hi => by omega)
      · have hsp : a.spot = none := by rcases hspot with h | h; exact h; omega
        obtain ⟨vs, g1, g2, g3⟩ := elems_img (n := len) (W := W) (ads := ads) hm hsp hz (by omega) (fun i hi => by
          obtain ⟨cs, y, h5, h6⟩ := hrow i hi
          obtain ⟨h9, _, h10⟩ := image_flat (stOfD ads W) fuel e cs y 8 h6 hf
          exact ⟨cs, h5, fun v hv => (ok1_flat (h9 v hv)).1, by rw [map_im_flat h9]; exact h10⟩)
        exact .slice hu (Nat.le_trans hb.2.1 hb.2.2) vs (.inr g1) g2 g3
    · cases h

theorem image_deep {W : World} {ads : List Addr} : ∀ (k fuel : Nat) (t : TypeId) (cs : List Value) (x : DataW H × List MemPlace), DataW.trod enc P W 0 (fun _ => true) true fuel t cs = some x → deepT P k t = true → (∀ a n c, .slice (some a) n c ∈ cs → a ∈ ads) →
    (∀ v ∈ cs, ok1 ads v = true) ∧ Img P (stOfD ads W) t (cs.map (im ads))
  | 0, fuel, t, cs, x, h, hk, _ => by cases hk
  | k + 1, 0, t, cs, x, h, _, _ => by simp [DataW.trod] at h
  | k + 1, fuel + 1, t, cs, x, h, hk, ha => by
    unfold deepT at hk
    rw [Bool.or_eq_true] at hk
    rcases hk with hk | hk
    · obtain ⟨h1, _, h2⟩ := image_flat (stOfD ads W) (fuel + 1) t cs x 8 h hk
      exact ⟨fun v hv => (ok1_flat (h1 v hv)).1, by rw [map_im_flat h1]; exact h2⟩
    · split at hk
      · rename_i e hu
        rw [Bool.and_eq_true] at hk
        have hcs : ∃ v, cs = [v] := by
          unfold DataW.trod at h
          simp only [hu] at h
          split at h <;> try (simp_all; done)
        obtain ⟨v, rfl⟩ := hcs
        obtain ⟨h1, h2⟩ := image_slice (ads := ads) hu hk.1 (by simpa using hk.2) h (fun a n c e => ha a n c (by simp [e]))
        exact ⟨fun u hu => by simp at hu; subst hu; exact h1, h2⟩
      · rename_i fs hu
        rw [Bool.and_eq_true] at hk
        unfold DataW.trod at h
        simp only [hu] at h
        split at h
        · rename_i hlen
          obtain ⟨r, hr, _⟩ := Option.map_eq_some_iff.1 h
          have hrl := mapM_some_length hr
          have hall : ∀ f ∈ fs.toList, (∀ v ∈ (cs.drop f.offset).take (P.cellsOf f.type), ok1 ads v = true) ∧ Img P (stOfD ads W) f.type (((cs.drop f.offset).take (P.cellsOf f.type)).map (im ads)) := by
            intro f hf
            obtain ⟨i, hi, rfl⟩ := List.getElem_of_mem hf
            have h1 := mapM_some_get hr i _ (List.getElem?_eq_getElem hi)
            have h2 : i < r.length := by omega
            rw [List.getElem?_eq_getElem h2] at h1
            exact image_deep k fuel _ _ _ h1 (List.all_eq_true.1 hk.1 _ (List.getElem_mem hi)) (fun a n c hm => ha a n c (List.mem_of_mem_drop (List.mem_of_mem_take hm)))
          refine ⟨fun v hv => ?_, .struct hu (by rw [List.length_map]; exact hlen) (fun f hf => by rw [← List.map_drop, ← List.map_take]; exact (hall f hf).2)⟩
          obtain ⟨c, hc, rfl⟩ := List.getElem_of_mem hv
          have h1 := List.all_eq_true.1 hk.2 c (by simp; omega)
          obtain ⟨f, hf, h2⟩ := List.any_eq_true.1 h1
          simp only [Bool.and_eq_true, Nat.ble_eq, Nat.blt_eq] at h2
          refine (hall f hf).1 _ (List.mem_of_getElem? (i := c - f.offset) ?_)
          rw [List.getElem?_take, if_pos (by omega), List.getElem?_drop, show f.offset + (c - f.offset) = c by omega]
          exact List.getElem?_eq_getElem hc
        · cases h
      · cases hk

/-- The addresses among the arguments, and among what these hold. -/
def adrsD (W : World) (vs : List Value) : List Addr := adrs vs ++ (adrs vs).flatMap fun (a : Addr) => match W.heap[a.block]? with | some (.cells cur _ _) => adrs (cur.toList.drop a.off) | _ => []
theorem adrs_mem {vs : List Value} {a : Addr} {n c : Nat} (h : Value.slice (some a) n c ∈ vs) : a ∈ adrs vs := List.mem_filterMap.2 ⟨_, h, rfl⟩

/-- An argument that holds no slice. -/
theorem open_flatD {W : World} {t : TypeId} {v : Value} {d : DataW H} {p : List MemPlace} {k : Nat} {ads : List Addr} (hf : flatT P k t = true)
    (h : DataW.Trod enc P W 0 (fun _ => true) true t v d p) (ha : (∃ cs, v = .agg cs) ∨ ∃ x, v.cells.toList = [x] ∧ v = x) : VRel (mpOf ads) v v ∧ Img P (stOfD ads W) t v.cells.toList := by
  obtain ⟨fuel, h1⟩ := h
  obtain ⟨h2, _, h3⟩ := image_flat (stOfD ads W) fuel t _ _ k h1 hf
  refine ⟨?_, h3⟩
  rcases ha with ⟨cs, rfl⟩ | ⟨x, hx, rfl⟩
  · refine .agg rfl fun i x y hx hy => ?_
    rw [hx] at hy; cases hy
    exact flat1_rel _ x (h2 x (List.mem_of_getElem? hx))
  · exact flat1_rel _ v (h2 v (by rw [hx]; simp))

/-- An argument that is a slice of elements that hold slices. -/
theorem open_deep {W : World} {base : Nat} {t e : TypeId} {v : Value} {d : DataW H} {p : List MemPlace} {k : Nat} {vs0 : List Value} (hu : P.underlying t = some (.slice e)) (hf : deepT P k e = true) (hz : 0 < P.cellsOf e)
    (hv : Value.okWide P W .any base t v) (h : DataW.Trod enc P W 0 (fun _ => true) true t v d p) (has : v ∈ vs0) : VRel (mpOf (adrsD W vs0)) (im (adrsD W vs0) v) v ∧ Img P (stOfD (adrsD W vs0) W) t [im (adrsD W vs0) v] := by
  obtain ⟨fuel, h1⟩ := h
  cases fuel with
  | zero => simp [DataW.trod] at h1
  | succ fuel =>
    have hok : v = .slice none 0 0 ∨ ∃ b o n c, v = .slice (some ⟨b, o, none⟩) n c := by
      unfold Value.okWide Cell.okWide Cell.ok at hv
      simp only [hu] at hv
      cases v <;> simp at hv
      rename_i a n c
      cases a with
      | none => left; cases n <;> cases c <;> simp at hv ⊢
      | some a =>
        obtain ⟨b, o, sp⟩ := a
        simp only [World.has] at hv
        have : sp = none := hv.2.2.2.1
        subst this
        exact .inr ⟨b, o, n, c, rfl⟩
    rcases hok with rfl | ⟨b, o, n, c, rfl⟩
    · exact ⟨.sl0, .nil hu⟩
    · have hmem0 : (⟨b, o, none⟩ : Addr) ∈ adrs vs0 := adrs_mem has
      have hmem : (⟨b, o, none⟩ : Addr) ∈ adrsD W vs0 := List.mem_append_left _ hmem0
      unfold DataW.trod at h1
      simp only [hu, Value.cells] at h1
      split at h1
      · rename_i hb
        obtain ⟨elems, he, h2⟩ := Option.bind_eq_some_iff.1 h1
        have hel := mapM_some_length he
        simp only [List.length_range] at hel
        have hrow : ∀ i, i < n → ∃ cs y, W.cells? 0 ((⟨b, o, none⟩ : Addr).add (i * P.cellsOf e)) (P.cellsOf e) = some cs ∧ DataW.trod enc P W 0 (fun _ => true) true fuel e cs = some y := by
          intro i hi
          have h3 := mapM_some_get he i i (by simp [hi])
          have h4 : i < elems.length := by omega
          rw [List.getElem?_eq_getElem h4] at h3
          obtain ⟨cs, h5, h6⟩ := Option.bind_eq_some_iff.1 h3
          exact ⟨cs, _, h5, h6⟩
        have hrel : VRel (mpOf (adrsD W vs0)) (im (adrsD W vs0) (.slice (some ⟨b, o, none⟩) n c)) (.slice (some ⟨b, o, none⟩) n c) :=
          VRel.sl (p := ⟨b, o, 0⟩) (idx_mp hmem) hb.2.1 (.inr rfl) (.inl rfl) hb.2.2
        refine ⟨hrel, ?_⟩
        show Img P (stOfD (adrsD W vs0) W) t [.slice (some ⟨(adrsD W vs0).idxOf ⟨b, o, none⟩, 0, none⟩) n 0]
        by_cases hn : n = 0
        · subst hn
          exact .slice hu (by omega) [] (.inl rfl) (by simp) (fun i hi => by omega)
        · obtain ⟨vs, g1, g2, g3⟩ := elems_img (n := n) (W := W) (ads := adrsD W vs0) hmem rfl hz (by omega) (fun i hi => by
            obtain ⟨cs, y, h5, h6⟩ := hrow i hi
            obtain ⟨h7, h8⟩ := cells_inv h5
            have hnest : ∀ a m c', .slice (some a) m c' ∈ cs → a ∈ adrsD W vs0 := fun a m c' hm => by
              obtain ⟨j, hj, hjv⟩ := List.getElem_of_mem hm
              have h10 := h8 j (by omega)
              rw [addr_add, addr_add, List.getElem?_eq_getElem hj, hjv] at h10
              unfold World.cell? at h10
              split at h10
              · rename_i cur el fz hc
                simp only [Option.isSome_none, Bool.false_eq_true, if_false] at h10
                refine List.mem_append_right _ (List.mem_flatMap.2 ⟨⟨b, o, none⟩, hmem0, ?_⟩)
                simp only [hc]
                refine adrs_mem (n := m) (c := c') (List.mem_of_getElem? (i := i * P.cellsOf e + j) ?_)
                rw [List.getElem?_drop, Array.getElem?_toList, ← Nat.add_assoc]
                exact h10
              · cases h10
            obtain ⟨h9, h10⟩ := image_deep k fuel e cs y h6 hf hnest
            exact ⟨cs, h5, h9, h10⟩)
          exact .slice hu (Nat.le_trans hb.2.1 hb.2.2) vs (.inr g1) g2 g3
      · cases h1

theorem stOfD_lt {ads : List Addr} {W : World} {q : Nat} {vs : List Value} (h : (stOfD ads W).cells q = some vs) : q < (stOfD ads W).next := by
  rcases Nat.lt_or_ge q ads.length with h1 | h1
  · exact h1
  · have h2 : ads[q]? = none := List.getElem?_eq_none h1
    simp [St.cells, stOfD, h2] at h
theorem Img.holdsD {α : Type} {ads : List Addr} {W : World} {t e : TypeId} {v : Value} {sz : Nat} (hu : P.underlying t = some (.slice e)) (h : Img P (stOfD ads W) t [v]) (cells : α → List Value) (dec : ∀ row, Img P (stOfD ads W) e row → ∃ a, row = cells a) (hz : ∀ a, (cells a).length = sz) (hc : P.cellsOf e = sz) :
    ∃ (l : List α) (ad : Option Addr), v = .slice ad l.length 0 ∧ l.length ≤ maxLen ∧ Holds (stOfD ads W) sz cells ad l := by
  obtain ⟨l, ad, h1, h2, h3⟩ := h.list hu cells dec (fun a => by rw [hz, hc])
  refine ⟨l, ad, h1, h2, fun hne => ?_⟩
  obtain ⟨q, vs, g1, g2, g3, g4⟩ := h3 hne
  rw [hc] at g3 g4
  refine ⟨q, vs, g1, g2, stOfD_lt g2, g3, fun i a hi j w hj hw => ?_⟩
  have h5 := g4 i a hi
  have h6 : (((vs.drop (i * sz)).take sz))[j]? = some w := by rw [h5]; exact hw
  rw [List.getElem?_take, if_pos hj, List.getElem?_drop] at h6
  exact h6

/-- The call, out of what the abstract machine answers. -/
theorem endsD {env : FuncId → Def} (henv : EnvOK P env) {L n : Nat} {f : FuncId} {ads : List Addr} {W : World} {args args' : List Value} {σ' : St} (h : evCall P env L n f args (stOfD ads W) = some (.bool true, σ')) (hl : LRel (mpOf ads) args args') (hI : Laid.I W := by trivial) :
    Calls P f args'.toArray W fun e W' => e = .returned (.bool true) ∧ Below W.heap.size W W' := by
  refine Calls.mono ((call_sound henv n f args (stOfD ads W) (.bool true) σ' h).2 (Base.of W) (mpOf ads) W args' hl (rel_stOfD ads W hI)) (fun e W' he => ?_)
  cases e with
  | returned v' =>
    obtain ⟨μ', _, h2, h3⟩ := he
    rw [h2.bool_inv]
    exact ⟨rfl, h3.below⟩
  | panicked ch => exact he.elim
  | outgrown => exact he.elim
end

end Go.AM
