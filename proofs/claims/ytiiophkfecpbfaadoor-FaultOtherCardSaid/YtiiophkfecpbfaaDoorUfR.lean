import Derived.Test.YtiiophkfecpbfaaDoorUfF
import Derived.Test.YtiiophkfecpbfaaDoorUfO
import Derived.Test.YtiiophkfecpbfaaDoorUfH
import Derived.Test.YtiiophkfecpbfaaDoorUfI
import Derived.Test.YtiiophkfecpbfaaDoorUfJ
set_option linter.unusedVariables false
set_option linter.unusedSimpArgs false
set_option linter.unusedSectionVars false
namespace Go.AM
open Go.RowKit

section
variable [Laid]
variable {W : Base} {μ : Mp} {σ : St} {w : World}
/-- A block that nobody looks at. -/
theorem Rel.junk (h : Rel W μ σ w) (ob : Obj) : Rel W μ σ (w.alloc ob) := by
  have hold : ∀ b, b < w.heap.size → (w.alloc ob).heap[b]? = w.heap[b]? := fun b hb => Below.heap_alloc w ob b hb
  have hcell : ∀ a : Addr, a.block < w.heap.size → (w.alloc ob).cell? a = w.cell? a := fun a ha => World.cell?_alloc_lt w _ a ha
  refine ⟨h.below.alloc h.below.size _, h.fresh, fun r p B hp hB => by have := h.lt r p B hp hB; simp; omega, fun r vs e hr => ?_, fun r vs hr => ?_, fun r kv hr => ?_, h.inj, h.laid, fun b o he => (hold b (h.exLt he)).trans (h.extra b o he), h.apart⟩
  · obtain ⟨p, c, hp, hb, hc, hs, hn, hvs⟩ := h.own r vs e hr
    exact ⟨p, c, hp, hb, by rw [hold _ (h.lt _ _ _ hp hr)]; exact hc, hs, hn, hvs⟩
  · obtain ⟨p, hp, hvs⟩ := h.ro r vs hr
    exact ⟨p, hp, fun i v hi => by obtain ⟨v', h1, h2⟩ := hvs i v hi; exact ⟨v', by rw [hcell _ (h.lt _ _ _ hp hr)]; exact h1, h2⟩⟩
  · obtain ⟨p, es, ck, hp, hb, hm, hlen, hk⟩ := h.mp r kv hr
    exact ⟨p, es, ck, hp, hb, by rw [hold _ (h.lt _ _ _ hp hr)]; exact hm, hlen, hk⟩

/-- One cell of a block of the call's own. -/
theorem Rel.setCell (hr : Rel W μ σ w) {t o : Nat} {vs : List Value} {e : TypeId} {v v' : Value} (hg : σ.get t = some (.own vs e)) (ho : o < vs.length) (hv : VRel μ v v') :
    ∃ p old, μ t = some p ∧ w.cell? ⟨p.b, p.s + o, none⟩ = some old ∧ w.frozen? ⟨p.b, p.s + o, none⟩ = false ∧ Rel W μ (σ.set t (.own (over vs o [v]) e)) (w.setCell ⟨p.b, p.s + o, none⟩ v') := by
  obtain ⟨p, cur, hp, hc, hfit, hrel⟩ := hr.put (off := o) (new := [v]) (new' := [v']) hg (by simp; omega) (.cons hv (.nil μ))
  simp only [List.length_singleton] at hfit
  have hcur : cur[p.s + o]? = some (cur[p.s + o]'(by omega)) := Array.getElem?_eq_getElem (by omega)
  refine ⟨p, _, hp, by simp only [World.cell?, hc]; exact hcur, by simp [World.frozen?, hc], ?_⟩
  have : w.setCell ⟨p.b, p.s + o, none⟩ v' = w.setRow p.b (cur.toList.take (p.s + o) ++ [v'] ++ cur.toList.drop (p.s + o + [v'].length)).toArray := by
    have hk : p.s + o < cur.size := by omega
    have hset : cur.setIfInBounds (p.s + o) v' = (cur.toList.take (p.s + o) ++ [v'] ++ cur.toList.drop (p.s + o + [v'].length)).toArray := by
      apply Array.ext'
      rw [Array.toList_setIfInBounds, List.set_eq_take_append_cons_drop, if_pos (by simpa using hk)]
      simp
    unfold World.setCell World.setRow
    congr 1
    apply Array.ext_getElem?
    intro i
    rw [Array.getElem?_modify, Array.getElem?_modify]
    by_cases hi : p.b = i
    · subst hi
      rw [if_pos rfl, if_pos rfl, hc]
      simp only [Option.map_some, Option.isSome_none, Bool.false_eq_true, if_false]
      rw [hset]
    · rw [if_neg hi, if_neg hi]
  rw [this]
  exact hrel
end


section
variable [Laid]
variable {W : Base} {μ : Mp} {σ : St} {w w' : World}
/-- Blocks that nobody looks at, draws. -/
theorem Rel.more (h : Rel W μ σ w) (hb : Below w.heap.size w w') : Rel W μ σ w' := by
  have hold : ∀ b, b < w.heap.size → w'.heap[b]? = w.heap[b]? := fun b hb' => hb.block b hb'
  have hcell : ∀ a : Addr, a.block < w.heap.size → w'.cell? a = w.cell? a := fun a ha => by simp only [World.cell?, hold _ ha]
  refine ⟨h.below.trans (hb.mono h.below.size), h.fresh, fun r p B hp hB => by have := h.lt r p B hp hB; have := hb.size; omega, fun r vs e hr => ?_, fun r vs hr => ?_, fun r kv hr => ?_, h.inj, h.laid, fun b o he => (hold b (h.exLt he)).trans (h.extra b o he), h.apart⟩
  · obtain ⟨p, c, hp, hb, hc, hs, hn, hvs⟩ := h.own r vs e hr
    exact ⟨p, c, hp, hb, by rw [hold _ (h.lt _ _ _ hp hr)]; exact hc, hs, hn, hvs⟩
  · obtain ⟨p, hp, hvs⟩ := h.ro r vs hr
    exact ⟨p, hp, fun i v hi => by obtain ⟨v', h1, h2⟩ := hvs i v hi; exact ⟨v', by rw [hcell _ (h.lt _ _ _ hp hr)]; exact h1, h2⟩⟩
  · obtain ⟨p, es, ck, hp, hb, hm, hlen, hk⟩ := h.mp r kv hr
    exact ⟨p, es, ck, hp, hb, by rw [hold _ (h.lt _ _ _ hp hr)]; exact hm, hlen, hk⟩
end
theorem grown_below (w : World) (k : Nat) (os : Array Obj) : Below w.heap.size w (Go.Sort.grow (w.drewN k) os) :=
  ⟨rfl, rfl, rfl, by show w.heap.size ≤ (w.heap ++ os).size; simp, fun b hb => by show (w.heap ++ os)[b]? = w.heap[b]?; rw [Array.getElem?_append_left hb]⟩

end Go.AM
namespace Go.AM.Td
open Go Go.Proofs Go.RowKit

theorem chE_sound {W : Base} {μ : Mp} {σ : St} {w : World} (hr : Rel W μ σ w) : ∀ (n : Nat) (v v' : Value) (r : Option Int), chE σ n v = some r → VRel μ v v' → ∃ m, ChW w v' r m := by
  intro n
  induction n with
  | zero =>
    intro v v' r h hv
    unfold chE at h
    split at h
    · cases h
      obtain ⟨u, rfl, hu⟩ := hv.iface_inv
      rw [hu.int_inv]
      exact ⟨0, .num _⟩
    · cases h
      obtain ⟨u, rfl, hu⟩ := hv.iface_inv
      obtain ⟨pq, _, rfl⟩ := hu.ptr_inv
      exact ⟨0, .other _⟩
    · rename_i h0; cases h0
    · cases h
  | succ n ih =>
    intro v v' r h hv
    unfold chE at h
    split at h
    · cases h
      obtain ⟨u, rfl, hu⟩ := hv.iface_inv
      rw [hu.int_inv]
      exact ⟨0, .num _⟩
    · cases h
      obtain ⟨u, rfl, hu⟩ := hv.iface_inv
      obtain ⟨pq, _, rfl⟩ := hu.ptr_inv
      exact ⟨0, .other _⟩
    · rename_i n' q p h0
      cases h0
      obtain ⟨u, rfl, hu⟩ := hv.iface_inv
      obtain ⟨pq, hpq, rfl⟩ := hu.ptr_inv
      unfold St.ld St.cell at h
      cases hcs : σ.cells q with
      | none => rw [hcs] at h; cases h
      | some us =>
      rw [hcs] at h
      simp only [Option.bind_some] at h
      cases hu : us[p + 2]? with
      | none => rw [hu] at h; cases h
      | some y =>
      rw [hu] at h
      simp only at h
      obtain ⟨pq2, hpq2, hcell⟩ := hr.cells hcs
      rw [hpq] at hpq2
      cases hpq2
      obtain ⟨y', hy1, hy2⟩ := hcell _ _ hu
      rw [← Nat.add_assoc] at hy1
      split at h
      · cases h
        rw [hy2.nilIface_inv] at hy1
        exact ⟨1, .wrapNil _ _ hy1⟩
      · obtain ⟨m, hm⟩ := ih y y' r h hy2
        exact ⟨m + 1, .wrap _ _ _ _ _ hy1 hm⟩
    · cases h

theorem same30 (w : World) (a : Addr) : (binOp .eql 27 (.iface 30 (.pointer (some a))) (.iface 30 (.pointer (some a)))).run Tryd.prog w = .ok (.bool true) w := by
  have h1 : (Tryd.prog.info? 30).map (·.comparable) = some true := by kernel_rfl
  have h2 : (Tryd.prog.info? 32).isSome = true := by kernel_rfl
  obtain ⟨i, hi, hc⟩ := Option.map_eq_some_iff.1 h1
  obtain ⟨j, hj⟩ := Option.isSome_iff_exists.1 h2
  exact run_eql_iface_ptr_same w a Tryd.underlying27 Tryd.underlying30 hi hc hj
theorem same77 (w : World) (a : Addr) : (binOp .eql 27 (.iface 77 (.pointer (some a))) (.iface 77 (.pointer (some a)))).run Tryd.prog w = .ok (.bool true) w := by
  have h1 : (Tryd.prog.info? 77).map (·.comparable) = some true := by kernel_rfl
  have h2 : (Tryd.prog.info? 79).isSome = true := by kernel_rfl
  obtain ⟨i, hi, hc⟩ := Option.map_eq_some_iff.1 h1
  obtain ⟨j, hj⟩ := Option.isSome_iff_exists.1 h2
  exact run_eql_iface_ptr_same w a Tryd.underlying27 Tryd.underlying77 hi hc hj
theorem other30 (w : World) {a b : Addr} {ca cb : Array Value} {ta tb : TypeId} (hne : a ≠ b) (ha : w.heap[a.block]? = some (.cells ca ta (0, 0))) (hb : w.heap[b.block]? = some (.cells cb tb (0, 0))) :
    (binOp .eql 27 (.iface 30 (.pointer (some a))) (.iface 30 (.pointer (some b)))).run Tryd.prog w = .ok (.bool false) w := by
  have h1 : (Tryd.prog.info? 30).map (·.comparable) = some true := by kernel_rfl
  have h2 : (Tryd.prog.info? 32).map (·.size) = some 3 := by kernel_rfl
  obtain ⟨i, hi, hc⟩ := Option.map_eq_some_iff.1 h1
  obtain ⟨j, hj, hs⟩ := Option.map_eq_some_iff.1 h2
  exact run_eql_iface_ptr_other w Tryd.underlying27 Tryd.underlying30 hi hc hj (by rw [hs]; decide) hne ha hb

theorem hitE_sound {W : Base} {μ : Mp} {σ : St} {w : World} (hr : Rel W μ σ w) {T : TypeId} (hT : T = 30 ∨ T = 77) {t : Nat} {pt : Pl} (hpt : μ t = some pt) (ht : isOwn (σ.get t) = true) : ∀ (n : Nat) (v v' : Value), hitE σ T t n v = true → VRel μ v v' → ∃ m, HitW w (.iface T (.pointer (some ⟨pt.b, pt.s + 0, none⟩))) v' m := by
  intro n
  induction n with
  | zero => intro v v' h; cases h
  | succ n ih =>
    intro v v' h hv
    unfold hitE at h
    split at h
    · rename_i h0; cases h0
    · rename_i n' U q p h0
      cases h0
      obtain ⟨u, rfl, hu⟩ := hv.iface_inv
      obtain ⟨pq, hpq, rfl⟩ := hu.ptr_inv
      split at h
      · rename_i h1
        obtain ⟨rfl, rfl, rfl⟩ := h1
        rw [hpt] at hpq
        cases hpq
        refine ⟨0, .here _ _ ?_⟩
        rcases hT with rfl | rfl
        · exact same30 _ _
        · exact same77 _ _
      split at h
      · rename_i h1
        obtain ⟨rfl, h2⟩ := h1
        split at h
        case h_2 => cases h
        rename_i vs e hg
        split at h
        case h_2 => cases h
        rename_i y hy
        obtain ⟨pq2, cur, hp2, _, hheap, _, _, hcell⟩ := hr.own q vs e hg
        rw [hpq] at hp2
        cases hp2
        obtain ⟨y', hy1, hy2⟩ := hcell _ _ hy
        obtain ⟨m, hm⟩ := ih y y' h hy2
        rw [← Nat.add_assoc] at hy1
        refine ⟨m + 1, .step _ _ y' m ?_ (by simp only [World.cell?, hheap]; exact hy1) hm⟩
        by_cases hUT : (30 : TypeId) = T
        · subst hUT
          have hqt : q ≠ t := by
            rcases h2 with h | h
            · exact h
            · exact absurd rfl h
          obtain ⟨vs2, e2, hg2⟩ : ∃ vs2 e2, σ.get t = some (.own vs2 e2) := by
            cases hx : σ.get t with
            | none => rw [hx] at ht; cases ht
            | some B =>
              rw [hx] at ht
              cases B with
              | own vs2 e2 => exact ⟨vs2, e2, rfl⟩
              | ro _ => cases ht
              | mp _ => cases ht
          obtain ⟨pt2, cur2, hp3, _, hheap2, _⟩ := hr.own t vs2 e2 hg2
          rw [hpt] at hp3
          cases hp3
          refine other30 w (fun he => hqt (hr.inj q t _ _ _ _ hg rfl hg2 hpq hpt ?_)) hheap hheap2
          exact congrArg Addr.block he
        · rcases hT with rfl | rfl
          · exact absurd rfl hUT
          · exact run_eql_iface_types (P := Tryd.prog) 30 77 _ _ Tryd.underlying27 (by decide) w
      · cases h
    · cases h

theorem primIs : PrimOK Tryd.prog 21 isG := by
  intro f args σ v σ' h
  by_cases hf : f = 21
  case neg => simp [hf] at h
  subst hf
  simp only [if_true] at h
  refine ⟨⟨_, Tryd.func21, by decide, rfl⟩, fun W μ w args' hl hr => ?_⟩
  unfold isG at h
  split at h
  · obtain ⟨y, m, rfl, h1, h2⟩ := hl.inv
    obtain ⟨y2, m2, rfl, h3, h4⟩ := h2.inv
    have := h4.inv_nil
    subst this
    rw [h1.nilIface_inv]
    obtain ⟨d', rfl, hd⟩ := h3.iface_inv
    rw [hd.int_inv]
    cases h
    refine (Is_nil _ w).mono fun e w' ⟨he, hw⟩ => ?_
    subst he; subst hw
    exact ⟨μ, Mp.le.refl μ, .bool _, hr⟩
  · rename_i T x d
    obtain ⟨y, m, rfl, h1, h2⟩ := hl.inv
    obtain ⟨y2, m2, rfl, h3, h4⟩ := h2.inv
    have := h4.inv_nil
    subst this
    obtain ⟨d', rfl, hd⟩ := h3.iface_inv
    rw [hd.int_inv]
    split at h
    case h_2 => cases h
    rename_i r hc
    cases h
    obtain ⟨k, hk⟩ := chE_sound hr 64 _ _ _ hc h1
    refine (Is_chain d y r k hk).mono fun e w' ⟨he, hw⟩ => ?_
    subst he; subst hw
    exact ⟨μ, Mp.le.refl μ, .bool _, hr⟩
  · rename_i U x T t _
    obtain ⟨y, m, rfl, h1, h2⟩ := hl.inv
    obtain ⟨y2, m2, rfl, h3, h4⟩ := h2.inv
    have := h4.inv_nil
    subst this
    obtain ⟨pt', rfl, hpt⟩ := h3.iface_inv
    obtain ⟨p, hp, rfl⟩ := hpt.ptr_inv
    split at h
    case isFalse => cases h
    rename_i hc
    cases h
    obtain ⟨k, hk⟩ := hitE_sound hr hc.1 hp hc.2.1 66 _ _ hc.2.2 h1
    rcases hc.1 with rfl | rfl
    · refine (Is_hit30 _ y k hk).mono fun e w' ⟨he, hw⟩ => ?_
      subst he; subst hw
      exact ⟨μ, Mp.le.refl μ, .bool _, hr⟩
    · refine (Is_hit77 _ y k hk).mono fun e w' ⟨he, hw⟩ => ?_
      subst he; subst hw
      exact ⟨μ, Mp.le.refl μ, .bool _, hr⟩
  · cases h

theorem primAs : PrimOK Tryd.prog 20 asG := by
  intro f args σ v σ' h
  by_cases hf : f = 20
  case neg => simp [hf] at h
  subst hf
  simp only [if_true] at h
  refine ⟨⟨_, Tryd.func20, by decide, rfl⟩, fun W μ w args' hl hr => ?_⟩
  have hlaid : W.w.cell? ⟨0, 0, none⟩ = some (.iface 81 (.agg #[.pointer (some ⟨4, 27, none⟩)])) := hr.laid.2
  have hW0 : 0 < W.heap.size := by
    rcases Nat.eq_zero_or_pos W.heap.size with h0 | h
    · simp [World.cell?, h0] at hlaid
    · exact h
  have hg : w.cell? ⟨0, 0, none⟩ = some (.iface 81 (.agg #[.pointer (some ⟨4, 27, none⟩)])) := by
    simp only [World.cell?, hr.below.block 0 hW0]; exact hlaid
  unfold asG at h
  split at h
  · -- nil
    obtain ⟨y, m, rfl, h1, h2⟩ := hl.inv
    obtain ⟨y2, m2, rfl, h3, h4⟩ := h2.inv
    have := h4.inv_nil
    subst this
    rw [h1.nilIface_inv]
    cases h
    refine (as_nil y2 w).mono fun e w' ⟨he, hw⟩ => ?_
    subst he; subst hw
    exact ⟨μ, Mp.le.refl μ, .bool _, hr⟩
  · rename_i T x U t o
    obtain ⟨y, m, rfl, h1, h2⟩ := hl.inv
    obtain ⟨y2, m2, rfl, h3, h4⟩ := h2.inv
    have := h4.inv_nil
    subst this
    obtain ⟨x', rfl, hx⟩ := h1.iface_inv
    obtain ⟨pt', rfl, hpt⟩ := h3.iface_inv
    obtain ⟨p, hp, rfl⟩ := hpt.ptr_inv
    split at h
    case h_2 => cases h
    rename_i vs e hgt
    split at h
    case isFalse => cases h
    rename_i ho
    split at h
    · -- a fault, for a fault
      rename_i hUT
      obtain ⟨rfl, rfl⟩ := hUT
      split at h
      case h_2 => cases h
      rename_i q pp
      obtain ⟨pq, hpq, rfl⟩ := hx.ptr_inv
      have hput : σ.put t o [.pointer (some ⟨q, pp, none⟩)] (fun σ' => some (.bool true, σ')) = some (.bool true, σ.set t (.own (over vs o [.pointer (some ⟨q, pp, none⟩)]) e)) := put_own _ hgt (by simp; omega) rfl
      rw [hput] at h
      cases h
      have hr4 := ((((hr.junk (.cells #[.pointer (some ⟨p.b, p.s + o, none⟩)] 43)).junk (.cells #[.pointer (some ⟨4, 43, none⟩), .pointer (some ⟨w.heap.size, 0, none⟩), .int .u64 150] 66)).junk (.cells #[.pointer (some ⟨4, 43, none⟩), .pointer (some ⟨w.heap.size, 0, none⟩), .int .u64 150] 66)).junk (.cells #[.pointer (some ⟨pq.b, pq.s + pp, none⟩)] 30))
      obtain ⟨p0, old0, hp0, ho0, hf0, _⟩ := hr.setCell hgt ho hx
      obtain ⟨p1, _, hp1, _, _, hrel⟩ := hr4.setCell hgt ho hx
      rw [hp] at hp0 hp1
      cases hp0; cases hp1
      refine (as_hit _ _ old0 w hg ho0 hf0).mono fun ev w' ⟨he, hw⟩ => ?_
      subst he; subst hw
      exact ⟨μ, Mp.le.refl μ, .bool _, hrel⟩
    split at h
    · -- a number, for a fault
      rename_i hUT
      obtain ⟨rfl, rfl⟩ := hUT
      split at h
      case h_2 => cases h
      rename_i c
      cases h
      rw [hx.int_inv]
      obtain ⟨p0, old0, hp0, ho0, hf0, _⟩ := hr.setCell hgt ho (.bool true)
      rw [hp] at hp0
      cases hp0
      refine (as_miss _ _ old0 w hg ho0 hf0).mono fun ev w' ⟨he, hw⟩ => ?_
      subst he; subst hw
      exact ⟨μ, Mp.le.refl μ, .bool _, ((hr.junk _).junk _).junk _⟩
    split at h
    · -- an error of errors.New, for a fault
      rename_i hUT
      obtain ⟨rfl, rfl⟩ := hUT
      split at h
      case h_2 => cases h
      rename_i q pp
      cases h
      obtain ⟨pq, hpq, rfl⟩ := hx.ptr_inv
      obtain ⟨p0, old0, hp0, ho0, hf0, _⟩ := hr.setCell hgt ho (.bool true)
      rw [hp] at hp0
      cases hp0
      refine (as_other _ _ old0 w hg ho0 hf0).mono fun ev w' ⟨he, hw⟩ => ?_
      subst he; subst hw
      exact ⟨μ, Mp.le.refl μ, .bool _, ((hr.junk _).junk _).junk _⟩
    split at h
    · -- for a number
      rename_i hU
      subst hU
      split at h
      · rename_i c hc
        have hput : σ.put t o [.int .i64 c] (fun σ' => some (.bool true, σ')) = some (.bool true, σ.set t (.own (over vs o [.int .i64 c]) e)) := put_own _ hgt (by simp; omega) rfl
        rw [hput] at h
        cases h
        obtain ⟨k, hk⟩ := chE_sound hr 64 _ _ _ hc (.iface _ hx)
        have hr4 := ((((hr.junk (.cells #[.pointer (some ⟨p.b, p.s + o, none⟩)] 42)).junk (.cells #[.pointer (some ⟨4, 42, none⟩), .pointer (some ⟨w.heap.size, 0, none⟩), .int .u64 150] 66)).junk (.cells #[.pointer (some ⟨4, 42, none⟩), .pointer (some ⟨w.heap.size, 0, none⟩), .int .u64 150] 66)).junk (.cells #[.int .i64 c] 23))
        obtain ⟨p0, old0, hp0, ho0, hf0, _⟩ := hr.setCell hgt ho (.int .i64 c)
        obtain ⟨p1, _, hp1, _, _, hrel⟩ := hr4.setCell hgt ho (.int .i64 c)
        rw [hp] at hp0 hp1
        cases hp0; cases hp1
        refine (as_chain _ c k _ old0 w hg ho0 hf0 hk).mono fun ev w' ⟨he, hw⟩ => ?_
        subst he; subst hw
        exact ⟨μ, Mp.le.refl μ, .bool _, hrel⟩
      · rename_i hc
        cases h
        obtain ⟨k, hk⟩ := chE_sound hr 64 _ _ _ hc (.iface _ hx)
        obtain ⟨p0, old0, hp0, ho0, hf0, _⟩ := hr.setCell hgt ho (.bool true)
        rw [hp] at hp0
        cases hp0
        refine (as_chain_nil _ k _ old0 w hg ho0 hf0 hk).mono fun ev w' ⟨he, hw⟩ => ?_
        subst he; subst hw
        exact ⟨μ, Mp.le.refl μ, .bool _, ((hr.junk _).junk _).junk _⟩
      · cases h
    · cases h
  · cases h

theorem primItoa : PrimOK Tryd.prog 37 itoaG := by
  intro f args σ v σ' h
  by_cases hf : f = 37
  case neg => simp [hf] at h
  subst hf
  simp only [if_true] at h
  refine ⟨⟨_, Tryd.func37, by decide, rfl⟩, fun W μ w args' hl hr => ?_⟩
  unfold itoaG at h
  split at h
  case h_2 => cases h
  rename_i n
  split at h
  case isFalse => cases h
  rename_i hn
  cases h
  obtain ⟨y, m, rfl, h1, h2⟩ := hl.inv
  have := h2.inv_nil
  subst this
  rw [h1.int_inv]
  have ht0 : Lib.TabIs Tryd.prog W.w "internal/strconv.uint64pow10" .u64 Lib.pow10Tab := hr.laid.1
  have ht : Lib.TabIs Tryd.prog w "internal/strconv.uint64pow10" .u64 Lib.pow10Tab := by
    unfold Lib.TabIs World.var? at *
    have hg : Tryd.prog.globalNamed "internal/strconv.uint64pow10" = some 1 := by kernel_rfl
    rw [hg] at ht0 ⊢
    simp only [Option.bind_some] at ht0 ⊢
    have hlt : 1 < W.w.heap.size := by
      rcases Nat.lt_or_ge 1 W.w.heap.size with h | h
      · exact h
      · rw [Array.getElem?_eq_none h] at ht0; cases ht0
    rw [hr.below.block _ hlt]
    exact ht0
  refine (Any.strconv_Itoa Uf.lays171 n hn.1 hn.2 w ht).mono fun e w' ⟨he, k, os, hw⟩ => ?_
  subst he; subst hw
  exact ⟨μ, Mp.le.refl μ, .string _, hr.more (grown_below _ _ _)⟩
theorem primDigits : PrimOK Tryd.prog 16 itoaG := by
  intro f args σ v σ' h
  by_cases hf : f = 16
  case neg => simp [hf] at h
  subst hf
  simp only [if_true] at h
  refine ⟨⟨_, Tryd.func16, by decide, rfl⟩, fun W μ w args' hl hr => ?_⟩
  unfold itoaG at h
  split at h
  case h_2 => cases h
  rename_i n
  split at h
  case isFalse => cases h
  rename_i hn
  cases h
  obtain ⟨y, m, rfl, h1, h2⟩ := hl.inv
  have := h2.inv_nil
  subst this
  rw [h1.int_inv]
  refine (digits_all n hn.1 hn.2 w).mono fun e w' ⟨he, k, os, hw⟩ => ?_
  subst he; subst hw
  exact ⟨μ, Mp.le.refl μ, .string _, hr.more (grown_below _ _ _)⟩
end Go.AM.Td
