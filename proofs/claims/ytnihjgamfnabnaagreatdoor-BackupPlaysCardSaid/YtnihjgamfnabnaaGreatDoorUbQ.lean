import Derived.Test.YtnihjgamfnabnaaGreatDoorUbF
import Derived.Test.YtnihjgamfnabnaaGreatDoorAm13g
set_option linter.unusedVariables false
set_option linter.unusedSimpArgs false
set_option linter.unusedSectionVars false
namespace Go.AM
open Go.RowKit
section
variable [Laid]
variable {W : Base} {μ : Mp} {σ : St} {w : World}
theorem Rel.junk (h : Rel W μ σ w) (ob : Obj) : Rel W μ σ (w.alloc ob) := by
  have hold : ∀ b, b < w.heap.size → (w.alloc ob).heap[b]? = w.heap[b]? := fun b hb => Below.heap_alloc w ob b hb
  have hcell : ∀ a : Addr, a.block < w.heap.size → (w.alloc ob).cell? a = w.cell? a := fun a ha => World.cell?_alloc_lt w _ a ha
  refine ⟨h.below.alloc h.below.size _, h.fresh, fun r p B hp hB => by have := h.lt r p B hp hB; simp; omega, fun r vs e hr => ?_, fun r vs hr => ?_, fun r kv hr => ?_, h.inj, h.laid, fun b o he => (hold b (h.exLt he)).trans (h.extra b o he), h.apart⟩
  · obtain ⟨p, c, hp, hb, hc, hs, hn, hvs⟩ := h.own r vs e hr
    exact ⟨p, c, hp, hb, by rw [hold _ (h.lt _ _ _ hp hr)]; exact hc, hs, hn, hvs⟩
  · obtain ⟨p, hp, hvs⟩ := h.ro r vs hr
    exact ⟨p, hp, fun i v hi => by obtain ⟨v', h1, h2⟩ := hvs i v hi; exact ⟨v', by rw [hcell _ (h.lt _ _ _ hp hr)]; exact h1, h2⟩⟩
  · obtain ⟨p, es, ck, hp, hb, hm, hlen, hk⟩ := h.mp r kv hr
    exact ⟨p, es, ck, hp, hb, by rw [hold _ (h.lt _ _ _ hp hr)]; exact hm, hlen, hk⟩
theorem Rel.setCell (hr : Rel W μ σ w) {t o : Nat} {vs : List Value} {e : TypeId} {v v' : Value} (hg : σ.get t = some (.own vs e)) (ho : o < vs.length) (hv : VRel μ v v') :
    ∃ p old, μ t = some p ∧ w.cell? ⟨p.b, p.s + o, none⟩ = some old ∧ w.frozen? ⟨p.b, p.s + o, none⟩ = false ∧ Rel W μ (σ.set t (.own (over vs o [v]) e)) (w.setCell ⟨p.b, p.s + o, none⟩ v') := by
  obtain ⟨p, cur, hp, hc, hfit, hrel⟩ := hr.put (off := o) (new := [v]) (new' := [v']) hg (by simp; omega) (.cons hv (.nil μ))
  simp only [List.length_singleton] at hfit
  have hcur : cur[p.s + o]? = some (cur[p.s + o]'(by omega)) := Array.getElem?_eq_getElem (by omega)
  refine ⟨p, _, hp, by simp only [World.cell?, hc]; exact hcur, by simp [World.frozen?, hc], ?_⟩
  have : w.setCell ⟨p.b, p.s + o, none⟩ v' = w.setRow p.b (cur.toList.take (p.s + o) ++ [v'] ++ cur.toList.drop (p.s + o + [v'].length)).toArray := by
    have hk : p.s + o < cur.size := by omega
    have hset : cur.setIfInBounds (p.s + o) v' = (cur.toList.take (p.s + o) ++ [v'] ++ cur.toList.drop (p.s + o + [v'].length)).toArray := by
      apply Array.ext'
      rw [Array.toList_setIfInBounds, List.set_eq_take_append_cons_drop, if_pos (by simpa using hk)]
      simp
    unfold World.setCell World.setRow
    congr 1
    apply Array.ext_getElem?
    intro i
    rw [Array.getElem?_modify, Array.getElem?_modify]
    by_cases hi : p.b = i
    · subst hi
      rw [if_pos rfl, if_pos rfl, hc]
      simp only [Option.map_some, Option.isSome_none, Bool.false_eq_true, if_false]
      rw [hset]
    · rw [if_neg hi, if_neg hi]
  rw [this]
  exact hrel
end
namespace Td
open Go.Proofs
instance tdLaid : Laid := ⟨fun W => W.cell? ⟨0, 0, none⟩ = some (.iface 216 (.agg #[.pointer (some ⟨1, 29, none⟩)]))⟩
def asG (args : List Value) (σ : St) : Res :=
  match args with
  | [.nilIface, _] => some (.bool false, σ)
  | [.iface T x, .iface U (.pointer (some ⟨t, o, none⟩))] =>
    match σ.get t with
    | some (.own vs _) =>
      if o < vs.length then
        if U = 212 ∧ T = 162 then (match x with | .pointer (some ⟨q, p, none⟩) => σ.put t o [.pointer (some ⟨q, p, none⟩)] fun σ' => some (.bool true, σ') | _ => none)
        else if U = 212 ∧ T = 70 then (match x with | .int .i64 _ => some (.bool false, σ) | _ => none)
        else if U = 146 ∧ T = 70 then (match x with | .int .i64 c => σ.put t o [.int .i64 c] fun σ' => some (.bool true, σ') | _ => none)
        else if U = 146 ∧ T = 162 then (match x with | .pointer (some ⟨q, p, none⟩) => (σ.ld q (p + 2) fun y => (match y with | .iface 70 (.int .i64 c) => σ.put t o [.int .i64 c] fun σ' => some (.bool true, σ') | .iface 162 (.pointer (some ⟨q2, p2, none⟩)) => (σ.ld q2 (p2 + 2) fun y2 => (match y2 with | .iface 70 (.int .i64 c) => σ.put t o [.int .i64 c] fun σ' => some (.bool true, σ') | _ => none)) | _ => none)) | _ => none)
        else none
      else none
    | _ => none
  | _ => none
theorem primAs : PrimOK Tryz.prog 70 asG := by
  intro f args σ v σ' h
  by_cases hf : f = 70
  case neg => simp [hf] at h
  subst hf
  simp only [if_true] at h
  refine ⟨⟨_, Tryz.func70, by decide, rfl⟩, fun W μ w args' hl hr => ?_⟩
  have hlaid : W.w.cell? ⟨0, 0, none⟩ = some (.iface 216 (.agg #[.pointer (some ⟨1, 29, none⟩)])) := hr.laid
  have hW0 : 0 < W.heap.size := by
    rcases Nat.eq_zero_or_pos W.heap.size with h0 | h
    · simp [World.cell?, h0] at hlaid
    · exact h
  have hg : w.cell? ⟨0, 0, none⟩ = some (.iface 216 (.agg #[.pointer (some ⟨1, 29, none⟩)])) := by
    simp only [World.cell?, hr.below.block 0 hW0]; exact hlaid
  unfold asG at h
  split at h
  · -- nil
    obtain ⟨y, m, rfl, h1, h2⟩ := hl.inv
    obtain ⟨y2, m2, rfl, h3, h4⟩ := h2.inv
    have := h4.inv_nil
    subst this
    rw [h1.nilIface_inv]
    cases h
    refine (as_nil y2 w).mono fun e w' ⟨he, hw⟩ => ?_
    subst he; subst hw
    exact ⟨μ, Mp.le.refl μ, .bool _, hr⟩
  · rename_i T x U t o
    obtain ⟨y, m, rfl, h1, h2⟩ := hl.inv
    obtain ⟨y2, m2, rfl, h3, h4⟩ := h2.inv
    have := h4.inv_nil
    subst this
    obtain ⟨x', rfl, hx⟩ := h1.iface_inv
    obtain ⟨pt', rfl, hpt⟩ := h3.iface_inv
    obtain ⟨p, hp, rfl⟩ := hpt.ptr_inv
    split at h
    case h_2 => cases h
    rename_i vs e hgt
    split at h
    case isFalse => cases h
    rename_i ho
    split at h
    · -- a fault, for a fault
      rename_i hUT
      obtain ⟨rfl, rfl⟩ := hUT
      split at h
      case h_2 => cases h
      rename_i q pp
      obtain ⟨pq, hpq, rfl⟩ := hx.ptr_inv
      have hput : σ.put t o [.pointer (some ⟨q, pp, none⟩)] (fun σ' => some (.bool true, σ')) = some (.bool true, σ.set t (.own (over vs o [.pointer (some ⟨q, pp, none⟩)]) e)) := put_own _ hgt (by simp; omega) rfl
      rw [hput] at h
      cases h
      have hr4 := ((((hr.junk (.cells #[.pointer (some ⟨p.b, p.s + o, none⟩)] 212)).junk (.cells #[.pointer (some ⟨1, 212, none⟩), .pointer (some ⟨w.heap.size, 0, none⟩), .int .u64 150] 194)).junk (.cells #[.pointer (some ⟨1, 212, none⟩), .pointer (some ⟨w.heap.size, 0, none⟩), .int .u64 150] 194)).junk (.cells #[.pointer (some ⟨pq.b, pq.s + pp, none⟩)] 162))
      obtain ⟨p0, old0, hp0, ho0, hf0, _⟩ := hr.setCell hgt ho hx
      obtain ⟨p1, _, hp1, _, _, hrel⟩ := hr4.setCell hgt ho hx
      rw [hp] at hp0 hp1
      cases hp0; cases hp1
      refine (as_hit _ _ old0 w hg ho0 hf0).mono fun ev w' ⟨he, hw⟩ => ?_
      subst he; subst hw
      exact ⟨μ, Mp.le.refl μ, .bool _, hrel⟩
    split at h
    · -- a number, for a fault
      rename_i hUT
      obtain ⟨rfl, rfl⟩ := hUT
      split at h
      case h_2 => cases h
      rename_i c
      cases h
      rw [hx.int_inv]
      obtain ⟨p0, old0, hp0, ho0, hf0, _⟩ := hr.setCell hgt ho (.bool true)
      rw [hp] at hp0
      cases hp0
      refine (as_miss _ _ old0 w hg ho0 hf0).mono fun ev w' ⟨he, hw⟩ => ?_
      subst he; subst hw
      exact ⟨μ, Mp.le.refl μ, .bool _, ((hr.junk _).junk _).junk _⟩
    split at h
    · -- a number, for a number
      rename_i hUT
      obtain ⟨rfl, rfl⟩ := hUT
      split at h
      case h_2 => cases h
      rename_i c
      have hput : σ.put t o [.int .i64 c] (fun σ' => some (.bool true, σ')) = some (.bool true, σ.set t (.own (over vs o [.int .i64 c]) e)) := put_own _ hgt (by simp; omega) rfl
      rw [hput] at h
      cases h
      rw [hx.int_inv]
      have hr4 := ((((hr.junk (.cells #[.pointer (some ⟨p.b, p.s + o, none⟩)] 146)).junk (.cells #[.pointer (some ⟨1, 146, none⟩), .pointer (some ⟨w.heap.size, 0, none⟩), .int .u64 150] 194)).junk (.cells #[.pointer (some ⟨1, 146, none⟩), .pointer (some ⟨w.heap.size, 0, none⟩), .int .u64 150] 194)).junk (.cells #[.int .i64 c] 70))
      obtain ⟨p0, old0, hp0, ho0, hf0, _⟩ := hr.setCell hgt ho (.int .i64 c)
      obtain ⟨p1, _, hp1, _, _, hrel⟩ := hr4.setCell hgt ho (.int .i64 c)
      rw [hp] at hp0 hp1
      cases hp0; cases hp1
      refine (as_hitE _ _ old0 w hg ho0 hf0).mono fun ev w' ⟨he, hw⟩ => ?_
      subst he; subst hw
      exact ⟨μ, Mp.le.refl μ, .bool _, hrel⟩
    split at h
    · -- a fault, for a number
      rename_i hUT
      obtain ⟨rfl, rfl⟩ := hUT
      split at h
      case h_2 => cases h
      rename_i q pp
      obtain ⟨pq, hpq, rfl⟩ := hx.ptr_inv
      unfold St.ld St.cell at h
      cases hcs : σ.cells q with
      | none => rw [hcs] at h; cases h
      | some us =>
      rw [hcs] at h
      simp only [Option.bind_some] at h
      cases hu : us[pp + 2]? with
      | none => rw [hu] at h; cases h
      | some y =>
      rw [hu] at h
      simp only at h
      split at h
      case h_3 => cases h
      · rename_i c
        have hput : σ.put t o [.int .i64 c] (fun σ' => some (.bool true, σ')) = some (.bool true, σ.set t (.own (over vs o [.int .i64 c]) e)) := put_own _ hgt (by simp; omega) rfl
        rw [hput] at h
        cases h
        obtain ⟨pq2, hpq2, hcell⟩ := hr.cells hcs
        rw [hpq] at hpq2
        cases hpq2
        obtain ⟨y', hy1, hy2⟩ := hcell _ _ hu
        obtain ⟨z', rfl, hz⟩ := hy2.iface_inv
        rw [hz.int_inv] at hy1
        have hr4 := ((((hr.junk (.cells #[.pointer (some ⟨p.b, p.s + o, none⟩)] 146)).junk (.cells #[.pointer (some ⟨1, 146, none⟩), .pointer (some ⟨w.heap.size, 0, none⟩), .int .u64 150] 194)).junk (.cells #[.pointer (some ⟨1, 146, none⟩), .pointer (some ⟨w.heap.size, 0, none⟩), .int .u64 150] 194)).junk (.cells #[.int .i64 c] 70))
        obtain ⟨p0, old0, hp0, ho0, hf0, _⟩ := hr.setCell hgt ho (.int .i64 c)
        obtain ⟨p1, _, hp1, _, _, hrel⟩ := hr4.setCell hgt ho (.int .i64 c)
        rw [hp] at hp0 hp1
        cases hp0; cases hp1
        refine (as_unw pq.b (pq.s + pp) c _ old0 w hg ho0 hf0 (by rw [← Nat.add_assoc] at hy1; exact hy1)).mono fun ev w' ⟨he, hw⟩ => ?_
        subst he; subst hw
        exact ⟨μ, Mp.le.refl μ, .bool _, hrel⟩
      · rename_i q2 p2
        cases hcs2 : σ.cells q2 with
        | none => rw [hcs2] at h; cases h
        | some us2 =>
        rw [hcs2] at h
        simp only [Option.bind_some] at h
        cases hu2 : us2[p2 + 2]? with
        | none => rw [hu2] at h; cases h
        | some y2 =>
        rw [hu2] at h
        simp only at h
        split at h
        case h_2 => cases h
        rename_i c
        have hput : σ.put t o [.int .i64 c] (fun σ' => some (.bool true, σ')) = some (.bool true, σ.set t (.own (over vs o [.int .i64 c]) e)) := put_own _ hgt (by simp; omega) rfl
        rw [hput] at h
        cases h
        obtain ⟨pq2, hpq2, hcell⟩ := hr.cells hcs
        rw [hpq] at hpq2
        cases hpq2
        obtain ⟨y', hy1, hy2⟩ := hcell _ _ hu
        obtain ⟨z', rfl, hz⟩ := hy2.iface_inv
        obtain ⟨pr, hpr, rfl⟩ := hz.ptr_inv
        obtain ⟨pr2, hpr2, hcell2⟩ := hr.cells hcs2
        rw [hpr] at hpr2
        cases hpr2
        obtain ⟨w1, hw1, hw2⟩ := hcell2 _ _ hu2
        obtain ⟨z2, rfl, hz2⟩ := hw2.iface_inv
        rw [hz2.int_inv] at hw1
        have hr4 := ((((hr.junk (.cells #[.pointer (some ⟨p.b, p.s + o, none⟩)] 146)).junk (.cells #[.pointer (some ⟨1, 146, none⟩), .pointer (some ⟨w.heap.size, 0, none⟩), .int .u64 150] 194)).junk (.cells #[.pointer (some ⟨1, 146, none⟩), .pointer (some ⟨w.heap.size, 0, none⟩), .int .u64 150] 194)).junk (.cells #[.int .i64 c] 70))
        obtain ⟨p0, old0, hp0, ho0, hf0, _⟩ := hr.setCell hgt ho (.int .i64 c)
        obtain ⟨p1, _, hp1, _, _, hrel⟩ := hr4.setCell hgt ho (.int .i64 c)
        rw [hp] at hp0 hp1
        cases hp0; cases hp1
        refine (as_unw2 pq.b (pq.s + pp) pr.b (pr.s + p2) c _ old0 w hg ho0 hf0 (by rw [← Nat.add_assoc] at hy1; exact hy1) (by rw [← Nat.add_assoc] at hw1; exact hw1)).mono fun ev w' ⟨he, hw⟩ => ?_
        subst he; subst hw
        exact ⟨μ, Mp.le.refl μ, .bool _, hrel⟩
    · cases h
  · cases h
end Td
end Go.AM
