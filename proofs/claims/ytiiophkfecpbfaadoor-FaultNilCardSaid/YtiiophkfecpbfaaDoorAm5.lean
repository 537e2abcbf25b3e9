/-
  THE ABSTRACT MACHINE IS SOUND, OPERATION BY OPERATION (fourth part): arithmetic and comparison.
-/
import Derived.Test.YtiiophkfecpbfaaDoorAm4
import Derived.WideLaws
import Derived.LaidEql
set_option linter.unusedVariables false
set_option linter.unusedSimpArgs false
set_option linter.unusedSectionVars false
namespace Go.AM
open Go.RowKit
variable [Laid]

section
variable {P : Program} {o : Oper} {fr : Fr} {r : Value × St}

theorem aInt_inv {op : BinOp} {k : IntKind} {x y : Int} {K : Value → Res} (t : TypeId) (h : aInt op k x y K = some r) :
    ∃ v, K v = some r ∧ (∀ μ, VRel μ v v) ∧ ∀ (k' : IntKind) (w : World), (isShift op = true ∨ k = k') → (binOp op t (.int k x) (.int k' y)).run P w = .ok v w := by
  cases op <;> simp only [aInt] at h <;>
    first
    | exact ⟨_, h, fun μ => by constructor, fun k' w hk => by rcases hk with hk | hk <;> first | (cases hk; done) | (subst hk; simp [binOp, Op.intArith, Op.intBits, Op.intCmp, ibit]; done)⟩
    | (obtain ⟨hb, h1⟩ := need_inv h
       refine ⟨_, h1, fun μ => by constructor, fun k' w hk => ?_⟩
       first
       | (rcases hk with hk | hk
          · cases hk
          · subst hk
            have hne : y ≠ 0 := by simpa using hb
            simp [binOp, Op.intDiv, hne])
       | (have hge : ¬ y < 0 := by have : 0 ≤ y := of_decide_eq_true hb; omega
          simp [binOp, Op.shift, hge]))


theorem eqGuard_int {op : BinOp} {t : TypeId} {x y : Operand} {a b : Value} (w : World) (h : (∃ k n, b = .int k n) ∨ (∃ s, b = .string s) ∨ (∃ c, b = .bool c) ∨ (∃ p, b = .pointer p) ∨ (∃ p n c, b = .slice p n c) ∨ (∃ u v, b = .iface u v)) :
    (eqGuard op t x y a b).run P w = .ok () w := by
  unfold eqGuard
  rcases h with ⟨_, _, rfl⟩ | ⟨_, rfl⟩ | ⟨_, rfl⟩ | ⟨_, rfl⟩ | ⟨_, _, _, rfl⟩ | ⟨_, _, rfl⟩ <;> cases op <;> cases a <;> rfl

theorem isEq_cases {op : BinOp} (h : isEq op = true) : op = .eql ∨ op = .neq := by cases op <;> simp_all [isEq]

theorem run_equal {t : TypeId} {x y : Value} {b : Bool} {w : World} (h : ∀ d, (Op.equalIn (d + 2) t x y).run P w = .ok b w) : (Op.equal t x y).run P w = .ok b w := h 9998
theorem eqIn_bool {t : TypeId} (a b : Bool) (w : World) (hu : P.underlying t = some .bool) : (Op.equal t (.bool a) (.bool b)).run P w = .ok (a == b) w := run_equal fun d => by simp [Op.equalIn, run_underlying hu]
theorem eqIn_ptr {t el : TypeId} (a : Option Addr) (w : World) (hu : P.underlying t = some (.pointer el)) : (Op.equal t (.pointer a) (.pointer none)).run P w = .ok a.isNone w := run_equal fun d => by cases a <;> simp [Op.equalIn, run_underlying hu]
theorem eqIn_sl {t el : TypeId} (a : Option Addr) (n c : Nat) (w : World) (hu : P.underlying t = some (.slice el)) : (Op.equal t (.slice a n c) (.slice none 0 0)).run P w = .ok a.isNone w := run_equal fun d => by cases a <;> simp [Op.equalIn, run_underlying hu]
theorem eqIn_nil {t : TypeId} {ms : Array (String × TypeId)} (w : World) (hu : P.underlying t = some (.interface ms)) : (Op.equal t .nilIface .nilIface).run P w = .ok true w := run_equal fun d => by simp [Op.equalIn, run_underlying hu]
theorem eqIn_held {t u : TypeId} {v : Value} {ms : Array (String × TypeId)} (w : World) (hu : P.underlying t = some (.interface ms)) : (Op.equal t (.iface u v) .nilIface).run P w = .ok false w := run_equal fun d => by simp [Op.equalIn, run_underlying hu]
theorem eqIn_held2 {t u : TypeId} {v : Value} {ms : Array (String × TypeId)} (w : World) (hu : P.underlying t = some (.interface ms)) : (Op.equal t .nilIface (.iface u v)).run P w = .ok false w := run_equal fun d => by simp [Op.equalIn, run_underlying hu]
theorem eqIn_other {t u u' : TypeId} {v v' : Value} {ms : Array (String × TypeId)} (w : World) (hu : P.underlying t = some (.interface ms)) (hne : u ≠ u') : (Op.equal t (.iface u v) (.iface u' v')).run P w = .ok false w := run_equal fun d => by simp [Op.equalIn, run_underlying hu, hne]
theorem eqIn_ints {t u : TypeId} {k : IntKind} {a b : Int} {i : TypeInfo} {ms : Array (String × TypeId)} (w : World) (hu : P.underlying t = some (.interface ms)) (hk : P.underlying u = some (.int k)) (hi : P.info? u = some i) (hc : i.comparable = true) :
    (Op.equal t (.iface u (.int k a)) (.iface u (.int k b))).run P w = .ok (a == b) w := run_equal fun d => by simp [Op.equalIn, run_underlying hu, run_underlying hk, typeInfo, hi, hc]

theorem eqIn_ptrs {t u te : TypeId} {a : Addr} {i j : TypeInfo} {ms : Array (String × TypeId)} (w : World) (hu : P.underlying t = some (.interface ms)) (hk : P.underlying u = some (.pointer te)) (hi : P.info? u = some i) (hc : i.comparable = true) (hj : P.info? te = some j) :
    (Op.equal t (.iface u (.pointer (some a))) (.iface u (.pointer (some a)))).run P w = .ok true w := run_equal fun d => run_equalIn_iface_ptr_same w d a hu hk hi hc hj

/-- '==' and '!=' where both sides are of these forms. -/
def eqForm : Value → Value → Bool
  | .bool _, .bool _ => true
  | .pointer _, .pointer none => true
  | .slice .., .slice .. => true
  | .nilIface, .nilIface => true
  | .nilIface, .iface .. => true
  | .iface .., .nilIface => true
  | .iface .., .iface .. => true
  | .agg _, .agg _ => true
  | _, _ => false
theorem run_binEq {op : BinOp} {t : TypeId} {x y : Value} {b : Bool} {w : World} (hop : isEq op = true) (hf : eqForm x y = true) (h : (Op.equal t x y).run P w = .ok b w) :
    (binOp op t x y).run P w = .ok (.bool (notIf op b)) w := by
  rcases isEq_cases hop with rfl | rfl <;> cases x <;> cases y <;> simp [eqForm] at hf <;> simp [binOp, h, notIf]

/-- One side's kind is known: the run of the whole operation. -/
theorem run_bin {op : BinOp} {t : TypeId} {x y : Operand} {yt : TypeId} {a : Act} {u u' v : Value} {w : World} (ho : o.op = .binOp op t x y yt) (hx : a.eval x = u) (hy : a.eval y = u')
    (hg : (eqGuard op t x y u u').run P w = .ok () w) (hb : (binOp op t u u').run P w = .ok v w) : (execOp a.eval o).run P w = .ok (.value v) w := by
  simp [execOp, ho, hx, hy, hg, hb]

set_option maxHeartbeats 4000000 in
theorem op_binOp {op : BinOp} {x y : Operand} {t yt : TypeId} {K : Value → Res} (ho : o.op = .binOp op t x y yt) (hx : okOpnd x = true) (hy : okOpnd y = true)
    (hagg : ∀ A B, aBin P op t (isConst y) (.agg A) (.agg B) K = some r → ∃ v, K v = some r ∧ (∀ μ, VRel μ v v) ∧ ∀ (μ : Mp) (A' B' : Array Value) (w : World), LRel μ A.toList A'.toList → LRel μ B.toList B'.toList →
      (eqGuard op t x y (.agg A') (.agg B')).run P w = .ok () w ∧ (binOp op t (.agg A') (.agg B')).run P w = .ok v w)
    (h : opnd fr x (fun a => opnd fr y fun b => aBin P op t (isConst y) a b K) = some r) : ∃ v, K v = some r ∧ Reckons P o fr v := by
  obtain ⟨vx, h1, hvx⟩ := opnd_inv hx h
  obtain ⟨vy, h2, hvy⟩ := opnd_inv hy h1
  have hs : ∀ t ∈ opT x, t ∈ slots o := by intro t ht; simp only [slots, ho, Op.operands, List.flatMap_cons, List.flatMap_nil, List.append_nil, List.mem_append]; exact .inl ht
  have hs2 : ∀ t ∈ opT y, t ∈ slots o := by intro t ht; simp only [slots, ho, Op.operands, List.flatMap_cons, List.flatMap_nil, List.append_nil, List.mem_append]; exact .inr ht
  have rx := fun μ a hf => hvx μ a (slots o) hs hf
  have ry := fun μ a hf => hvy μ a (slots o) hs2 hf
  cases vy <;> try (simp only [aBin] at h2; cases h2; done)
  case int k' b =>
    simp only [aBin] at h2
    split at h2
    · rename_i k a
      cases hsh : (isShift op || decide (k = k')) with
      | false => rw [hsh] at h2; simp at h2
      | true =>
        rw [hsh] at h2
        obtain ⟨v, h3, hv, hrun⟩ := aInt_inv t (by simpa using h2)
        refine ⟨v, h3, fun μ a w hf => ⟨v, run_bin ho (rx μ a hf).int_inv (ry μ a hf).int_inv (eqGuard_int w (.inl ⟨_, _, rfl⟩)) (hrun k' w (by simpa using hsh)), hv μ⟩⟩
    · cases h2
  case string b =>
    simp only [aBin] at h2
    obtain ⟨a, e, h3⟩ := asS_inv h2
    subst e
    cases op <;> simp only at h3 <;> try (cases h3; done)
    · obtain ⟨hb, h4⟩ := need_inv h3
      have hsz : ¬ ((a.size + b.size : Nat) : Int) > IntKind.i64.max := by
        have : a.size + b.size ≤ sizeTop := of_decide_eq_true hb
        unfold sizeTop at this
        have hm : IntKind.i64.max = 9223372036854775807 := by decide
        rw [hm]; omega
      refine ⟨_, h4, fun μ ac w hf => ⟨_, run_bin ho (rx μ ac hf).string_inv (ry μ ac hf).string_inv (eqGuard_int w (.inr (.inl ⟨_, rfl⟩))) ?_, .string _⟩⟩
      rw [binOp_string_add]
      simp only [Op.stringOp, if_neg hsz, Sem.run_pure]
    · exact ⟨_, h3, fun μ ac w hf => ⟨_, run_bin ho (rx μ ac hf).string_inv (ry μ ac hf).string_inv (eqGuard_int w (.inr (.inl ⟨_, rfl⟩))) (by rw [binOp_string_eql]; rfl), .bool _⟩⟩
    · exact ⟨_, h3, fun μ ac w hf => ⟨_, run_bin ho (rx μ ac hf).string_inv (ry μ ac hf).string_inv (eqGuard_int w (.inr (.inl ⟨_, rfl⟩))) (by rw [binOp_string_neq]; rfl), .bool _⟩⟩
  case bool b =>
    simp only [aBin] at h2
    obtain ⟨a, e, h3⟩ := asB_inv h2
    subst e
    obtain ⟨hop, h4⟩ := need_inv h3
    obtain ⟨hty, h5⟩ := need_inv h4
    have hu : P.underlying t = some .bool := by split at hty; assumption; cases hty
    refine ⟨_, h5, fun μ ac w hf => ⟨_, run_bin ho (rx μ ac hf).bool_inv (ry μ ac hf).bool_inv (eqGuard_int w (.inr (.inr (.inl ⟨_, rfl⟩)))) ?_, .bool _⟩⟩
    exact run_binEq hop rfl (eqIn_bool _ _ w hu)
  case pointer p =>
    cases p with
    | some p => simp only [aBin] at h2; cases h2
    | none =>
      simp only [aBin] at h2
      obtain ⟨a, e, h3⟩ := asP_inv h2
      subst e
      obtain ⟨hop, h4⟩ := need_inv h3
      obtain ⟨hty, h5⟩ := need_inv h4
      have hu : ∃ el, P.underlying t = some (.pointer el) := by split at hty; exact ⟨_, ‹_›⟩; cases hty
      obtain ⟨el, hu⟩ := hu
      refine ⟨_, h5, fun μ ac w hf => ?_⟩
      have hrx := rx μ ac hf
      generalize hgx : ac.eval x = u at hrx
      cases hrx with
      | ptr0 =>
        refine ⟨_, run_bin ho hgx (ry μ ac hf).ptr0_inv (eqGuard_int w (.inr (.inr (.inr (.inl ⟨_, rfl⟩))))) ?_, .bool _⟩
        exact run_binEq hop rfl (eqIn_ptr _ w hu)
      | ptr hp =>
        refine ⟨_, run_bin ho hgx (ry μ ac hf).ptr0_inv (eqGuard_int w (.inr (.inr (.inr (.inl ⟨_, rfl⟩))))) ?_, .bool _⟩
        exact run_binEq hop rfl (eqIn_ptr _ w hu)
  case slice p n z =>
    cases p with
    | some p => simp only [aBin] at h2; cases h2
    | none =>
      simp only [aBin] at h2
      obtain ⟨a, m, z', e, h3⟩ := asSl_inv h2
      subst e
      obtain ⟨hop, h4⟩ := need_inv h3
      obtain ⟨hty, h5⟩ := need_inv h4
      have hu : ∃ el, P.underlying t = some (.slice el) := by split at hty; exact ⟨_, ‹_›⟩; cases hty
      obtain ⟨el, hu⟩ := hu
      refine ⟨_, h5, fun μ ac w hf => ?_⟩
      have hry : ac.eval y = .slice none 0 0 := by
        rcases (ry μ ac hf).slice_inv with ⟨_, _, _, h⟩ | ⟨_, _, _, _, _, _, h, _⟩
        · exact h
        · cases h
      rcases (rx μ ac hf).slice_inv with ⟨e1, _, _, hgx⟩ | ⟨_, _, _, _, _, _, e1, _, hgx, _⟩
      · subst e1
        refine ⟨_, run_bin ho hgx hry (eqGuard_int w (.inr (.inr (.inr (.inr (.inl ⟨_, _, _, rfl⟩)))))) ?_, .bool _⟩
        exact run_binEq hop rfl (eqIn_sl _ _ _ w hu)
      · subst e1
        refine ⟨_, run_bin ho hgx hry (eqGuard_int w (.inr (.inr (.inr (.inr (.inl ⟨_, _, _, rfl⟩)))))) ?_, .bool _⟩
        exact run_binEq hop rfl (eqIn_sl _ _ _ w hu)
  case nilIface =>
    simp only [aBin] at h2
    obtain ⟨hop, h4⟩ := need_inv h2
    obtain ⟨hty, h5⟩ := need_inv h4
    have hop' : isEq op = true ∧ isConst y = true := by simpa using hop
    have hu : ∃ ms, P.underlying t = some (.interface ms) := by split at hty; exact ⟨_, ‹_›⟩; cases hty
    obtain ⟨ms, hu⟩ := hu
    have hguard : ∀ (u : Value) (w : World), (eqGuard op t x y u .nilIface).run P w = .ok () w := by
      intro u w
      unfold eqGuard
      cases y <;> simp [isConst] at hop'
      cases op <;> cases u <;> first | rfl | (cases x <;> rfl)
    rcases eqNil_inv h5 with ⟨e, h6⟩ | ⟨tt, u, e, h6⟩
    · subst e
      refine ⟨_, h6, fun μ ac w hf => ⟨_, run_bin ho (rx μ ac hf).nilIface_inv (ry μ ac hf).nilIface_inv (hguard _ w) ?_, .bool _⟩⟩
      exact run_binEq hop'.1 rfl (eqIn_nil w hu)
    · subst e
      refine ⟨_, h6, fun μ ac w hf => ?_⟩
      obtain ⟨u', hgx, _⟩ := (rx μ ac hf).iface_inv
      refine ⟨_, run_bin ho hgx (ry μ ac hf).nilIface_inv (hguard _ w) ?_, .bool _⟩
      exact run_binEq hop'.1 rfl (eqIn_held w hu)
  case iface t' u =>
    simp only [aBin] at h2
    cases u <;> try (cases h2; done)
    case int k c =>
      obtain ⟨hop, h4⟩ := need_inv h2
      obtain ⟨hty, h5⟩ := need_inv h4
      have hu : ∃ ms i, P.underlying t = some (.interface ms) ∧ P.underlying t' = some (.int k) ∧ P.info? t' = some i ∧ i.comparable = true := by
        split at hty
        · rename_i ms k' i h1 h2 h3
          have : i.comparable = true ∧ k = k' := by simpa using hty
          obtain ⟨h4, h5⟩ := this
          subst h5
          exact ⟨ms, i, h1, h2, h3, h4⟩
        · cases hty
      obtain ⟨ms, i, hu, hu', hi, hcmp⟩ := hu
      rcases eqErr_inv h5 with ⟨e, h6⟩ | ⟨n, e, h6⟩ | ⟨t2, u2, e, hne, h6⟩
      · subst e
        refine ⟨_, h6, fun μ ac w hf => ?_⟩
        obtain ⟨u', hgy, hu'⟩ := (ry μ ac hf).iface_inv
        refine ⟨_, run_bin ho (rx μ ac hf).nilIface_inv hgy (eqGuard_int w (.inr (.inr (.inr (.inr (.inr ⟨_, _, rfl⟩)))))) ?_, .bool _⟩
        exact run_binEq hop rfl (eqIn_held2 w hu)
      · subst e
        refine ⟨_, h6, fun μ ac w hf => ?_⟩
        obtain ⟨u', hgy, hr⟩ := (ry μ ac hf).iface_inv
        obtain ⟨u2, hgx, hr2⟩ := (rx μ ac hf).iface_inv
        rw [hr.int_inv] at hgy
        rw [hr2.int_inv] at hgx
        refine ⟨_, run_bin ho hgx hgy (eqGuard_int w (.inr (.inr (.inr (.inr (.inr ⟨_, _, rfl⟩)))))) ?_, .bool _⟩
        exact run_binEq hop rfl (eqIn_ints w hu hu' hi hcmp)
      · subst e
        refine ⟨_, h6, fun μ ac w hf => ?_⟩
        obtain ⟨u', hgy, hr⟩ := (ry μ ac hf).iface_inv
        obtain ⟨u2, hgx, hr2⟩ := (rx μ ac hf).iface_inv
        refine ⟨_, run_bin ho hgx hgy (eqGuard_int w (.inr (.inr (.inr (.inr (.inr ⟨_, _, rfl⟩)))))) ?_, .bool _⟩
        exact run_binEq hop rfl (eqIn_other w hu hne)
    case pointer pb =>
      cases pb with
      | none => cases h2
      | some b =>
      obtain ⟨hop, h4⟩ := need_inv h2
      obtain ⟨hty, h5⟩ := need_inv h4
      have hu : ∃ ms te i j, P.underlying t = some (.interface ms) ∧ P.underlying t' = some (.pointer te) ∧ P.info? t' = some i ∧ i.comparable = true ∧ P.info? te = some j := by
        split at hty
        · rename_i ms te i h1 h2 h3
          have : i.comparable = true ∧ (P.info? te).isSome = true := by simpa using hty
          obtain ⟨h4, h5⟩ := this
          obtain ⟨j, hj⟩ := Option.isSome_iff_exists.1 h5
          exact ⟨ms, te, i, j, h1, h2, h3, h4, hj⟩
        · cases hty
      obtain ⟨ms, te, i, j, hu, hu', hi, hcmp, hj⟩ := hu
      rcases eqPtr_inv h5 with ⟨e, h6⟩ | ⟨q, o', e, e2, h6⟩ | ⟨t2, u2, e, hne, h6⟩
      · subst e
        refine ⟨_, h6, fun μ ac w hf => ?_⟩
        obtain ⟨u', hgy, hu'⟩ := (ry μ ac hf).iface_inv
        refine ⟨_, run_bin ho (rx μ ac hf).nilIface_inv hgy (eqGuard_int w (.inr (.inr (.inr (.inr (.inr ⟨_, _, rfl⟩)))))) ?_, .bool _⟩
        exact run_binEq hop rfl (eqIn_held2 w hu)
      · subst e; subst e2
        refine ⟨_, h6, fun μ ac w hf => ?_⟩
        obtain ⟨u', hgy, hr⟩ := (ry μ ac hf).iface_inv
        obtain ⟨u2, hgx, hr2⟩ := (rx μ ac hf).iface_inv
        obtain ⟨p1, hp1, e1⟩ := hr.ptr_inv
        obtain ⟨p2, hp2, e2⟩ := hr2.ptr_inv
        rw [hp1] at hp2
        cases hp2
        rw [e1] at hgy
        rw [e2] at hgx
        refine ⟨_, run_bin ho hgx hgy (eqGuard_int w (.inr (.inr (.inr (.inr (.inr ⟨_, _, rfl⟩)))))) ?_, .bool _⟩
        exact run_binEq hop rfl (eqIn_ptrs w hu hu' hi hcmp hj)
      · subst e
        refine ⟨_, h6, fun μ ac w hf => ?_⟩
        obtain ⟨u', hgy, hr⟩ := (ry μ ac hf).iface_inv
        obtain ⟨u2, hgx, hr2⟩ := (rx μ ac hf).iface_inv
        refine ⟨_, run_bin ho hgx hgy (eqGuard_int w (.inr (.inr (.inr (.inr (.inr ⟨_, _, rfl⟩)))))) ?_, .bool _⟩
        exact run_binEq hop rfl (eqIn_other w hu hne)
  case agg B =>
    have h2' := h2
    simp only [aBin] at h2
    cases vx <;> try (simp only [asAgL] at h2; cases h2; done)
    case agg A =>
      obtain ⟨v, h3, hv, hrun⟩ := hagg A B h2'
      refine ⟨v, h3, fun μ ac w hf => ?_⟩
      obtain ⟨A', hgx, hA⟩ := (rx μ ac hf).agg_inv
      obtain ⟨B', hgy, hB⟩ := (ry μ ac hf).agg_inv
      obtain ⟨g1, g2⟩ := hrun μ A' B' w hA hB
      exact ⟨v, run_bin ho hgx hgy g1 g2, hv μ⟩

end
end Go.AM
