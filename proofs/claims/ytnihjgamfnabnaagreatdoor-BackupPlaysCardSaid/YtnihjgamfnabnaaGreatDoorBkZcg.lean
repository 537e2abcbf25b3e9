/-
  Texts laid together: BkZc, BkZd, BkZe, BkZf, BkZg, BkZj.
-/
import Derived.Test.YtnihjgamfnabnaaGreatDoorBkNg
import Derived.Test.YtnihjgamfnabnaaGreatDoorAm13g
set_option linter.unusedVariables false
set_option linter.unusedSimpArgs false
set_option linter.unusedSectionVars false
namespace Go.AM.Bk
open Go.Proofs
def Kp (σ σ' : St) (R : List (List Nat)) : Prop := ∀ H ∈ R, ∀ q ∈ H, σ'.get q = σ.get q
theorem Kp.refl (σ : St) (R : List (List Nat)) : Kp σ σ R := fun _ _ _ _ => rfl
theorem Kp.trans {a b c : St} {R : List (List Nat)} (h : Kp a b R) (k : Kp b c R) : Kp a c R := fun H hH q hq => (k H hH q hq).trans (h H hH q hq)
theorem ImS.owns {σ0 σ : St} {m d : Nat} {s : IS} {R : List (List Nat)} (h : ImS σ0 σ m d s R) : ∃ F G, Owns σ0 σ (F :: G :: R) := by
  obtain ⟨F, G, w, _, _, h3, _⟩ := h.ex
  exact ⟨F, G, h3⟩
theorem ImS.dis {σ0 σ : St} {m d : Nat} {s : IS} {R : List (List Nat)} (h : ImS σ0 σ m d s R) (i j : Nat) {A B : List Nat} (hij : i ≠ j) (hi : R[i]? = some A) (hj : R[j]? = some B) : ∀ q ∈ A, q ∉ B := by
  obtain ⟨F, G, hO⟩ := h.owns
  exact hO.off (i + 2) (j + 2) (by omega) (by simpa using hi) (by simpa using hj)
theorem ImS.push2 {σ0 σ σ' : St} {m d : Nat} {s : IS} {R : List (List Nat)} {X : List Nat} (h : ImS σ0 σ m d s R) (hs : Same σ σ' []) (hX : ∀ q ∈ X, σ.next ≤ q ∧ q < σ'.next) : ImS σ0 σ' m d s (X :: R) := by
  have hi := h.idle hs
  obtain ⟨F, G, w, a1, a2, a3, a4, a5⟩ := h.ex
  refine ⟨F, G, w, a1.idle hs, a2.same hs (by simp), Owns.third (a3.more hs hX), a4, ?_⟩
  rcases a5 with a5 | ⟨b, mk', bl', done, e1, e2, e3, e4, e5⟩
  · exact .inl a5
  · exact .inr ⟨b, mk', bl', done, e1, e2, e3, e4, by rw [hs.2 b (a3.lt 1 rfl b e3) (by simp)]; exact e5.ex, e5.len⟩
theorem S.Stg.moved {σ σ' : St} {a : Nat} {F : List Nat} {first mark : Int} {rs : List S.Rec} {fast : Nat} (h : S.Stg σ a F first rs fast mark) (hs : ∀ q ∈ F, σ'.get q = σ.get q) (hl : ∀ q ∈ F, q < σ'.next) : S.Stg σ' a F first rs fast mark := by
  obtain ⟨qs, ad, z, rfl, h1, h2, h3⟩ := h.ex
  exact ⟨⟨qs, ad, z, rfl, h1, by rw [hs a (by simp)]; exact h2, h3.moved (fun x hx => hs x (by simp [hx])) (fun x hx => hl x (by simp [hx]))⟩, hl⟩
structure NdX (σ0 σ : St) (nd g m d : Nat) (a : Nat → Nat) (F : Nat → List Nat) (N : NS) (R : List (List Nat)) : Prop where
  im : ImS σ0 σ m d N.im (F 0 :: F 1 :: F 2 :: F 3 :: [nd] :: R)
  nd : σ.get nd = some (.own (ndc d m (a 0) (a 1) (a 2) (a 3) g N.mark) 121)
  st : ∀ v, v < 4 → S.Stg σ (a v) (F v) (N.st v).first (N.st v).rs (N.st v).rs.length (N.st v).mark
theorem fl_get {α : Type} (F : Nat → α) (T : List α) (v : Nat) (h : v < 4) : (F 0 :: F 1 :: F 2 :: F 3 :: T)[v]? = some (F v) := by
  rcases (by omega : v = 0 ∨ v = 1 ∨ v = 2 ∨ v = 3) with rfl | rfl | rfl | rfl <;> rfl
theorem fl_set {α : Type} (F : Nat → α) (T : List α) (v : Nat) (h : v < 4) (X : α) : (F 0 :: F 1 :: F 2 :: F 3 :: T).set v X = upd F v X 0 :: upd F v X 1 :: upd F v X 2 :: upd F v X 3 :: T := by
  rcases (by omega : v = 0 ∨ v = 1 ∨ v = 2 ∨ v = 3) with rfl | rfl | rfl | rfl <;> rfl
theorem ndc_get (d m g : Nat) (a : Nat → Nat) (mark : Int) (v : Nat) (h : v < 4) : (ndc d m (a 0) (a 1) (a 2) (a 3) g mark)[2 + v]? = some (ptr (a v)) := by
  rcases (by omega : v = 0 ∨ v = 1 ∨ v = 2 ∨ v = 3) with rfl | rfl | rfl | rfl <;> rfl
section
variable {σ0 σ : St} {nd g m d : Nat} {a : Nat → Nat} {F : Nat → List Nat} {N : NS} {R : List (List Nat)}
theorem NdX.lt (h : NdX σ0 σ nd g m d a F N R) {H : List Nat} (hH : H ∈ R) : ∀ q ∈ H, q < σ.next := h.im.lt (by simp [hH])
theorem NdX.ndlt (h : NdX σ0 σ nd g m d a F N R) : nd < σ.next := h.im.lt (H := [nd]) (by simp) nd (by simp)
theorem NdX.idle (h : NdX σ0 σ nd g m d a F N R) {σ' : St} (hs : Same σ σ' []) : NdX σ0 σ' nd g m d a F N R :=
  ⟨h.im.idle hs, (hs.2 nd h.ndlt (by simp)).trans h.nd, fun v hv => (h.st v hv).idle hs⟩
theorem NdX.kept (h : NdX σ0 σ nd g m d a F N R) {σ' : St} (hs : Same σ σ' []) : Kp σ σ' R := fun H hH q hq => hs.2 q (h.lt hH q hq) (by simp)
theorem NdX.stg (h : NdX σ0 σ nd g m d a F N R) (v : Nat) (hv : v < 4) : ∀ K : Value → Res, σ.ld nd (2 + v) K = K (ptr (a v)) := fun K => ld_at h.nd (2 + v) _ (ndc_get d m g a N.mark v hv) K
theorem NdX.turn (h : NdX σ0 σ nd g m d a F N R) (v : Nat) (hv : v < 4) {σ' : St} {F' : List Nat} (hT : Turn σ σ' (F v) F') {s : SS} (hS : S.Stg σ' (a v) F' s.first s.rs s.rs.length s.mark) :
    NdX σ0 σ' nd g m d a (upd F v F') { N with st := upd N.st v s } R ∧ Kp σ σ' R := by
  have h1 := h.im.turned v (fl_get F ([nd] :: R) v hv) hT
  rw [fl_set F _ v hv] at h1
  have hne : nd ∉ F v := h.im.dis 4 v (by omega) rfl (fl_get F _ v hv) nd (by simp)
  refine ⟨⟨h1, (hT.same.2 nd h.ndlt hne).trans h.nd, fun u hu => ?_⟩, fun H hH q hq => ?_⟩
  · by_cases e : u = v
    · subst e; dsimp only; rw [upd_same, upd_same]; exact hS
    · dsimp only; rw [upd_ne _ _ e, upd_ne _ _ e]
      exact (h.st u hu).same hT.same (h.im.dis u v e (fl_get F _ u hu) (fl_get F _ v hv))
  · obtain ⟨i, hi⟩ := List.mem_iff_getElem?.1 hH
    exact hT.same.2 q (h.lt hH q hq) (h.im.dis (i + 5) v (by omega) (by simpa using hi) (fl_get F _ v hv) q hq)
theorem NdX.turned (h : NdX σ0 σ nd g m d a F N R) (j : Nat) {A B : List Nat} (hj : R[j]? = some A) {σ' : St} (hT : Turn σ σ' A B) : NdX σ0 σ' nd g m d a F N (R.set j B) := by
  have hj5 : (F 0 :: F 1 :: F 2 :: F 3 :: [nd] :: R)[j + 5]? = some A := hj
  refine ⟨h.im.turned (j + 5) hj5 hT, (hT.same.2 nd h.ndlt (h.im.dis 4 (j + 5) (by omega) rfl hj5 nd (by simp))).trans h.nd, fun v hv => (h.st v hv).same hT.same (h.im.dis v (j + 5) (by omega) (fl_get F _ v hv) hj5)⟩
theorem NdX.image (h : NdX σ0 σ nd g m d a F N R) {σ' : St} {s : IS} (hI : ImS σ0 σ' m d s (F 0 :: F 1 :: F 2 :: F 3 :: [nd] :: R)) (hk : Kp σ σ' (F 0 :: F 1 :: F 2 :: F 3 :: [nd] :: R)) :
    NdX σ0 σ' nd g m d a F { N with im := s } R ∧ Kp σ σ' R := by
  have hm : ∀ v, v < 4 → F v ∈ F 0 :: F 1 :: F 2 :: F 3 :: [nd] :: R := fun v hv => List.mem_of_getElem? (fl_get F _ v hv)
  refine ⟨⟨hI, (hk [nd] (by simp) nd (by simp)).trans h.nd, fun v hv => (h.st v hv).moved (hk _ (hm v hv)) (hI.lt (hm v hv))⟩, fun H hH => hk H (by simp [hH])⟩
theorem four_one (T : List (List Nat)) (nd : Nat) : ∀ (A B C D : List Nat), (A :: B :: C :: D :: [nd] :: T).set 4 [nd] = A :: B :: C :: D :: [nd] :: T := fun _ _ _ _ => rfl
theorem NdX.own (h : NdX σ0 σ nd g m d a F N R) (mark : Int) :
    ∃ σ', (∀ K : St → Res, σ.put nd 7 [.int .i64 mark] K = K σ') ∧ NdX σ0 σ' nd g m d a F { N with mark := mark } R ∧ Kp σ σ' R := by
  refine ⟨_, fun K => put_int h.nd 7 .i64 mark (by simp [ndc]) K, ?_⟩
  have s1 := Same.set σ nd (.own (List.set (ndc d m (a 0) (a 1) (a 2) (a 3) g N.mark) 7 (.int .i64 mark)) 121)
  have g1 : (σ.set nd (.own (List.set (ndc d m (a 0) (a 1) (a 2) (a 3) g N.mark) 7 (.int .i64 mark)) 121)).get nd = some (.own (ndc d m (a 0) (a 1) (a 2) (a 3) g mark) 121) := get_set_same _ _ _
  have n1 : (σ.set nd (.own (List.set (ndc d m (a 0) (a 1) (a 2) (a 3) g N.mark) 7 (.int .i64 mark)) 121)).next = σ.next := rfl
  generalize σ.set nd (.own (List.set (ndc d m (a 0) (a 1) (a 2) (a 3) g N.mark) 7 (.int .i64 mark)) 121) = σ1 at s1 g1 n1
  have hlt := h.ndlt
  have hT : Turn σ σ1 [nd] [nd] := ⟨s1, fun q hq => ⟨.inl hq, by simp at hq; omega⟩⟩
  have h1 := h.im.turned 4 rfl hT
  rw [four_one] at h1
  refine ⟨⟨h1, g1, fun v hv => (h.st v hv).same s1 (fun q hq => h.im.dis v 4 (by omega) (fl_get F _ v hv) rfl q hq)⟩, fun H hH q hq => ?_⟩
  obtain ⟨i, hi⟩ := List.mem_iff_getElem?.1 hH
  exact s1.2 q (h.lt hH q hq) (h.im.dis (i + 5) 4 (by omega) (by simpa using hi) rfl q hq)
end
def Fr (σ σ' : St) (v : Value) (e at_ : Int) : Prop := ∃ q, v = .iface 162 (ptr q) ∧ E.Err σ' v e at_ ∧ σ.next ≤ q ∧ q < σ'.next
theorem Fr.err {σ σ' : St} {v : Value} {e a : Int} (h : Fr σ σ' v e a) : E.Err σ' v e a := h.choose_spec.2.1
theorem Fr.before {σ σ1 σ' : St} {v : Value} {e a : Int} (h : Fr σ1 σ' v e a) (hs : σ.next ≤ σ1.next) : Fr σ σ' v e a := by
  obtain ⟨q, h1, h2, h3, h4⟩ := h
  exact ⟨q, h1, h2, by omega, h4⟩
theorem wrong46 (L k : Nat) (σ : St) (at_ e : Int) (he : e ≠ 0) : ∃ v σ', evCall Tryz.prog env L (k + 2) 46 [.int .i64 at_, .iface 70 (.int .i64 e)] σ = some (v, σ') ∧ Fr σ σ' v e at_ ∧ Same σ σ' [] := by
  rw [f46_eq, f42_eq, eqNil_iface, br_false]
  have hb : ∀ K : Res, eqErr (.iface 70 (.int .i64 e)) 70 .i64 0 (fun v2 => br v2 (some (Value.nilIface, σ)) K) = K := by
    intro K
    have : eqErr (.iface 70 (.int .i64 e)) 70 .i64 0 (fun v2 => br v2 (some (Value.nilIface, σ)) K) = br (e == 0) (some (Value.nilIface, σ)) K := by simp [eqErr]
    rw [this, show (e == 0) = false by simpa using he, br_false]
  rw [hb, need_true, need_of (show oneCell (Value.iface 70 (Value.int .i64 e)) = true from rfl), need_true, bnd_some]
  exact ⟨_, _, rfl, ⟨σ.next, rfl, ⟨σ.next, rfl, get_new_same _ _, by simp⟩, Nat.le_refl _, by simp⟩, Same.new _ _ _⟩
theorem wrong46_nil (L k : Nat) (σ : St) (at_ : Int) : evCall Tryz.prog env L (k + 2) 46 [.int .i64 at_, .nilIface] σ = some (.nilIface, σ) := by
  rw [f46_eq, f42_eq, eqNil_nil, br_true, bnd_some]
  rfl
section
variable {σ0 σ : St} {nd g m d : Nat} {a : Nat → Nat} {F : Nat → List Nat} {N : NS} {R : List (List Nat)} {c : Nat}
theorem ntake_spec (L k : Nat) (h : NdX σ0 σ nd g m d a F N R) (hI : N.Inv c) (hc : c ≤ 899) (v : Nat) (hv : v < 4) (r : S.Rec) :
    ∃ F' σ', evCall Tryz.prog env L (k + 4) 21 [ptr nd, .int .i64 v, r.agg] σ = some (.tuple #[.int .i64 ((N.take v r).st v).last, .nilIface], σ') ∧ NdX σ0 σ' nd g m d a F' (N.take v r) R ∧ Kp σ σ' R := by
  have hv4 := (hI.st v hv)
  have hlen := hv4.len
  have hf1 := hv4.f1
  have e := f21_eq L (k + 3) σ nd (v : Int) r.seq r.kind r.block r.data r.number
  have s1 : Same σ (σ.new (.own [.int .i64 r.seq, .int .i64 r.kind, .int .i64 r.block, .string r.data, .int .i64 r.number] 58)) [] := Same.new _ _ _
  have g1 : (σ.new (.own [.int .i64 r.seq, .int .i64 r.kind, .int .i64 r.block, .string r.data, .int .i64 r.number] 58)).get σ.next = some (.own [.int .i64 r.seq, .int .i64 r.kind, .int .i64 r.block, .string r.data, .int .i64 r.number] 58) := get_new_same _ _
  generalize σ.new (.own [.int .i64 r.seq, .int .i64 r.kind, .int .i64 r.block, .string r.data, .int .i64 r.number] 58) = σ1 at s1 g1 e
  have h1 := h.idle s1
  have iv : inRange (v : Int) 4 = true := by simp [inRange]; omega
  obtain ⟨v2, σ2, g2, rs', F', rfl, hS2, hT2, hor⟩ := S.take_gen (h1.st v hv) L k hf1 (by omega) (by omega) (Nat.le_refl _) r (fun b => b = decide (S.Can r)) (fun σ => by
    obtain ⟨v, σ', g1, e, e2⟩ := S.right_is L k σ r
    exact ⟨v, σ', g1, ⟨_, e, rfl⟩, e2⟩)
  have htk : ((N.take v r).st v).rs = rs' ∧ ((N.take v r).st v).first = (N.st v).first ∧ ((N.take v r).st v).mark = (N.st v).mark := by
    unfold NS.take
    dsimp only
    rw [upd_same]
    unfold SS.take
    rcases hor with ⟨rfl, h1 | h1⟩ | ⟨h1, h2, rfl⟩
    · rw [if_neg (fun h => h1 h.1)]; exact ⟨rfl, rfl, rfl⟩
    · rw [if_neg (fun h => by rw [decide_eq_true h.2] at h1; cases h1)]; exact ⟨rfl, rfl, rfl⟩
    · rw [if_pos ⟨h1, by simpa using h2.symm⟩]; exact ⟨rfl, rfl, rfl⟩
  have hnd2 : nd ∉ F v := h1.im.dis 4 v (by omega) rfl (fl_get F _ v hv) nd (by simp)
  have hn2 : σ2.get nd = _ := (hT2.same.2 nd h1.ndlt hnd2).trans h1.nd
  obtain ⟨σ3, g3, hS3, hT3⟩ := S.sflush_spec hS2 L (k + 2)
  have ho : 2 + Int.toNat (v : Int) * 1 = 2 + v := by simp
  rw [decide_eq_false (by omega), br_false, decide_eq_false (by omega), br_false, need_of iv, ho, h1.stg v hv, asP_p, lds_all (n := 5) g1 rfl, uncons_c, asI_i, uncons_c, asI_i, uncons_c, asI_i, uncons_c, asS_s, uncons_c, asI_i, endl_n] at e
  have g2' : evCall Tryz.prog env L (k + 3) 59 [.pointer (some ⟨a v, 0, none⟩), .agg #[.int .i64 r.seq, .int .i64 r.kind, .int .i64 r.block, .string r.data, .int .i64 r.number]] σ1 = _ := g2
  rw [g2', bnd_some, asI_i, need_of iv, ld_at hn2 (2 + v) _ (ndc_get d m g a N.mark v hv), asP_p, g3, bnd_some, asT_t, toList0, endl_n] at e
  obtain ⟨h3, k3⟩ := h1.turn v hv (hT2.trans hT3) (s := (N.take v r).st v) (by rw [htk.1, htk.2.1, htk.2.2]; exact hS3)
  refine ⟨upd F v F', σ3, ?_, ?_, (h.kept s1).trans k3⟩
  · unfold SS.last
    rw [htk.1, htk.2.1]
    exact e
  · have : ({ N with st := upd N.st v ((N.take v r).st v) } : NS) = N.take v r := by
      unfold NS.take; dsimp only; rw [upd_same]
    rw [this] at h3
    exact h3
theorem ntake_out (L k : Nat) (σ : St) (nd : Nat) (v : Int) (hv : v < 0 ∨ 4 ≤ v) (r : S.Rec) : ∃ e σ', evCall Tryz.prog env L (k + 3) 21 [ptr nd, .int .i64 v, r.agg] σ = some (.tuple #[.int .i64 0, e], σ') ∧ E.Err σ' e 5 v ∧ Same σ σ' [] := by
  have e := f21_eq L (k + 2) σ nd v r.seq r.kind r.block r.data r.number
  have s1 : Same σ (σ.new (.own [.int .i64 r.seq, .int .i64 r.kind, .int .i64 r.block, .string r.data, .int .i64 r.number] 58)) [] := Same.new _ _ _
  generalize σ.new (.own [.int .i64 r.seq, .int .i64 r.kind, .int .i64 r.block, .string r.data, .int .i64 r.number] 58) = σ1 at s1 e
  obtain ⟨w, σ2, g2, hE, s2⟩ := wrong46 L k σ1 v 5 (by decide)
  refine ⟨w, σ2, ?_, hE.err, s1.trans s2⟩
  rcases hv with hv | hv
  · rw [decide_eq_true hv, br_true, g2, bnd_some] at e
    exact e
  · rw [decide_eq_false (by omega), br_false, decide_eq_true hv, br_true, g2, bnd_some] at e
    exact e
theorem ncan_loop (L k : Nat) (hL : 100000 < L) (h : NdX σ0 σ nd g m d a F N R) (hI : N.Inv c) (hc : c ≤ 899) (mk : Int) {l : List Nat} (hl : ∀ v ∈ l, v < 4) (hl4 : l.length ≤ 4) {ad : Option Addr} {z : Nat} {q : List Nat} {σb : St} (hR : Row c1 1 3 σb ad z q (ints l)) : ∀ (n i : Nat) (σ' : St), i ≤ l.length → l.length - i < n → Same σ σ' [] → Same σb σ' [] →
    ∃ σ2, lpAt Tryz.prog env L (k + 3) 58 [true, true, false, true] [] n [(0, ptr nd), (1, .int .i64 mk), (5, .slice ad l.length z), (16, .slice ad l.length z), (17, .int .i64 l.length), (18, .int .i64 i)] σ' = some (.bool ((l.drop i).all (fun v => (upTo (N.st v).rs mk).isSome) && (decide ((N.im.km : Int) < mk) && !l.isEmpty)), σ2) ∧ Same σ' σ2 []
  | 0, i, σ', _, hn, _, _ => by omega
  | n + 1, i, σ', hi, hn, hs, hb => by
    rw [f58_l3]
    have h' := h.idle hs
    by_cases hie : i = l.length
    · subst hie
      rw [decide_eq_false (by omega), br_false, ld_at h'.nd (0 + 1) (ptr m) rfl, asP_p, markS h'.im L (k + 2), bnd_some, asI_i, List.drop_length]
      refine ⟨σ', ?_, Same.refl _ _⟩
      by_cases hm : mk > (N.im.km : Int)
      · rw [decide_eq_true hm, br_true]
        have : decide (((l.length : Nat) : Int) > 0) = !l.isEmpty := by cases l <;> simp <;> omega
        rw [this]; simp
      · rw [decide_eq_false hm, br_false]; simp
    have hget : l[i]? = some l[i] := List.getElem?_eq_getElem (by omega)
    have hlv := hl l[i] (List.getElem_mem _)
    have hdr : l.drop i = l[i] :: l.drop (i + 1) := List.drop_eq_getElem_cons (by omega)
    generalize l[i] = v at *
    obtain ⟨p, e, hat⟩ := (hR.same hb (by simp)).at (fun _ => rfl) (i := i) (a := (v : Int)) (by unfold ints; rw [List.getElem?_map, hget]; rfl)
    subst e
    have hw : IntKind.wrap .i64 ((i : Int) + 1) = ((i + 1 : Nat) : Int) := by rw [wrap_in _ (by omega) (by omega)]; omega
    have hv4 := hI.st v hlv
    have hlen := hv4.len
    have hf1 := hv4.f1
    rw [decide_eq_true (by omega), br_true, need_of (by simp [inRange]; omega), adr_some, hat 0 (.int .i64 v) _ (by omega) rfl (by simp), asI_i, need_of (by simp [inRange]; omega), show 0 + 2 + Int.toNat (v : Int) * 1 = 2 + v by simp, h'.stg v hlv, asP_p]
    rcases S.upto_spec (h'.st v hlv) L k (by omega) (by omega) (Nat.le_refl _) mk with ⟨j, r, ad', z', q', σ2, g2, _, s2, _, _, hj, hh, hno⟩ | ⟨σ2, g2, s2, hno⟩
    · rw [g2, bnd_some, asT_t, toList2, uncons_c, asSl_s, uncons_c, asB_b, endl_n, not_true, br_false, hw]
      obtain ⟨σ3, e3, s3⟩ := ncan_loop L k hL h hI hc mk hl hl4 hR n (i + 1) σ2 (by omega) (by omega) (hs.trans s2) (hb.trans s2)
      refine ⟨σ3, ?_, s2.trans s3⟩
      rw [e3, hdr, List.all_cons, upTo_some hj hh hno]
      rfl
    · rw [g2, bnd_some, asT_t, toList2, uncons_c, asSl_s, uncons_c, asB_b, endl_n, not_false, br_true]
      refine ⟨σ2, ?_, s2⟩
      rw [hdr, List.all_cons, upTo_none (rs := (N.st v).rs) (m := mk) (fun r hr => hno r (by rw [List.take_length]; exact hr))]
      rfl
theorem ncan_spec (L k : Nat) (hL : 100000 < L) (h : NdX σ0 σ nd g m d a F N R) (hI : N.Inv c) (hc : c ≤ 899) {G : List Nat} {gs : GS} (hG : Grp σ g G gs) (mk : Int) :
    ∃ σ', evCall Tryz.prog env L (k + 4) 58 [ptr nd, .int .i64 mk] σ = some (.bool (N.can gs mk), σ') ∧ Same σ σ' [] := by
  obtain ⟨ad, z, q, σ1, g1, hR, s1, _⟩ := atg_spec L (k + 1) (by omega) hG mk
  rw [f58_eq, ld_at h.nd 6 (ptr g) rfl, asP_p, g1, bnd_some, asSl_s]
  have h4 := at_len gs mk
  obtain ⟨σ2, e2, s2⟩ := ncan_loop L k hL h hI hc mk (l := gs.at_ mk) (fun v hv => at_lt hv) h4 hR L 0 σ1 (by omega) (by omega) s1 (Same.refl _ _)
  refine ⟨σ2, ?_, s1.trans s2⟩
  rw [List.drop_zero] at e2
  exact e2
theorem nready_inner (L k m0 : Nat) (hL : 100000 < L) (h : NdX σ0 σ nd g m d a F N R) (hI : N.Inv c) (hc : c ≤ 899) {G : List Nat} {gs : GS} (hG : Grp σ g G gs) (hG2 : ∀ q ∈ G, q < σ.next) {v : Nat} (hv : v < 4) {l : List Int} (hl : l.length ≤ 1000) {ad : Option Addr} {z : Nat} {q : List Nat} {σb : St} (hR : Row c1 1 3 σb ad z q l) : ∀ (n i : Nat) (out : Int) (σ' : St), i ≤ l.length → l.length - i < n → Same σ σ' [] → Same σb σ' [] →
    ∃ σ2, lpAt Tryz.prog env L (k + 4) 19 [true, true, true, false, true, false, true, true, false, true, true] [m0] n [(0, ptr nd), (3, .int .i64 out), (13, .agg [ptr (a 0), ptr (a 1), ptr (a 2), ptr (a 3)].toArray), (14, .int .i64 v), (18, .slice ad l.length z), (19, .int .i64 l.length), (20, .int .i64 i)] σ' =
      lpAt Tryz.prog env L (k + 4) 19 [true, true, true, false, true] [] m0 [(0, ptr nd), (3, .int .i64 (rdyL (N.can gs) out (l.drop i))), (13, .agg [ptr (a 0), ptr (a 1), ptr (a 2), ptr (a 3)].toArray), (14, .int .i64 ((v + 1 : Nat) : Int))] σ2 ∧ Same σ' σ2 []
  | 0, i, out, σ', _, hn, _, _ => by omega
  | n + 1, i, out, σ', hi, hn, hs, hb => by
    rw [f19_l8]
    by_cases hie : i = l.length
    · subst hie
      have hw : IntKind.wrap .i64 ((v : Int) + 1) = ((v + 1 : Nat) : Int) := by rw [wrap_in _ (by omega) (by omega)]; omega
      rw [decide_eq_false (by omega), br_false, List.drop_length, hw]
      exact ⟨σ', rfl, Same.refl _ _⟩
    have hget : l[i]? = some l[i] := List.getElem?_eq_getElem (by omega)
    have hdr : l.drop i = l[i] :: l.drop (i + 1) := List.drop_eq_getElem_cons (by omega)
    generalize l[i] = mk at *
    obtain ⟨p, e, hat⟩ := (hR.same hb (by simp)).at (fun _ => rfl) hget
    subst e
    have hw : IntKind.wrap .i64 ((i : Int) + 1) = ((i + 1 : Nat) : Int) := by rw [wrap_in _ (by omega) (by omega)]; omega
    rw [decide_eq_true (by omega), br_true, need_of (by simp [inRange]; omega), adr_some, hat 0 (.int .i64 mk) _ (by omega) rfl (by simp), asI_i, hdr, hw]
    unfold rdyL
    by_cases ho : mk > out
    · obtain ⟨σ2, g2, s2⟩ := ncan_spec L k hL (h.idle hs) hI hc (hG.idle hs) mk
      rw [decide_eq_true ho, br_true, g2, bnd_some, asB_b]
      cases hcn : N.can gs mk with
      | true =>
        rw [br_true, if_pos ⟨by omega, rfl⟩]
        obtain ⟨σ3, e3, s3⟩ := nready_inner L k m0 hL h hI hc hG hG2 hv hl hR n (i + 1) mk σ2 (by omega) (by omega) (hs.trans s2) (hb.trans s2)
        exact ⟨σ3, e3, s2.trans s3⟩
      | false =>
        rw [br_false, if_neg (by simp)]
        obtain ⟨σ3, e3, s3⟩ := nready_inner L k m0 hL h hI hc hG hG2 hv hl hR n (i + 1) out σ2 (by omega) (by omega) (hs.trans s2) (hb.trans s2)
        exact ⟨σ3, e3, s2.trans s3⟩
    · rw [decide_eq_false ho, br_false, if_neg (fun hx => ho hx.1)]
      exact nready_inner L k m0 hL h hI hc hG hG2 hv hl hR n (i + 1) out σ' (by omega) (by omega) hs hb
def NS.marksFrom (N : NS) (v : Nat) : List Int := ((List.range 4).drop v).flatMap fun v => S.marksOf (N.st v).rs
theorem range_drop (v : Nat) (hv : v < 4) : (List.range 4).drop v = v :: (List.range 4).drop (v + 1) := by
  rcases (by omega : v = 0 ∨ v = 1 ∨ v = 2 ∨ v = 3) with rfl | rfl | rfl | rfl <;> rfl
theorem ptr_nth (a : Nat → Nat) (v : Nat) (h : v < 4) (K : Value → Res) : nth [ptr (a 0), ptr (a 1), ptr (a 2), ptr (a 3)] (Int.toNat (v : Int) * 1) K = K (ptr (a v)) := by
  rcases (by omega : v = 0 ∨ v = 1 ∨ v = 2 ∨ v = 3) with rfl | rfl | rfl | rfl <;> rfl
theorem nready_outer (L k : Nat) (hL : 100000 < L) (h : NdX σ0 σ nd g m d a F N R) (hI : N.Inv c) (hc : c ≤ 899) {G : List Nat} {gs : GS} (hG : Grp σ g G gs) : ∀ (n v : Nat) (out : Int) (σ' : St), v ≤ 4 → 4 - v < n → Same σ σ' [] →
    ∃ σ2, lpAt Tryz.prog env L (k + 4) 19 [true, true, true, false, true] [] n [(0, ptr nd), (3, .int .i64 out), (13, .agg [ptr (a 0), ptr (a 1), ptr (a 2), ptr (a 3)].toArray), (14, .int .i64 v)] σ' = some (.int .i64 (rdyL (N.can gs) out (N.marksFrom v)), σ2) ∧ Same σ' σ2 []
  | 0, v, out, σ', _, hn, _ => by omega
  | n + 1, v, out, σ', hv, hn, hs => by
    have el := f19_l5 L (k + 4) n σ' nd 0 out (some ⟨a 0, 0, none⟩) (some ⟨a 1, 0, none⟩) (some ⟨a 2, 0, none⟩) (some ⟨a 3, 0, none⟩) (v : Int)
    by_cases hv4 : v = 4
    · subst hv4
      rw [decide_eq_false (by decide), br_false] at el
      exact ⟨σ', el, Same.refl _ _⟩
    have hi := hI.st v (by omega)
    have hlen := hi.len
    have hf1 := hi.f1
    obtain ⟨v2, σ2, g2, ad, z, q, rfl, hR, s2, _⟩ := S.marks_spec ((h.idle hs).st v (by omega)) L (k + 2) (by omega) (by omega) (Nat.le_refl _)
    rw [List.take_length] at hR g2
    have hml := S.marksOf_len (N.st v).rs
    rw [decide_eq_true (by omega), br_true, need_of (by simp [inRange]; omega), show ∀ K : Value → Res, nth [Value.pointer (some ⟨a 0, 0, none⟩), Value.pointer (some ⟨a 1, 0, none⟩), Value.pointer (some ⟨a 2, 0, none⟩), Value.pointer (some ⟨a 3, 0, none⟩)] (Int.toNat (v : Int) * 1) K = K (ptr (a v)) from fun K => ptr_nth a v (by omega) K, asP_p, g2, bnd_some, asSl_s] at el
    obtain ⟨σ3, e3, s3⟩ := nready_inner L k n hL h hI hc hG hG.lt (v := v) (by omega) (l := S.marksOf (N.st v).rs) (by omega) hR L 0 out σ2 (by omega) (by omega) (hs.trans s2) (Same.refl _ _)
    rw [List.drop_zero] at e3
    obtain ⟨σ4, e4, s4⟩ := nready_outer L k hL h hI hc hG n (v + 1) (rdyL (N.can gs) out (S.marksOf (N.st v).rs)) σ3 (by omega) (by omega) ((hs.trans s2).trans s3)
    refine ⟨σ4, el.trans (e3.trans (e4.trans ?_)), (s2.trans s3).trans s4⟩
    have : N.marksFrom v = S.marksOf (N.st v).rs ++ N.marksFrom (v + 1) := by unfold NS.marksFrom; rw [range_drop v (by omega), List.flatMap_cons]
    rw [this, rdyL_app]
theorem nready_spec (L k : Nat) (hL : 100000 < L) (h : NdX σ0 σ nd g m d a F N R) (hI : N.Inv c) (hc : c ≤ 899) {G : List Nat} {gs : GS} (hG : Grp σ g G gs) :
    ∃ σ', evCall Tryz.prog env L (k + 5) 19 [ptr nd] σ = some (.int .i64 (N.ready gs), σ') ∧ Same σ σ' [] := by
  rw [f19_eq, lds_own (n := 4) _ h.nd (by simp [ndc])]
  show ∃ σ', (uncons [ptr (a 0), ptr (a 1), ptr (a 2), ptr (a 3)] _) = _ ∧ _
  rw [uncons_c, asP_p, uncons_c, asP_p, uncons_c, asP_p, uncons_c, asP_p, endl_n]
  obtain ⟨σ2, e2, s2⟩ := nready_outer L k hL h hI hc hG L 0 0 σ (by omega) (by omega) (Same.refl _ _)
  exact ⟨σ2, e2, s2⟩
end
end Go.AM.Bk

namespace Go.AM.Bk
open Go.Proofs
theorem strs_set32 (b : List ByteArray) (v : Nat) (x : Int) (hx : 0 ≤ x) (s : ByteArray) : (strs b).set (0 + Int.toNat (v : Int) * 8 + Int.toNat x * 1) (.string s) = strs (b.set (8 * v + x.toNat) s) := by
  rw [strs_set]; congr 2; simp; omega
theorem replay_snoc (b : List ByteArray) (v : Nat) (l : List S.Rec) (r : S.Rec) : replay b v (l ++ [r]) = if r.kind = 1 then (replay b v l).set (8 * v + r.block.toNat) r.data else replay b v l := by
  unfold replay; rw [List.foldl_append]; rfl
section
variable {σ0 σ : St} {nd g m d : Nat} {a : Nat → Nat} {F : Nat → List Nat} {N : NS} {R : List (List Nat)} {c : Nat}
theorem nbegin_inner (L k m0 : Nat) {p : Nat} {mk : Int} {ad1 : Option Addr} {n1 z1 : Nat} {s43 : Int} {i1 : Nat} (hi1 : i1 ≤ 10) {v : Nat} (hv : v < 4) {b : List ByteArray} (hb : b.length = 32) {l : List S.Rec} (hl : l.length ≤ 1000) (hcan : ∀ r ∈ l, S.Can r) {ad : Option Addr} {z : Nat} {q : List Nat} (hp : p ∉ q) : ∀ (n i : Nat) (σ : St), i ≤ l.length → l.length - i < n → Row S.c5 5 58 σ ad z q l → σ.get p = some (.own (strs (replay b v (l.take i))) 45) → p < σ.next →
    ∃ σ2, lpAt Tryz.prog env L k 22 [true, true, true, true, true, false, true, false, true, true, false, true, true, true] [m0] n [(0, ptr nd), (4, .int .i64 mk), (5, ptr p), (7, .int .i64 v), (42, .slice ad1 n1 z1), (43, .int .i64 s43), (44, .int .i64 i1), (59, .slice ad l.length z), (60, .int .i64 l.length), (61, .int .i64 i)] σ =
      lpAt Tryz.prog env L k 22 [true, true, true, true, true, false, true] [] m0 [(0, ptr nd), (4, .int .i64 mk), (5, ptr p), (42, .slice ad1 n1 z1), (43, .int .i64 s43), (44, .int .i64 ((i1 + 1 : Nat) : Int))] σ2 ∧ σ2.get p = some (.own (strs (replay b v l)) 45) ∧ Same σ σ2 [p]
  | 0, i, σ, _, hn, _, _, _ => by omega
  | n + 1, i, σ, hi, hn, hR, hg, hpl => by
    rw [f22_l14]
    by_cases hie : i = l.length
    · subst hie
      have hw : IntKind.wrap .i64 ((i1 : Int) + 1) = ((i1 + 1 : Nat) : Int) := by rw [wrap_in _ (by omega) (by omega)]; omega
      rw [decide_eq_false (by omega), br_false, hw]
      rw [List.take_length] at hg
      exact ⟨σ, rfl, hg, Same.refl _ _⟩
    have hget : l[i]? = some l[i] := List.getElem?_eq_getElem (by omega)
    have hri := hcan l[i] (List.getElem_mem _)
    have htk : l.take (i + 1) = l.take i ++ [l[i]] := by rw [List.take_add_one, hget]; rfl
    obtain ⟨w, e, hld⟩ := hR.lds (fun _ => rfl) hget
    generalize l[i] = r at *
    subst e
    have hw : IntKind.wrap .i64 ((i : Int) + 1) = ((i + 1 : Nat) : Int) := by rw [wrap_in _ (by omega) (by omega)]; omega
    rw [decide_eq_true (by omega), br_true, need_of (by simp [inRange]; omega), adr_some, hld _ (by simp)]
    unfold S.c5
    rw [uncons_c, asI_i, uncons_c, asI_i, uncons_c, asI_i, uncons_c, asS_s, uncons_c, asI_i, endl_n]
    obtain ⟨σ1, hput, g1, s1, n1'⟩ := tmp_put σ [.int .i64 0, .int .i64 0, .int .i64 0, .string ⟨#[]⟩, .int .i64 0] [.int .i64 r.seq, .int .i64 r.kind, .int .i64 r.block, .string r.data, .int .i64 r.number] 58 rfl rfl
    have hg1 : σ1.get p = _ := (s1.2 p hpl (by simp)).trans hg
    rw [hput, ld_at g1 1 _ rfl, asI_i, hw]
    have hrl := replay_len v (l.take i) b
    by_cases hk : r.kind = 1
    · obtain ⟨_, hc1 | hc1⟩ := hri
      rotate_left
      · omega
      obtain ⟨_, hb0, hb7, _⟩ := hc1
      rw [show (r.kind == 1) = true by simpa using hk, br_true, ld_at g1 2 _ rfl, asI_i, ld_at g1 3 _ rfl, asS_s, need_of (by simp [inRange]; omega), need_of (by simp [inRange]; omega), put_at hg1 _ (.string r.data) (by rw [strs_len, hrl, hb]; simp; omega) rfl, strs_set32 _ _ _ hb0]
      have s2 := Same.set σ1 p (.own (strs ((replay b v (l.take i)).set (8 * v + r.block.toNat) r.data)) 45)
      have hrs := replay_snoc b v (l.take i) r
      rw [if_pos hk, ← htk] at hrs
      rw [← hrs] at s2 ⊢
      have s02 : Same σ _ [p] := (s1.mono (by simp)).trans s2
      obtain ⟨σ3, e3, g3, s3⟩ := nbegin_inner L k m0 hi1 hv hb hl hcan hp n (i + 1) _ (by omega) (by omega) (hR.same s02 (fun x hx => by simp; rintro rfl; exact hp hx)) (get_set_same _ _ _) (by simp; omega)
      exact ⟨σ3, e3, g3, s02.trans s3⟩
    · rw [show (r.kind == 1) = false by simpa using hk, br_false]
      have hrs := replay_snoc b v (l.take i) r
      rw [if_neg hk, ← htk] at hrs
      rw [← hrs] at hg1
      obtain ⟨σ3, e3, g3, s3⟩ := nbegin_inner L k m0 hi1 hv hb hl hcan hp n (i + 1) σ1 (by omega) (by omega) (hR.same s1 (by simp)) hg1 (by omega)
      exact ⟨σ3, e3, g3, (s1.mono (by simp)).trans s3⟩
theorem foldl_drop {α β : Type} (f : β → α → β) (x : β) (l : List α) (i : Nat) (y : α) (h : l[i]? = some y) : (l.take (i + 1)).foldl f x = f ((l.take i).foldl f x) y := by
  rw [List.take_add_one, h, List.foldl_append]; rfl
theorem nbegin_outer (L k : Nat) (hL : 100000 < L) (h : NdX σ0 σ nd g m d a F N R) (hI : N.Inv c) (hc : c ≤ 899) {mk : Int} {p : Nat} (hpn : σ.next ≤ p) {l : List Nat} (hl : ∀ v ∈ l, v < 4) (hl4 : l.length ≤ 4) {ad : Option Addr} {z : Nat} {q : List Nat} (hpq : p ∉ q) {b : List ByteArray} (hb : b.length = 32) : ∀ (n i : Nat) (σ' : St), i ≤ l.length → l.length - i < n → Same σ σ' [] → Row c1 1 3 σ' ad z q (ints l) → σ'.get p = some (.own (strs ((l.take i).foldl (N.layOne mk) b)) 45) → p < σ'.next →
    ∃ n' σ2, lpAt Tryz.prog env L (k + 3) 22 [true, true, true, true, true, false, true] [] n [(0, ptr nd), (4, .int .i64 mk), (5, ptr p), (42, .slice ad l.length z), (43, .int .i64 l.length), (44, .int .i64 i)] σ' =
      lpAt Tryz.prog env L (k + 3) 22 [true, true, true, true, true, false, true] [] (n' + 1) [(0, ptr nd), (4, .int .i64 mk), (5, ptr p), (42, .slice ad l.length z), (43, .int .i64 l.length), (44, .int .i64 l.length)] σ2 ∧ Same σ σ2 [] ∧ σ2.get p = some (.own (strs (l.foldl (N.layOne mk) b)) 45) ∧ p < σ2.next
  | 0, i, σ', _, hn, _, _, _, _ => by omega
  | n + 1, i, σ', hi, hn, hs, hR, hg, hpl => by
    by_cases hie : i = l.length
    · subst hie
      rw [List.take_length] at hg
      exact ⟨n, σ', rfl, hs, hg, hpl⟩
    rw [f22_l10]
    have h' := h.idle hs
    have hget : l[i]? = some l[i] := List.getElem?_eq_getElem (by omega)
    have hlv := hl l[i] (List.getElem_mem _)
    have hfd := foldl_drop (N.layOne mk) b l i _ hget
    have hbl := lay_len N mk (l.take i) b
    generalize l[i] = v at *
    obtain ⟨w, e, hat⟩ := hR.at (fun _ => rfl) (i := i) (a := (v : Int)) (by unfold ints; rw [List.getElem?_map, hget]; rfl)
    subst e
    have hv4 := hI.st v hlv
    have hlen := hv4.len
    have hf1 := hv4.f1
    rw [decide_eq_true (by omega), br_true, need_of (by simp [inRange]; omega), adr_some, hat 0 (.int .i64 v) _ (by omega) rfl (by simp), asI_i, need_of (by simp [inRange]; omega), show 0 + 2 + Int.toNat (v : Int) * 1 = 2 + v by simp, h'.stg v hlv, asP_p]
    have step : ∀ {σ2 : St} {ad' : Option Addr} {z' : Nat} {q' : List Nat} {l' : List S.Rec}, Same σ' σ2 [] → Row S.c5 5 58 σ2 ad' z' q' l' → p ∉ q' → l'.length ≤ 1000 → (∀ r ∈ l', S.Can r) → replay ((l.take i).foldl (N.layOne mk) b) v l' = N.layOne mk ((l.take i).foldl (N.layOne mk) b) v →
        ∃ n' σ3, lpAt Tryz.prog env L (k + 3) 22 [true, true, true, true, true, false, true, false, true, true, false, true, true, true] [n] L [(0, ptr nd), (4, .int .i64 mk), (5, ptr p), (7, .int .i64 v), (42, .slice (some ⟨w, 0, none⟩) l.length z), (43, .int .i64 l.length), (44, .int .i64 i), (59, .slice ad' l'.length z'), (60, .int .i64 l'.length), (61, .int .i64 0)] σ2 =
          lpAt Tryz.prog env L (k + 3) 22 [true, true, true, true, true, false, true] [] (n' + 1) [(0, ptr nd), (4, .int .i64 mk), (5, ptr p), (42, .slice (some ⟨w, 0, none⟩) l.length z), (43, .int .i64 l.length), (44, .int .i64 l.length)] σ3 ∧ Same σ σ3 [] ∧ σ3.get p = some (.own (strs (l.foldl (N.layOne mk) b)) 45) ∧ p < σ3.next := by
      intro σ2 ad' z' q' l' s2 hR2 hpq' hl' hcan hrep
      have n2 := s2.1
      obtain ⟨σ3, e3, g3, s3⟩ := nbegin_inner (nd := nd) L (k + 3) n (mk := mk) (ad1 := some ⟨w, 0, none⟩) (n1 := l.length) (z1 := z) (s43 := l.length) (i1 := i) (by omega) hlv (hbl.trans hb) hl' hcan hpq' L 0 σ2 (by omega) (by omega) hR2 (by rw [List.take_zero]; exact (s2.2 p hpl (by simp)).trans hg) (by omega)
      rw [hrep, ← hfd] at g3
      have n3 := s3.1
      have s03 : Same σ σ3 [] := (hs.trans s2).fresh s3 (fun x hx => .inr (by simp at hx; omega))
      obtain ⟨n', σ4, e4, h4⟩ := nbegin_outer L k hL h hI hc hpn hl hl4 hpq hb n (i + 1) σ3 (by omega) (by omega) s03 ((hR.same s2 (by simp)).same s3 (fun x hx => by simp; rintro rfl; exact hpq hx)) g3 (by omega)
      exact ⟨n', σ4, e3.trans e4, h4⟩
    rcases S.upto_spec (h'.st v hlv) L k (by omega) (by omega) (Nat.le_refl _) mk with ⟨j, r, ad', z', q', σ2, g2, hR2, s2, hq2, hjl, hj, hh, hno⟩ | ⟨σ2, g2, s2, hno⟩
    · have htl : ((N.st v).rs.take (j + 1)).length = j + 1 := by rw [List.length_take]; omega
      obtain ⟨n', σ3, e3, h3⟩ := step s2 hR2 (fun hx => by have := hq2 p hx; omega) (by omega) (fun r hr => by
        obtain ⟨i, hi⟩ := List.mem_iff_getElem?.1 (List.mem_of_mem_take hr)
        exact (hv4.seq i r hi).1) (by unfold NS.layOne; rw [upTo_some hj hh hno])
      rw [htl] at e3
      rw [g2, bnd_some, asT_t, toList2, uncons_c, asSl_s, uncons_c, asB_b, endl_n]
      exact ⟨n', σ3, e3, h3⟩
    · obtain ⟨n', σ3, e3, h3⟩ := step (l' := []) s2 (Row.nil _ _ _ _) (by simp) (by simp) (by simp) (by unfold NS.layOne; rw [upTo_none (rs := (N.st v).rs) (m := mk) (fun r hr => hno r (by rw [List.take_length]; exact hr))]; rfl)
      rw [g2, bnd_some, asT_t, toList2, uncons_c, asSl_s, uncons_c, asB_b, endl_n]
      exact ⟨n', σ3, e3, h3⟩
theorem NS.Inv.begun (hI : N.Inv c) (h0 : N.mark = 0) {gs : GS} (hr : N.ready gs ≠ 0) : (N.begun gs (N.ready gs)).Inv (c + 1) ∧ long (N.lay gs (N.ready gs)) = false ∧ N.ready gs ≤ top ∧ (N.im.km : Int) < N.ready gs ∧ 0 < N.ready gs := by
  obtain ⟨hcan, hpos⟩ := ready_can hr
  obtain ⟨_, htop⟩ := can_top hI hcan
  obtain ⟨_, hkm, _⟩ := can_inv hcan
  have hw : N.im.work = none := by
    rcases hI.wk with ⟨_, h⟩ | ⟨h, _⟩
    · exact h
    · omega
  have hbl : long N.im.bl = false := by
    by_cases h0 : N.im.t = 0
    · rw [(hI.im.good.zero h0).2.2.2]; exact long_none
    · rw [long_false]
      intro s hs
      obtain ⟨i, hi⟩ := List.mem_iff_getElem?.1 hs
      exact (hI.im.good.blocks (by omega) i s hi).2
  have hlg := lay_long hI (N.ready gs) (gs.at_ (N.ready gs)) N.im.bl (fun v hv => at_lt hv) hbl
  have hll : (N.lay gs (N.ready gs)).length = 32 := (lay_len N _ _ _).trans hI.im.good.len
  refine ⟨⟨hI.im.begin hw hll hlg htop hkm, ?_, fun v hv => (hI.st v hv).mono (by omega), .inr ⟨hpos, _, 0, rfl⟩⟩, hlg, htop, hkm, hpos⟩
  have := hI.tc
  unfold NS.begun
  dsimp only
  simp
  split at this <;> omega
theorem nbegin_spec (L k : Nat) (hL : 100000 < L) (h : NdX σ0 σ nd g m d a F N R) (hI : N.Inv c) (hc : c ≤ 899) {G : List Nat} {gs : GS} (hG : Grp σ g G gs) :
    ∃ v σ', evCall Tryz.prog env L (k + 6) 22 [ptr nd] σ = some (v, σ') ∧ Kp σ σ' R ∧
      ((N.mark ≠ 0 ∧ (∃ e, v = .tuple #[.int .i64 0, e] ∧ Fr σ σ' e 9 0) ∧ Same σ σ' []) ∨ (N.mark = 0 ∧ N.ready gs = 0 ∧ (∃ e, v = .tuple #[.int .i64 0, e] ∧ Fr σ σ' e 8 0) ∧ Same σ σ' []) ∨
       (N.mark = 0 ∧ N.ready gs ≠ 0 ∧ v = .tuple #[.int .i64 (N.ready gs), .nilIface] ∧ NdX σ0 σ' nd g m d a F (N.begun gs (N.ready gs)) R)) := by
  rw [f22_eq, ld_at h.nd 7 (.int .i64 N.mark) rfl, asI_i]
  by_cases h0 : N.mark = 0
  rotate_left
  · obtain ⟨e, σ1, g1, hE, s1⟩ := wrong46 L (k + 3) σ 0 9 (by decide)
    rw [show (N.mark != 0) = true by simpa using h0, br_true, g1, bnd_some]
    exact ⟨_, σ1, rfl, h.kept s1, .inl ⟨h0, ⟨e, rfl, hE⟩, s1⟩⟩
  obtain ⟨σ1, g1, s1⟩ := nready_spec L k hL h hI hc hG
  rw [show (N.mark != 0) = false by simpa using h0, br_false, g1, bnd_some, asI_i]
  by_cases hr : N.ready gs = 0
  · obtain ⟨e, σ2, g2, hE, s2⟩ := wrong46 L (k + 3) σ1 0 8 (by decide)
    have s02 := s1.trans s2
    rw [show (N.ready gs == 0) = true by simpa using hr, br_true, g2, bnd_some]
    exact ⟨_, σ2, rfl, h.kept s02, .inr (.inl ⟨h0, hr, ⟨e, rfl, hE.before s1.1⟩, s02⟩)⟩
  have h1 := h.idle s1
  obtain ⟨σ2, g2, s2⟩ := blocksS h1.im L (k + 4)
  have hbl := h1.im.blen
  have e1 : (strs N.im.bl).toArray.toList = strs N.im.bl := rfl
  rw [show (N.ready gs == 0) = false by simpa using hr, br_false, ld_at h1.nd 1 (ptr m) rfl, asP_p, g2, bnd_some, asAgL_a, e1, need_of (by rw [strs_len, hbl]; rfl), tmp_put2 σ2 _ (strs N.im.bl) 45 (by rw [strs_len, hbl]; rfl) (strs_one _)]
  have s3 : Same σ2 (σ2.new (.own (strs N.im.bl) 45)) [] := Same.new _ _ _
  have g3 : (σ2.new (.own (strs N.im.bl) 45)).get σ2.next = some (.own (strs N.im.bl) 45) := get_new_same _ _
  have n3 : (σ2.new (.own (strs N.im.bl) 45)).next = σ2.next + 1 := rfl
  generalize σ2.new (.own (strs N.im.bl) 45) = σ3 at s3 g3 n3
  have s03 := (s1.trans s2).trans s3
  have h3 := h.idle s03
  obtain ⟨ad, z, q, σ4, g4, hR4, s4, hq4⟩ := atg_spec L (k + 3) (by omega) (hG.idle s03) (N.ready gs)
  rw [ld_at h3.nd 6 (ptr g) rfl, asP_p, g4, bnd_some, asSl_s]
  have s04 := s03.trans s4
  have n02 := (s1.trans s2).1
  have n4 := s4.1
  have hal := at_len gs (N.ready gs)
  obtain ⟨n', σ5, e5, s05, g5, l5⟩ := nbegin_outer L (k + 2) hL h hI hc (mk := N.ready gs) (p := σ2.next) (by omega) (l := gs.at_ (N.ready gs)) (fun v hv => at_lt hv) hal (fun hx => by have := hq4 _ hx; omega) hbl L 0 σ4 (by omega) (by omega) s04 hR4 (by rw [List.take_zero]; exact (s4.2 _ (by omega) (by simp)).trans g3) (by omega)
  have e5' := e5
  rw [f22_l10, decide_eq_false (by omega), br_false] at e5
  have h5 := h.idle s05
  obtain ⟨hI', hlg, htop, hkm, hpos⟩ := hI.begun h0 hr
  have hll : (N.lay gs (N.ready gs)).length = 32 := (lay_len N _ _ _).trans hbl
  have hw : N.im.work = none := by
    rcases hI.wk with ⟨_, h⟩ | ⟨h, _⟩
    · exact h
    · omega
  obtain ⟨v, σ6, g6, k6, hor⟩ := begin_spec h5.im L (k + 1) hL hI.im.ok hll (N.ready gs)
  rw [ld_at h5.nd (0 + 1) (ptr m) rfl, asP_p, lds_all (n := 32) g5 (by rw [strs_len]; exact hll.symm)] at e5
  have g6' : evCall Tryz.prog env L (k + 5) 63 [ptr m, .agg (strs ((gs.at_ (N.ready gs)).foldl (N.layOne (N.ready gs)) N.im.bl)).toArray, .int .i64 (N.ready gs)] σ5 = some (v, σ6) := g6
  rw [g6', bnd_some] at e5
  rcases hor with ⟨hx, _⟩ | ⟨_, hx | hx, _⟩ | ⟨_, _, _, hx, _⟩ | ⟨_, _, _, _, rfl, hI6⟩
  · exact absurd hw hx
  · rw [hlg] at hx; cases hx
  · omega
  · omega
  obtain ⟨h6, kp6⟩ := h5.image hI6 k6
  obtain ⟨σ7, g7, h7, kp7⟩ := h6.own (N.ready gs)
  rw [eqNil_nil, not_true, br_false, g7] at e5
  refine ⟨_, σ7, e5, ((h.kept s05).trans kp6).trans kp7, .inr (.inr ⟨h0, hr, rfl, h7⟩)⟩
end
end Go.AM.Bk

namespace Go.AM.Bk
open Go.Proofs
theorem ImS.perm {σ0 σ : St} {m d : Nat} {s : IS} {Rs Gs : List (List Nat)} (h : ImS σ0 σ m d s Rs) (f : Nat → Nat) (hf : ∀ i j, f i = f j → i = j) (hg : ∀ i G, Gs[i]? = some G → Rs[f i]? = some G) : ImS σ0 σ m d s Gs := by
  obtain ⟨F, G, w, a1, a2, a3, a4, a5⟩ := h.ex
  refine ⟨F, G, w, a1, a2, a3.map (fun i => if i < 2 then i else f (i - 2) + 2) (fun i j e => ?_) (fun i H hH => ?_), a4, a5⟩
  · by_cases hi : i < 2 <;> by_cases hj : j < 2 <;> simp [hi, hj] at e <;> first | omega | (have := hf _ _ e; omega)
  · match i, hH with
    | 0, hH => exact hH
    | 1, hH => exact hH
    | i + 2, hH => exact hg i H hH
section
variable {σ0 σ : St} {nd g m d : Nat} {a : Nat → Nat} {F : Nat → List Nat} {N : NS} {R : List (List Nat)} {c : Nat}
theorem NdX.push (h : NdX σ0 σ nd g m d a F N R) {σ' : St} (hs : Same σ σ' []) {X : List Nat} (hX : ∀ q ∈ X, σ.next ≤ q ∧ q < σ'.next) : NdX σ0 σ' nd g m d a F N (X :: R) := by
  have hi := h.idle hs
  refine ⟨(h.im.push2 hs hX).perm (fun i => if i < 5 then i + 1 else if i = 5 then 0 else i) (fun i j e => ?_) (fun i H hH => ?_), hi.nd, hi.st⟩
  · by_cases h1 : i < 5 <;> by_cases h2 : j < 5 <;> by_cases h3 : i = 5 <;> by_cases h4 : j = 5 <;> simp [h1, h2, h3, h4] at e <;> omega
  · match i, hH with
    | 0, hH => exact hH
    | 1, hH => exact hH
    | 2, hH => exact hH
    | 3, hH => exact hH
    | 4, hH => exact hH
    | 5, hH => exact hH
    | i + 6, hH => exact hH
theorem NdX.pop {X : List Nat} (h : NdX σ0 σ nd g m d a F N (X :: R)) : NdX σ0 σ nd g m d a F N R := by
  refine ⟨h.im.perm (fun i => if i < 5 then i else i + 1) (fun i j e => ?_) (fun i H hH => ?_), h.nd, h.st⟩
  · by_cases h1 : i < 5 <;> by_cases h2 : j < 5 <;> simp [h1, h2] at e <;> omega
  · match i, hH with
    | 0, hH => exact hH
    | 1, hH => exact hH
    | 2, hH => exact hH
    | 3, hH => exact hH
    | 4, hH => exact hH
    | i + 5, hH => exact hH
theorem dropL_snoc (N : NS) (mk : Int) (l : List Nat) (v : Nat) (hv : v ∉ l) : N.dropL mk (l ++ [v]) = { N.dropL mk l with st := upd (N.dropL mk l).st v (if (N.st v).mark ≠ mk then (N.st v).drop mk else N.st v) } := by
  unfold NS.dropL
  simp only [NS.mk.injEq, true_and, and_true]
  funext u
  unfold upd
  by_cases hu : u = v
  · subst hu; simp
  · simp [hu]
theorem ndrop_loop (L k : Nat) (hL : 100000 < L) (hc : c ≤ 899) (mk : Int) {l : List Nat} (hl : ∀ v ∈ l, v < 4) (hl4 : l.length ≤ 4) (hnd : l.Nodup) {ad : Option Addr} {z : Nat} {q : List Nat} (hI : N.Inv c) : ∀ (n i : Nat) (σ : St) (F : Nat → List Nat), i ≤ l.length → l.length - i < n → Row c1 1 3 σ ad z q (ints l) → NdX σ0 σ nd g m d a F (N.dropL mk (l.take i)) (q :: R) →
    ∃ F' σ2, lpAt Tryz.prog env L (k + 4) 65 [true, true] [] n [(0, ptr nd), (2, .int .i64 mk), (17, .slice ad l.length z), (18, .int .i64 l.length), (19, .int .i64 i)] σ = some (.tuple #[], σ2) ∧ NdX σ0 σ2 nd g m d a F' (N.dropL mk l) (q :: R) ∧ Kp σ σ2 (q :: R)
  | 0, i, σ, F, _, hn, _, _ => by omega
  | n + 1, i, σ, F, hi, hn, hR, h => by
    rw [f65_l2]
    by_cases hie : i = l.length
    · subst hie
      rw [List.take_length] at h
      rw [decide_eq_false (by omega), br_false]
      exact ⟨F, σ, rfl, h, Kp.refl _ _⟩
    have hget : l[i]? = some l[i] := List.getElem?_eq_getElem (by omega)
    have hlv := hl l[i] (List.getElem_mem _)
    have htk : l.take (i + 1) = l.take i ++ [l[i]] := by rw [List.take_add_one, hget]; rfl
    have hno : l[i] ∉ l.take i := by
      intro hx
      have h2 := hnd
      rw [← List.take_append_drop i l, List.nodup_append] at h2
      have hdr : l.drop i = l[i] :: l.drop (i + 1) := List.drop_eq_getElem_cons (by omega)
      exact h2.2.2 _ hx _ (by rw [hdr]; exact List.mem_cons_self) rfl
    generalize l[i] = v at *
    have hds := dropL_snoc N mk (l.take i) v hno
    rw [← htk] at hds
    have hsv : (N.dropL mk (l.take i)).st v = N.st v := by unfold NS.dropL; simp [hno]
    obtain ⟨w, e, hat⟩ := hR.at (fun _ => rfl) (i := i) (a := (v : Int)) (by unfold ints; rw [List.getElem?_map, hget]; rfl)
    subst e
    have hw : IntKind.wrap .i64 ((i : Int) + 1) = ((i + 1 : Nat) : Int) := by rw [wrap_in _ (by omega) (by omega)]; omega
    have hv4 := hI.st v hlv
    have hlen := hv4.len
    have hf1 := hv4.f1
    have hS := h.st v hlv
    rw [hsv] at hS
    have iv : inRange (v : Int) 4 = true := by simp [inRange]; omega
    have ho : 0 + 2 + Int.toNat (v : Int) * 1 = 2 + v := by simp
    rw [decide_eq_true (by omega), br_true, need_of (by simp [inRange]; omega), adr_some, hat 0 (.int .i64 v) _ (by omega) rfl (by simp), asI_i, need_of iv, ho, h.stg v hlv, asP_p, S.dropped_spec hS L (k + 3) hf1 (by omega), bnd_some, asT_t, toList2, uncons_c, asI_i, uncons_c, asI_i, endl_n, hw]
    by_cases hm : (N.st v).mark = mk
    · rw [show ((N.st v).mark != mk) = false by simpa using hm, br_false]
      rw [if_neg (by simpa using hm)] at hds
      have hE : N.dropL mk (l.take (i + 1)) = N.dropL mk (l.take i) := by
        rw [hds]
        have : upd (N.dropL mk (l.take i)).st v (N.st v) = (N.dropL mk (l.take i)).st := by
          funext u; unfold upd; by_cases hu : u = v
          · subst hu; simp [hsv]
          · simp [hu]
        rw [this]
      exact ndrop_loop L k hL hc mk hl hl4 hnd hI n (i + 1) σ F (by omega) (by omega) hR (by rw [hE]; exact h)
    · rw [if_pos hm] at hds
      rw [show ((N.st v).mark != mk) = true by simpa using hm, br_true, need_of iv, h.stg v hlv, asP_p]
      have next : ∀ {σ2 : St} {F' : List Nat} {v2 : Value}, Turn σ σ2 (F v) F' → S.Stg σ2 (a v) F' ((N.st v).drop mk).first ((N.st v).drop mk).rs ((N.st v).drop mk).rs.length ((N.st v).drop mk).mark →
          ∃ F'' σ3, lpAt Tryz.prog env L (k + 4) 65 [true, true] [] n [(0, ptr nd), (2, .int .i64 mk), (17, .slice (some ⟨w, 0, none⟩) l.length z), (18, .int .i64 l.length), (19, .int .i64 ((i + 1 : Nat) : Int))] σ2 = some (.tuple #[], σ3) ∧ NdX σ0 σ3 nd g m d a F'' (N.dropL mk l) (q :: R) ∧ Kp σ σ3 (q :: R) := by
        intro σ2 F' v2 hT hS2
        obtain ⟨h2, k2⟩ := h.turn v hlv hT hS2
        rw [← hds] at h2
        have hR2 := hR.moved (fun x hx => k2 q (by simp) x hx) (h2.lt (H := q) (by simp))
        obtain ⟨F'', σ3, e3, h3, k3⟩ := ndrop_loop L k hL hc mk hl hl4 hnd hI n (i + 1) σ2 _ (by omega) (by omega) hR2 h2
        exact ⟨F'', σ3, e3, h3, k2.trans k3⟩
      rcases S.drop_spec hS L k (by omega) (by omega) (Nat.le_refl _) hf1 (by omega) mk with ⟨j, r, F', σ2, g2, hS2, hT2, hjl, hj, hh, hno2⟩ | ⟨w2, σ2, g2, _, s2, hno2⟩
      · have hup := upTo_some hj hh hno2
        rw [g2, bnd_some]
        refine next (v2 := .nilIface) hT2 ?_
        unfold SS.drop
        rw [hup]
        dsimp only
        rw [List.length_drop]
        exact hS2
      · have hup := upTo_none (rs := (N.st v).rs) (m := mk) (fun r hr => hno2 r (by rw [List.take_length]; exact hr))
        rw [g2, bnd_some]
        refine next (v2 := w2) (.idle s2 hS.lt) ?_
        unfold SS.drop
        rw [hup]
        exact hS.idle s2
theorem ndrop_spec (L k : Nat) (hL : 100000 < L) (hc : c ≤ 899) (h : NdX σ0 σ nd g m d a F N R) (hI : N.Inv c) {G : List Nat} {gs : GS} (hG : Grp σ g G gs) :
    ∃ F' σ', evCall Tryz.prog env L (k + 5) 65 [ptr nd] σ = some (.tuple #[], σ') ∧ NdX σ0 σ' nd g m d a F' (N.drop gs) R ∧ Kp σ σ' R := by
  obtain ⟨ad, z, q, σ1, g1, hR, s1, hq⟩ := atg_spec L (k + 2) (by omega) hG (N.im.km : Int)
  have h1 := h.push s1 (X := q) (fun x hx => ⟨hq x hx, hR.lt x hx⟩)
  have hal := at_len gs (N.im.km : Int)
  rw [f65_eq, ld_at h.nd 1 (ptr m) rfl, asP_p, markS h.im L (k + 3), bnd_some, asI_i, ld_at h.nd 6 (ptr g) rfl, asP_p, g1, bnd_some, asSl_s]
  obtain ⟨F', σ2, e2, h2, k2⟩ := ndrop_loop L k hL hc (N.im.km : Int) (l := gs.at_ (N.im.km : Int)) (fun v hv => at_lt hv) hal (at_nodup _ _) hI L 0 σ1 F (by omega) (by omega) hR (by
    have : N.dropL (N.im.km : Int) ((gs.at_ (N.im.km : Int)).take 0) = N := by unfold NS.dropL; simp
    rw [this]; exact h1)
  exact ⟨F', σ2, e2, h2.pop, (h.kept s1).trans (fun H hH => k2 H (List.mem_cons_of_mem _ hH))⟩
theorem NS.Inv.step (hI : N.Inv c) (hc : c ≤ 899) (gs : GS) : (N.step gs).Inv c := by
  unfold NS.step
  cases hw : N.im.work with
  | none => exact hI
  | some p =>
    obtain ⟨mk', bl', k⟩ := p
    have htc := hI.tc
    rw [hw] at htc
    simp at htc
    have hinv := hI.im.step (by omega) hw
    obtain ⟨hm0, bl, k', hwk⟩ : 0 < N.mark ∧ ∃ bl k, N.im.work = some (N.mark.toNat, bl, k) := by
      rcases hI.wk with ⟨_, h⟩ | h
      · rw [hw] at h; cases h
      · exact h
    rw [hw] at hwk
    cases hwk
    have hok := (hI.im.ok.bw _ _ _ hw).1
    dsimp only
    by_cases hk : k = 34
    · rw [if_pos hk]
      subst hk
      refine NS.Inv.dropL (N := { N with im := stepS N.im N.mark.toNat bl' 34, mark := 0 }) ⟨hinv, ?_, hI.st, .inl ⟨rfl, rfl⟩⟩ _ _
      show N.im.t + 1 + 0 ≤ c
      omega
    · rw [if_neg hk]
      refine ⟨hinv, ?_, hI.st, .inr ⟨hm0, ?_⟩⟩
      · unfold stepS
        dsimp only
        split
        · dsimp only; simp; omega
        · split
          · dsimp only; simp; omega
          · split
            · dsimp only; simp; omega
            · omega
      · unfold stepS
        dsimp only
        split
        · exact ⟨_, _, rfl⟩
        · split
          · exact ⟨_, _, rfl⟩
          · split
            · exact ⟨_, _, rfl⟩
            · omega
theorem nstep_spec (L k : Nat) (hL : 100000 < L) (hc : c ≤ 899) (h : NdX σ0 σ nd g m d a F N R) (hI : N.Inv c) {G : List Nat} {gs : GS} (hG : Grp σ g G gs) (hGR : G ∈ R) :
    ∃ v F' σ', evCall Tryz.prog env L (k + 9) 23 [ptr nd] σ = some (v, σ') ∧ Kp σ σ' R ∧
      ((N.mark = 0 ∧ (∃ e, v = .tuple #[.bool false, e] ∧ Fr σ σ' e 9 0) ∧ Same σ σ' []) ∨
       (∃ bl' k, N.mark ≠ 0 ∧ N.im.work = some (N.mark.toNat, bl', k) ∧ v = .tuple #[.bool (decide (k = 34)), .nilIface] ∧ NdX σ0 σ' nd g m d a F' (N.step gs) R)) := by
  rw [f23_eq, ld_at h.nd 7 (.int .i64 N.mark) rfl, asI_i]
  by_cases h0 : N.mark = 0
  · obtain ⟨e, σ1, g1, hE, s1⟩ := wrong46 L (k + 6) σ 0 9 (by decide)
    rw [show (N.mark == 0) = true by simpa using h0, br_true, g1, bnd_some]
    exact ⟨_, F, σ1, rfl, h.kept s1, .inl ⟨h0, ⟨e, rfl, hE⟩, s1⟩⟩
  obtain ⟨hm0, bl, j, hwk⟩ : 0 < N.mark ∧ ∃ bl k, N.im.work = some (N.mark.toNat, bl, k) := by
    rcases hI.wk with ⟨h, _⟩ | h
    · exact absurd h h0
    · exact h
  rw [show (N.mark == 0) = false by simpa using h0, br_false, ld_at h.nd 1 (ptr m) rfl, asP_p]
  obtain ⟨v, σ1, g1, k1, hor⟩ := step_spec h.im L k hL hI.im.ok
  rw [g1, bnd_some]
  rcases hor with ⟨hw, _⟩ | ⟨mk', bl', j', hw, rfl, hI1⟩
  · rw [hwk] at hw; cases hw
  rw [hwk] at hw
  cases hw
  obtain ⟨h1, kp1⟩ := h.image hI1 k1
  rw [asT_t, toList2, uncons_c, asB_b, uncons_c, endl_n]
  by_cases hk : j = 34
  · obtain ⟨σ2, g2, h2, kp2⟩ := h1.own 0
    have hE : N.step gs = NS.drop { N with im := stepS N.im N.mark.toNat bl j, mark := 0 } gs := by unfold NS.step; rw [hwk]; dsimp only; rw [if_pos hk]
    have hG2 : Grp σ2 g G gs := hG.moved (fun q hq => (kp1.trans kp2) G hGR q hq) (h2.lt hGR)
    have hI2 : NS.Inv { N with im := stepS N.im N.mark.toNat bl j, mark := 0 } c := by
      have htc := hI.tc
      rw [hwk] at htc
      simp at htc
      refine ⟨hI.im.step (by omega) hwk, ?_, hI.st, .inl ⟨rfl, by unfold stepS; rw [if_neg (by omega), if_neg (by omega), if_neg (by omega)]⟩⟩
      unfold stepS; rw [if_neg (by omega), if_neg (by omega), if_neg (by omega)]
      show N.im.t + 1 + 0 ≤ c
      omega
    obtain ⟨F', σ3, g3, h3, kp3⟩ := ndrop_spec L (k + 3) hL hc h2 hI2 hG2
    rw [decide_eq_true hk, br_true, g2, g3, bnd_some, asT_t, toList0, endl_n, wrong46_nil L (k + 6), bnd_some]
    exact ⟨_, F', σ3, rfl, (kp1.trans kp2).trans kp3, .inr ⟨bl, j, h0, hwk, by rw [decide_eq_true hk], by rw [hE]; exact h3⟩⟩
  · have hE : N.step gs = { N with im := stepS N.im N.mark.toNat bl j } := by unfold NS.step; rw [hwk]; dsimp only; rw [if_neg hk]
    rw [decide_eq_false hk, br_false, wrong46_nil L (k + 6), bnd_some]
    exact ⟨_, F, σ1, rfl, kp1, .inr ⟨bl, j, h0, hwk, by rw [decide_eq_false hk], by rw [hE]; exact h1⟩⟩
def NS.crashed (N : NS) (keep : Int) : NS :=
  match opn (rd (D.lay (D.bit keep) 0 N.im.S N.im.W)) with
  | some (t, km, bl) => { N with im := ⟨D.lay (D.bit keep) 0 N.im.S N.im.W, [], t, km, bl, none⟩, mark := 0 }
  | none => N
def NS.crash (N : NS) (keep : Int) (gs : GS) : NS := (N.crashed keep).drop gs
theorem crashed_is (hI : N.Inv c) (hc : c ≤ 899) (keep : Int) : ∃ t km bl, Good (rd (D.lay (D.bit keep) 0 N.im.S N.im.W)) t km bl ∧ t ≤ c ∧ N.crashed keep = { N with im := ⟨D.lay (D.bit keep) 0 N.im.S N.im.W, [], t, km, bl, none⟩, mark := 0 } ∧
    ((t = N.im.t ∧ km = N.im.km ∧ bl = N.im.bl) ∨ (t = N.im.t + 1 ∧ N.im.work = some (km, bl, 34) ∧ D.bit keep 0 = true)) := by
  have htc := hI.tc
  rcases hI.im.crash (D.bit keep) with hg | ⟨mk', bl', hw, hb, hg⟩
  · exact ⟨_, _, _, hg, by split at htc <;> omega, by unfold NS.crashed; rw [hg.opn], .inl ⟨rfl, rfl, rfl⟩⟩
  · rw [hw] at htc; simp at htc
    exact ⟨_, _, _, hg, htc, by unfold NS.crashed; rw [hg.opn], .inr ⟨rfl, hw, hb⟩⟩
theorem NS.Inv.crashed (hI : N.Inv c) (hc : c ≤ 899) (keep : Int) : (N.crashed keep).Inv c := by
  obtain ⟨t, km, bl, hg, ht, e, _⟩ := crashed_is hI hc keep
  rw [e]
  exact ⟨⟨(D.lay_len _ _ _ _).trans hI.im.sl, by show t ≤ 900; omega, hg, rfl⟩, ht, hI.st, .inl ⟨rfl, rfl⟩⟩
theorem NS.Inv.crash (hI : N.Inv c) (hc : c ≤ 899) (keep : Int) (gs : GS) : (N.crash keep gs).Inv c := (hI.crashed hc keep).dropL _ _
theorem ncrash_spec (L k : Nat) (hL : 100000 < L) (hc : c ≤ 899) (h : NdX σ0 σ nd g m d a F N R) (hI : N.Inv c) {G : List Nat} {gs : GS} (hG : Grp σ g G gs) (hGR : G ∈ R) (keep : Int) :
    ∃ m' F' σ', evCall Tryz.prog env L (k + 12) 24 [ptr nd, .int .u64 keep] σ = some (.nilIface, σ') ∧ NdX σ0 σ' nd g m' d a F' (N.crash keep gs) R ∧ Kp σ σ' R := by
  obtain ⟨t, km, bl, hg, ht, hE, _⟩ := crashed_is hI hc keep
  obtain ⟨FD, σ1, g1, hD1, hO1, k1⟩ := crashS h.im hI.im.ok L (k + 8) hL keep
  have hsl : (D.lay (D.bit keep) 0 N.im.S N.im.W).length = 66 := (D.lay_len _ _ _ _).trans hI.im.sl
  have hn1 : σ1.get nd = _ := (k1 [nd] (by simp) nd (by simp)).trans h.nd
  obtain ⟨m2, σ2, g2, hI2, k2, _⟩ := openGood hD1 hO1 hsl L k hL hg (by omega)
  have hk12 : Kp σ σ2 (F 0 :: F 1 :: F 2 :: F 3 :: [nd] :: R) := Kp.trans k1 k2
  have hn2 : σ2.get nd = some (.own (ndc d m (a 0) (a 1) (a 2) (a 3) g N.mark) 121) := (hk12 [nd] (by simp) nd (by simp)).trans h.nd
  -- the node's image, and marker
  have g3 := fun (K : St → Res) => put_at hn2 1 (.pointer (some ⟨m2, 0, none⟩)) (by simp [ndc]) rfl K
  have s3 := Same.set σ2 nd (.own (List.set (ndc d m (a 0) (a 1) (a 2) (a 3) g N.mark) 1 (.pointer (some ⟨m2, 0, none⟩))) 121)
  have n3 : (σ2.set nd (.own (List.set (ndc d m (a 0) (a 1) (a 2) (a 3) g N.mark) 1 (.pointer (some ⟨m2, 0, none⟩))) 121)).get nd = some (.own (ndc d m2 (a 0) (a 1) (a 2) (a 3) g N.mark) 121) := get_set_same _ _ _
  generalize σ2.set nd (.own (List.set (ndc d m (a 0) (a 1) (a 2) (a 3) g N.mark) 1 (.pointer (some ⟨m2, 0, none⟩))) 121) = σ3 at g3 s3 n3
  have hndl := hI2.lt (H := [nd]) (by simp) nd (by simp)
  have hm : ∀ v, v < 4 → F v ∈ F 0 :: F 1 :: F 2 :: F 3 :: [nd] :: R := fun v hv => List.mem_of_getElem? (fl_get F _ v hv)
  have hT : Turn σ2 σ3 [nd] [nd] := ⟨s3, fun q hq => ⟨.inl hq, by have := s3.1; simp at hq; omega⟩⟩
  have hI3 := hI2.turned 4 rfl hT
  rw [four_one] at hI3
  have h3 : NdX σ0 σ3 nd g m2 d a F { N with im := ⟨D.lay (D.bit keep) 0 N.im.S N.im.W, [], t, km, bl, none⟩ } R :=
    ⟨hI3, n3, fun v hv => ((h.st v hv).moved (hk12 _ (hm v hv)) (hI2.lt (hm v hv))).same s3 (fun q hq => hI2.dis v 4 (by omega) (fl_get F _ v hv) rfl q hq)⟩
  have kp3 : Kp σ2 σ3 R := fun H hH q hq => by
    obtain ⟨i, hi⟩ := List.mem_iff_getElem?.1 hH
    exact s3.2 q (hI2.lt (by simp [hH]) q hq) (hI2.dis (i + 5) 4 (by omega) (by simpa using hi) rfl q hq)
  obtain ⟨σ4, g4, h4, kp4⟩ := h3.own 0
  have kp02 : Kp σ σ2 R := fun H hH => hk12 H (by simp [hH])
  have kp04 : Kp σ σ4 R := (kp02.trans kp3).trans kp4
  have hG4 : Grp σ4 g G gs := hG.moved (fun q hq => kp04 G hGR q hq) (h4.lt hGR)
  have hI4 := hI.crashed hc keep
  rw [hE] at hI4
  obtain ⟨F', σ5, g5, h5, kp5⟩ := ndrop_spec L (k + 6) hL hc h4 hI4 hG4
  refine ⟨m2, F', σ5, ?_, by unfold NS.crash; rw [hE]; exact h5, kp04.trans kp5⟩
  rw [f24_eq, ld_at h.nd 0 (ptr d) rfl, asP_p, g1, bnd_some, asT_t, toList0, endl_n, f67_eq, ld_at hn1 0 (ptr d) rfl, asP_p, g2, bnd_some, asT_t, toList2, uncons_c, asP_p, uncons_c, endl_n, eqNil_nil, not_true, br_false, g3, g4, bnd_some, eqNil_nil, not_true, br_false, g5, bnd_some, asT_t, toList0, endl_n]
end
end Go.AM.Bk

namespace Go.AM.Bk
open Go.Proofs
def NS.steps (g : GS) : Nat → NS → NS
  | 0, N => N
  | n + 1, N => NS.steps g n (N.step g)
theorem step_idle {N : NS} (g : GS) (h : N.im.work = none) : N.step g = N := by unfold NS.step; rw [h]
theorem steps_idle (g : GS) : ∀ (n : Nat) {N : NS}, N.im.work = none → N.steps g n = N
  | 0, N, h => rfl
  | n + 1, N, h => by unfold NS.steps; rw [step_idle g h]; exact steps_idle g n h
theorem NS.Inv.steps {c : Nat} (hc : c ≤ 899) (g : GS) : ∀ (n : Nat) {N : NS}, N.Inv c → (N.steps g n).Inv c
  | 0, N, h => h
  | n + 1, N, h => NS.Inv.steps hc g n (h.step hc g)
theorem step_work {N : NS} (g : GS) {mk' k : Nat} {bl' : List ByteArray} (h : N.im.work = some (mk', bl', k)) (hk : k < 34) : (N.step g).im.work = some (mk', bl', k + 1) ∧ (N.step g).mark = N.mark ∧ (N.step g).st = N.st ∧ (N.step g).im.t = N.im.t ∧ (N.step g).im.km = N.im.km ∧ (N.step g).im.bl = N.im.bl := by
  unfold NS.step
  rw [h]
  dsimp only
  rw [if_neg (by omega)]
  unfold stepS
  dsimp only
  split
  · exact ⟨rfl, rfl, rfl, rfl, rfl, rfl⟩
  · split
    · rename_i h32; subst h32; exact ⟨rfl, rfl, rfl, rfl, rfl, rfl⟩
    · split
      · rename_i h33; subst h33; exact ⟨rfl, rfl, rfl, rfl, rfl, rfl⟩
      · omega
theorem step_last {N : NS} (g : GS) {mk' : Nat} {bl' : List ByteArray} (h : N.im.work = some (mk', bl', 34)) : N.step g = NS.drop { N with im := ⟨D.lay (fun _ => true) 0 N.im.S N.im.W, [], N.im.t + 1, mk', bl', none⟩, mark := 0 } g := by
  unfold NS.step
  rw [h]
  dsimp only
  rw [if_pos rfl]
  unfold stepS
  rw [if_neg (by omega), if_neg (by omega), if_neg (by omega)]
section
variable {σ0 σ : St} {nd g m d : Nat} {a : Nat → Nat} {F : Nat → List Nat} {N : NS} {R : List (List Nat)} {c : Nat}
theorem cut_loop (L k : Nat) (hc : c ≤ 899) : ∀ (n v : Nat) (s : Int) (σ : St) (F : Nat → List Nat) (N : NS), v ≤ 4 → 4 - v < n → N.Inv c → 0 ≤ s → s ≤ 1000 * v → NdX σ0 σ nd g m d a F N R →
    ∃ F' σ', lpAt Tryz.prog env L (k + 1) 25 [true, true, true, true, false, true] [] n [(3, .int .i64 s), (18, .agg [ptr (a 0), ptr (a 1), ptr (a 2), ptr (a 3)].toArray), (19, .int .i64 v)] σ = some (.int .i64 (s + (((List.range 4).drop v).map fun v => ((N.st v).rs.length : Int)).sum), σ') ∧
      NdX σ0 σ' nd g m d a F' { N with st := fun u => if v ≤ u ∧ u < 4 then (N.st u).cut else N.st u } R ∧ Kp σ σ' R
  | 0, v, s, σ, F, N, _, hn, _, _, _, _ => by omega
  | n + 1, v, s, σ, F, N, hv, hn, hI, hs0, hs1, h => by
    have el := f25_l7 L (k + 1) n σ s (some ⟨a 0, 0, none⟩) (some ⟨a 1, 0, none⟩) (some ⟨a 2, 0, none⟩) (some ⟨a 3, 0, none⟩) (v : Int)
    by_cases hv4 : v = 4
    · subst hv4
      rw [decide_eq_false (by decide), br_false] at el
      have e0 : (List.range 4).drop 4 = [] := rfl
      refine ⟨F, σ, el.trans (by rw [e0]; simp), ?_, Kp.refl _ _⟩
      have : (fun u => if 4 ≤ u ∧ u < 4 then (N.st u).cut else N.st u) = N.st := by funext u; rw [if_neg (by omega)]
      rw [this]; exact h
    have hi := hI.st v (by omega)
    have hlen := hi.len
    have hf1 := hi.f1
    obtain ⟨σ1, g1, hS1, hT1⟩ := S.cut_spec (h.st v (by omega)) L k
    have hw : IntKind.wrap .i64 ((v : Int) + 1) = ((v + 1 : Nat) : Int) := by rw [wrap_in _ (by omega) (by omega)]; omega
    have hw2 : IntKind.wrap .i64 (s + ((N.st v).rs.length : Int)) = s + ((N.st v).rs.length : Int) := wrap_in _ (by omega) (by omega)
    rw [decide_eq_true (by omega), br_true, need_of (by simp [inRange]; omega), show ∀ K : Value → Res, nth [Value.pointer (some ⟨a 0, 0, none⟩), Value.pointer (some ⟨a 1, 0, none⟩), Value.pointer (some ⟨a 2, 0, none⟩), Value.pointer (some ⟨a 3, 0, none⟩)] (Int.toNat (v : Int) * 1) K = K (ptr (a v)) from fun K => ptr_nth a v (by omega) K, asP_p, g1, bnd_some, asI_i, hw, hw2] at el
    obtain ⟨h1, k1⟩ := h.turn v (by omega) hT1 (s := (N.st v).cut) hS1
    have hI1 : NS.Inv { N with st := upd N.st v (N.st v).cut } c := ⟨hI.im, hI.tc, fun u hu => by
      dsimp only
      by_cases e : u = v
      · subst e; rw [upd_same]; exact (hI.st u hu).cut
      · rw [upd_ne _ _ e]; exact hI.st u hu, hI.wk⟩
    obtain ⟨F', σ2, e2, h2, k2⟩ := cut_loop L k hc n (v + 1) (s + ((N.st v).rs.length : Int)) σ1 _ _ (by omega) (by omega) hI1 (by omega) (by omega) h1
    refine ⟨F', σ2, el.trans (e2.trans ?_), ?_, k1.trans k2⟩
    · rw [range_drop v (by omega), List.map_cons, List.sum_cons]
      have : (((List.range 4).drop (v + 1)).map fun u => ((upd N.st v (N.st v).cut u).rs.length : Int)) = (((List.range 4).drop (v + 1)).map fun u => ((N.st u).rs.length : Int)) := by
        apply List.map_congr_left
        intro u hu
        rw [upd_ne]
        intro e
        subst e
        have := List.mem_drop_iff_getElem.1 hu
        obtain ⟨i, hi, e⟩ := this
        simp at e
        omega
      dsimp only
      rw [this, Int.add_assoc]
    · have : (fun u => if v ≤ u ∧ u < 4 then (N.st u).cut else N.st u) = fun u => if v + 1 ≤ u ∧ u < 4 then (upd N.st v (N.st v).cut u).cut else upd N.st v (N.st v).cut u := by
        funext u
        by_cases e : u = v
        · subst e; rw [upd_same, if_pos (by omega), if_neg (by omega)]
        · rw [upd_ne _ _ e]
          by_cases h1 : v ≤ u ∧ u < 4
          · rw [if_pos h1, if_pos (by omega)]
          · rw [if_neg h1, if_neg (by omega)]
      rw [this]
      exact h2
def NS.fin (N : NS) (g : GS) : NS := N.steps g 35
def NS.cut4 (N : NS) : NS := { N with st := fun u => if u < 4 then (N.st u).cut else N.st u }
def NS.promote (N : NS) (g : GS) : NS := (N.fin g).cut4
theorem NS.Inv.cut4 (hI : N.Inv c) : N.cut4.Inv c := ⟨hI.im, hI.tc, fun v hv => by
  unfold NS.cut4; dsimp only; rw [if_pos hv]; exact (hI.st v hv).cut, hI.wk⟩
theorem NS.Inv.promote (hI : N.Inv c) (hc : c ≤ 899) (gs : GS) : (N.promote gs).Inv c := (NS.Inv.steps hc gs 35 hI).cut4
theorem steps_loop (L k : Nat) (hL : 100000 < L) (hc : c ≤ 899) {G : List Nat} {gs : GS} (hGR : G ∈ R) : ∀ (r n : Nat) (σ : St) (F : Nat → List Nat) (N : NS), r < n → N.Inv c → (∀ mk' bl' j, N.im.work = some (mk', bl', j) → 35 - j ≤ r) → NdX σ0 σ nd g m d a F N R → Grp σ g G gs →
    ∃ F' n' σ', lpAt Tryz.prog env L (k + 9) 25 [true, true, false] [] n [(0, ptr nd)] σ = lpAt Tryz.prog env L (k + 9) 25 [true, true, false] [] (n' + 1) [(0, ptr nd)] σ' ∧ NdX σ0 σ' nd g m d a F' (N.steps gs r) R ∧ Kp σ σ' R ∧ (N.steps gs r).mark = 0
  | r, 0, σ, F, N, hn, _, _, _, _ => by omega
  | 0, n + 1, σ, F, N, hn, hI, hr, h, hG => by
    rcases hI.wk with ⟨h1, h2⟩ | ⟨_, bl, k, hw⟩
    · exact ⟨F, n, σ, rfl, h, Kp.refl _ _, h1⟩
    · have := hr _ _ _ hw
      have := (hI.im.ok.bw _ _ _ hw).1
      omega
  | r + 1, n + 1, σ, F, N, hn, hI, hr, h, hG => by
    by_cases h0 : N.mark = 0
    · have hw : N.im.work = none := by
        rcases hI.wk with ⟨_, h2⟩ | ⟨h1, _⟩
        · exact h2
        · omega
      refine ⟨F, n, σ, rfl, ?_, Kp.refl _ _, ?_⟩
      · rw [steps_idle gs _ hw]; exact h
      · rw [steps_idle gs _ hw]; exact h0
    · obtain ⟨v, F1, σ1, g1, k1, hor⟩ := nstep_spec L k hL hc h hI hG hGR
      rcases hor with ⟨hx, _⟩ | ⟨bl', j, _, hw, rfl, h1⟩
      · exact absurd hx h0
      have hj := (hI.im.ok.bw _ _ _ hw).1
      have hrj := hr _ _ _ hw
      obtain ⟨F2, n2, σ2, e2, h2, k2, hm2⟩ := steps_loop L k hL hc hGR r n σ1 F1 (N.step gs) (by omega) (hI.step hc gs) (fun mk' bl'' j' hw' => by
        by_cases hj34 : j = 34
        · subst hj34
          rw [step_last gs hw] at hw'
          cases hw'
        · have := (step_work gs hw (by omega)).1
          rw [this] at hw'
          cases hw'
          omega) h1 (hG.moved (fun q hq => k1 G hGR q hq) (h1.lt hGR))
      refine ⟨F2, n2, σ2, ?_, h2, k1.trans k2, hm2⟩
      rw [f25_l3, ld_at h.nd (0 + 7) (.int .i64 N.mark) rfl, asI_i, show (N.mark != 0) = true by simpa using h0, br_true, g1, bnd_some, asT_t, toList2, uncons_c, asB_b, uncons_c, endl_n]
      exact e2
theorem npromote_spec (L k : Nat) (hL : 100000 < L) (hc : c ≤ 899) (h : NdX σ0 σ nd g m d a F N R) (hI : N.Inv c) {G : List Nat} {gs : GS} (hG : Grp σ g G gs) (hGR : G ∈ R) :
    ∃ F' σ', evCall Tryz.prog env L (k + 10) 25 [ptr nd] σ = some (.int .i64 ((N.fin gs).held : Nat), σ') ∧ NdX σ0 σ' nd g m d a F' (N.promote gs) R ∧ Kp σ σ' R := by
  obtain ⟨F1, n1, σ1, e1, h1, k1, hm⟩ := steps_loop L k hL hc hGR 35 L σ F N (by omega) hI (fun _ _ _ _ => by omega) h hG
  have hI1 : (N.steps gs 35).Inv c := NS.Inv.steps hc gs 35 hI
  obtain ⟨F2, σ2, e2, h2, k2⟩ := cut_loop (a := a) L (k + 8) hc L 0 0 σ1 F1 (N.steps gs 35) (by omega) (by omega) hI1 (by omega) (by omega) h1
  refine ⟨F2, σ2, ?_, ?_, k1.trans k2⟩
  · rw [f25_eq, e1, f25_l3, ld_at h1.nd (0 + 7) (.int .i64 (N.steps gs 35).mark) rfl, asI_i, show ((N.steps gs 35).mark != 0) = false by rw [hm]; rfl, br_false, lds_own (n := 4) _ h1.nd (by simp [ndc])]
    show (uncons [ptr (a 0), ptr (a 1), ptr (a 2), ptr (a 3)] _) = _
    rw [uncons_c, asP_p, uncons_c, asP_p, uncons_c, asP_p, uncons_c, asP_p, endl_n]
    refine e2.trans ?_
    unfold NS.fin NS.held
    simp [List.range, List.range.loop]
    omega
  · have : (fun u => if 0 ≤ u ∧ u < 4 then ((N.steps gs 35).st u).cut else (N.steps gs 35).st u) = fun u => if u < 4 then ((N.steps gs 35).st u).cut else (N.steps gs 35).st u := by funext u; simp
    rw [this] at h2
    exact h2
theorem nimage_spec (L k : Nat) (h : NdX σ0 σ nd g m d a F N R) : ∃ σ', evCall Tryz.prog env L (k + 2) 16 [ptr nd] σ = some (.tuple #[.agg (strs N.im.bl).toArray, .int .i64 (N.im.km : Nat)], σ') ∧ Same σ σ' [] := by
  rw [f16_eq]
  have s1 : Same σ (σ.new (.own (strs noBlocks) 45)) [] := Same.new _ _ _
  have g1 : (σ.new (.own (strs noBlocks) 45)).get σ.next = some (.own (strs noBlocks) 45) := get_new_same _ _
  have n1 : (σ.new (.own (strs noBlocks) 45)).next = σ.next + 1 := rfl
  have hlit : strs noBlocks = [Value.string ⟨#[]⟩, Value.string ⟨#[]⟩, Value.string ⟨#[]⟩, Value.string ⟨#[]⟩, Value.string ⟨#[]⟩, Value.string ⟨#[]⟩, Value.string ⟨#[]⟩, Value.string ⟨#[]⟩, Value.string ⟨#[]⟩, Value.string ⟨#[]⟩, Value.string ⟨#[]⟩, Value.string ⟨#[]⟩, Value.string ⟨#[]⟩, Value.string ⟨#[]⟩, Value.string ⟨#[]⟩, Value.string ⟨#[]⟩, Value.string ⟨#[]⟩, Value.string ⟨#[]⟩, Value.string ⟨#[]⟩, Value.string ⟨#[]⟩, Value.string ⟨#[]⟩, Value.string ⟨#[]⟩, Value.string ⟨#[]⟩, Value.string ⟨#[]⟩, Value.string ⟨#[]⟩, Value.string ⟨#[]⟩, Value.string ⟨#[]⟩, Value.string ⟨#[]⟩, Value.string ⟨#[]⟩, Value.string ⟨#[]⟩, Value.string ⟨#[]⟩, Value.string ⟨#[]⟩] := rfl
  rw [← hlit]
  generalize σ.new (.own (strs noBlocks) 45) = σ1 at s1 g1 n1
  have h1 := h.idle s1
  obtain ⟨σ2, g2, s2⟩ := blocksS h1.im L k
  have h2 := h1.idle s2
  have g12 : σ2.get σ.next = _ := (s2.2 σ.next (by omega) (by simp)).trans g1
  have hbl := h1.im.blen
  have e1 : (strs N.im.bl).toArray.toList = strs N.im.bl := rfl
  have hput := fun (K : St → Res) => put_all (ws := strs N.im.bl) g12 (by rw [strs_len, hbl]; rfl) (strs_one _) K
  have s3 := Same.set σ2 σ.next (.own (strs N.im.bl) 45)
  have g3 : (σ2.set σ.next (.own (strs N.im.bl) 45)).get σ.next = some (.own (strs N.im.bl) 45) := get_set_same _ _ _
  generalize σ2.set σ.next (.own (strs N.im.bl) 45) = σ3 at hput s3 g3
  rw [ld_at h1.nd 1 (ptr m) rfl, asP_p, g2, bnd_some, asAgL_a, e1, ld_at h2.nd 1 (ptr m) rfl, asP_p, ld_at h1.nd 1 (ptr m) rfl, asP_p, chk_same, markS h2.im L k, bnd_some, asI_i, need_of (by rw [strs_len, hbl]; rfl), hput, lds_all (n := 32) g3 (by rw [strs_len, hbl])]
  exact ⟨σ3, rfl, (s1.trans s2).fresh s3 (fun x hx => .inr (by simp at hx; omega))⟩
def NS.apl (N : NS) (v : Nat) : Int := (N.st v).first - 1
def apC (N : NS) (v : Nat) : List Value := [.int .i64 (if 0 < v then N.apl 0 else 0), .int .i64 (if 1 < v then N.apl 1 else 0), .int .i64 (if 2 < v then N.apl 2 else 0), .int .i64 (if 3 < v then N.apl 3 else 0)]
theorem apC_set (N : NS) (v : Nat) (hv : v < 4) : (apC N v).set (0 + Int.toNat (v : Int) * 1) (.int .i64 (N.apl v)) = apC N (v + 1) := by
  rcases (by omega : v = 0 ∨ v = 1 ∨ v = 2 ∨ v = 3) with rfl | rfl | rfl | rfl <;> rfl
def NS.apV (N : NS) : Value := .agg #[.int .i64 (N.apl 0), .int .i64 (N.apl 1), .int .i64 (N.apl 2), .int .i64 (N.apl 3)]
theorem napplied_loop (L k : Nat) (h : NdX σ0 σ nd g m d a F N R) (hI : N.Inv c) (hc : c ≤ 899) {t0 t1 : Nat} (ht0 : σ.next ≤ t0) (ht1 : σ.next ≤ t1) (h01 : t0 ≠ t1) : ∀ (n v : Nat) (σ' : St), v ≤ 4 → 4 - v < n → Same σ σ' [] → σ'.get t1 = some (.own (apC N v) 68) → (∃ x, σ'.get t0 = some (.own x 68) ∧ x.length = 4) → t0 < σ'.next → t1 < σ'.next →
    ∃ σ2, lpAt Tryz.prog env L (k + 1) 26 [true, true, true, false, true] [] n [(2, ptr t0), (3, ptr t1), (12, .agg [ptr (a 0), ptr (a 1), ptr (a 2), ptr (a 3)].toArray), (13, .int .i64 v)] σ' = some (N.apV, σ2) ∧ Same σ σ2 []
  | 0, v, σ', _, hn, _, _, _, _, _ => by omega
  | n + 1, v, σ', hv, hn, hs, g1, ⟨x, g0, hx⟩, l0, l1 => by
    have el := f26_l5 L (k + 1) n σ' t0 0 t1 0 (some ⟨a 0, 0, none⟩) (some ⟨a 1, 0, none⟩) (some ⟨a 2, 0, none⟩) (some ⟨a 3, 0, none⟩) (v : Int)
    by_cases hv4 : v = 4
    · subst hv4
      have hput := fun (K : St → Res) => put_all (ws := apC N 4) g0 (by rw [hx]; rfl) rfl K
      have s3 := Same.set σ' t0 (.own (apC N 4) 68)
      have g3 : (σ'.set t0 (.own (apC N 4) 68)).get t0 = some (.own (apC N 4) 68) := get_set_same _ _ _
      generalize σ'.set t0 (.own (apC N 4) 68) = σ3 at hput s3 g3
      have hA : apC N 4 = [Value.int .i64 (N.apl 0), .int .i64 (N.apl 1), .int .i64 (N.apl 2), .int .i64 (N.apl 3)] := rfl
      rw [hA] at g1 hput g3
      rw [decide_eq_false (by decide), br_false, lds_all (n := 4) g1 rfl, uncons_c, asI_i, uncons_c, asI_i, uncons_c, asI_i, uncons_c, asI_i, endl_n, hput, lds_all (n := 4) g3 rfl, uncons_c, asI_i, uncons_c, asI_i, uncons_c, asI_i, uncons_c, asI_i, endl_n] at el
      exact ⟨σ3, el, hs.fresh s3 (fun x hx => .inr (by simp at hx; omega))⟩
    have hi := hI.st v (by omega)
    have hlen := hi.len
    have hf1 := hi.f1
    have hw : IntKind.wrap .i64 ((v : Int) + 1) = ((v + 1 : Nat) : Int) := by rw [wrap_in _ (by omega) (by omega)]; omega
    have iv : inRange (v : Int) 4 = true := by simp [inRange]; omega
    rw [decide_eq_true (by omega), br_true, need_of iv, show ∀ K : Value → Res, nth [Value.pointer (some ⟨a 0, 0, none⟩), Value.pointer (some ⟨a 1, 0, none⟩), Value.pointer (some ⟨a 2, 0, none⟩), Value.pointer (some ⟨a 3, 0, none⟩)] (Int.toNat (v : Int) * 1) K = K (ptr (a v)) from fun K => ptr_nth a v (by omega) K, asP_p, S.dropped_spec ((h.idle hs).st v (by omega)) L k hf1 (by omega), bnd_some, asT_t, toList2, uncons_c, asI_i, uncons_c, asI_i, endl_n, need_of iv, put_int g1 _ _ _ (by simp [apC]; omega), hw, show (N.st v).first - 1 = N.apl v from rfl, apC_set N v (by omega)] at el
    have s2 := Same.set σ' t1 (.own (apC N (v + 1)) 68)
    obtain ⟨σ3, e3, s3⟩ := napplied_loop L k h hI hc ht0 ht1 h01 n (v + 1) _ (by omega) (by omega) (hs.fresh s2 (fun x hx => .inr (by simp at hx; omega))) (get_set_same _ _ _) ⟨x, (s2.2 t0 l0 (by simpa using h01)).trans g0, hx⟩ (by simpa using l0) (by simpa using l1)
    exact ⟨σ3, el.trans e3, s3⟩
theorem napplied_spec (L k : Nat) (hL : 100000 < L) (h : NdX σ0 σ nd g m d a F N R) (hI : N.Inv c) (hc : c ≤ 899) : ∃ σ', evCall Tryz.prog env L (k + 2) 26 [ptr nd] σ = some (N.apV, σ') ∧ Same σ σ' [] := by
  rw [f26_eq]
  have s1 : Same σ (σ.new (.own [.int .i64 0, .int .i64 0, .int .i64 0, .int .i64 0] 68)) [] := Same.new _ _ _
  have g1 : (σ.new (.own [.int .i64 0, .int .i64 0, .int .i64 0, .int .i64 0] 68)).get σ.next = some (.own [.int .i64 0, .int .i64 0, .int .i64 0, .int .i64 0] 68) := get_new_same _ _
  have n1 : (σ.new (.own [.int .i64 0, .int .i64 0, .int .i64 0, .int .i64 0] 68)).next = σ.next + 1 := rfl
  generalize σ.new (.own [.int .i64 0, .int .i64 0, .int .i64 0, .int .i64 0] 68) = σ1 at s1 g1 n1
  have s2 : Same σ1 (σ1.new (.own [.int .i64 0, .int .i64 0, .int .i64 0, .int .i64 0] 68)) [] := Same.new _ _ _
  have g2 : (σ1.new (.own [.int .i64 0, .int .i64 0, .int .i64 0, .int .i64 0] 68)).get σ1.next = some (.own [.int .i64 0, .int .i64 0, .int .i64 0, .int .i64 0] 68) := get_new_same _ _
  have n2 : (σ1.new (.own [.int .i64 0, .int .i64 0, .int .i64 0, .int .i64 0] 68)).next = σ1.next + 1 := rfl
  generalize σ1.new (.own [.int .i64 0, .int .i64 0, .int .i64 0, .int .i64 0] 68) = σ2 at s2 g2 n2
  have s02 := s1.trans s2
  rw [lds_own (n := 4) _ (h.idle s02).nd (by simp [ndc])]
  show ∃ σ', (uncons [ptr (a 0), ptr (a 1), ptr (a 2), ptr (a 3)] _) = _ ∧ _
  rw [uncons_c, asP_p, uncons_c, asP_p, uncons_c, asP_p, uncons_c, asP_p, endl_n]
  obtain ⟨σ3, e3, s3⟩ := napplied_loop L k h hI hc (t0 := σ.next) (t1 := σ1.next) (by omega) (by omega) (by omega) L 0 σ2 (by omega) (by omega) s02 g2 ⟨_, (s2.2 σ.next (by omega) (by simp)).trans g1, rfl⟩ (by omega) (by omega)
  exact ⟨σ3, e3, s3⟩
end
end Go.AM.Bk

namespace Go.AM.Bk
open Go.Proofs
def OkG (l : List Int) : Prop := (∀ v ∈ l, 0 ≤ v ∧ v < 4) ∧ l.Nodup
def gOf (l : List Int) : GS := ⟨fun v => decide ((v : Int) ∈ l), []⟩
theorem wrong44 (L k : Nat) (σ : St) (at_ e : Int) (he : e ≠ 0) : ∃ v σ', evCall Tryz.prog env L (k + 2) 44 [.int .i64 at_, .int .i64 e] σ = some (v, σ') ∧ Same σ σ' [] := by
  rw [f44_eq, f42_eq, eqNil_iface, br_false]
  have hb : ∀ K : Res, eqErr (.iface 70 (.int .i64 e)) 70 .i64 0 (fun v2 => br v2 (some (Value.nilIface, σ)) K) = K := by
    intro K
    have : eqErr (.iface 70 (.int .i64 e)) 70 .i64 0 (fun v2 => br v2 (some (Value.nilIface, σ)) K) = br (e == 0) (some (Value.nilIface, σ)) K := by simp [eqErr]
    rw [this, show (e == 0) = false by simpa using he, br_false]
  rw [hb, need_true, need_of (show oneCell (Value.iface 70 (Value.int .i64 e)) = true from rfl), need_true, bnd_some]
  exact ⟨_, _, rfl, Same.new _ _ _⟩
theorem there43 (L k : Nat) (σ : St) (v : Int) : evCall Tryz.prog env L (k + 1) 43 [.int .i64 v] σ = some (.bool (decide (0 ≤ v ∧ v < 4)), σ) := by
  rw [f43_eq]
  by_cases h : v ≥ 0
  · rw [decide_eq_true h, br_true]
    by_cases h4 : v < 4
    · rw [decide_eq_true h4, decide_eq_true ⟨h, h4⟩]
    · rw [decide_eq_false h4, decide_eq_false (fun hx => h4 hx.2)]
  · rw [decide_eq_false h, br_false, decide_eq_false (fun hx => h hx.1)]
theorem gnew_loop (L k : Nat) {σ0 σ1 : St} {ad : Option Addr} {l : List Int} {z : Nat} (hl : l.length ≤ 1000) (hH : Holds σ0 1 c1 ad l) (h01 : σ0.next ≤ σ1.next) {g : Nat} (hg0 : σ1.next ≤ g) : ∀ (n i : Nat) (σ : St), i ≤ l.length → l.length - i < n → Same σ1 σ [] → Kept' σ0.next σ0 σ → σ.get g = some (.own (bv (gOf (l.take i)).f ++ [.slice none 0 0]) 111) → g < σ.next → OkG (l.take i) →
    (∃ e σ', ¬ OkG l ∧ lpAt Tryz.prog env L (k + 2) 12 [true, true, false, true] [] n [(4, ptr g), (9, .slice ad l.length z), (10, .int .i64 l.length), (11, .int .i64 i)] σ = some (.tuple #[.pointer none, e], σ') ∧ Same σ1 σ' []) ∨
    (∃ σ', OkG l ∧ lpAt Tryz.prog env L (k + 2) 12 [true, true, false, true] [] n [(4, ptr g), (9, .slice ad l.length z), (10, .int .i64 l.length), (11, .int .i64 i)] σ = some (.tuple #[ptr g, .nilIface], σ') ∧ σ'.get g = some (.own (bv (gOf l).f ++ [.slice none 0 0]) 111) ∧ Same σ1 σ' [] ∧ g < σ'.next)
  | 0, i, σ, _, hn, _, _, _, _, _ => by omega
  | n + 1, i, σ, hi, hn, hs, hk, hg, hgl, hok => by
    rw [f12_l3]
    by_cases hie : i = l.length
    · subst hie
      rw [List.take_length] at hg hok
      rw [decide_eq_false (by omega), br_false]
      exact .inr ⟨σ, hok, rfl, hg, hs, hgl⟩
    have hget : l[i]? = some l[i] := List.getElem?_eq_getElem (by omega)
    have htk : l.take (i + 1) = l.take i ++ [l[i]] := by rw [List.take_add_one, hget]; rfl
    have hdr : l = l.take i ++ l[i] :: l.drop (i + 1) := by rw [← List.drop_eq_getElem_cons (by omega), List.take_append_drop]
    obtain ⟨q, e, hat⟩ := hH.ld hk hget
    generalize l[i] = v at *
    have hw : IntKind.wrap .i64 ((i : Int) + 1) = ((i + 1 : Nat) : Int) := by rw [wrap_in _ (by omega) (by omega)]; omega
    subst e
    rw [decide_eq_true (by omega), br_true, need_of (by simp [inRange]; omega), adr_some, hat 0 (.int .i64 v) _ (by omega) rfl (by simp), asI_i, there43 L (k + 1), bnd_some, asB_b]
    by_cases hv : 0 ≤ v ∧ v < 4
    rotate_left
    · obtain ⟨e, σ2, g2, s2⟩ := wrong44 L k σ v 5 (by decide)
      rw [decide_eq_false hv, not_false, br_true, g2, bnd_some]
      refine .inl ⟨e, σ2, fun h => hv (h.1 v (by rw [hdr]; simp)), rfl, hs.trans s2⟩
    obtain ⟨u, hu⟩ : ∃ u : Nat, v = u := ⟨v.toNat, by omega⟩
    subst hu
    have hu4 : u < 4 := by omega
    rw [decide_eq_true hv, not_true, br_false, need_of (by simp [inRange]; omega), ld_at hg (0 + 0 + Int.toNat (u : Int) * 1) (.bool (decide ((u : Int) ∈ l.take i))) (by
      rcases (by omega : u = 0 ∨ u = 1 ∨ u = 2 ∨ u = 3) with rfl | rfl | rfl | rfl <;> rfl), asB_b]
    by_cases hm : (u : Int) ∈ l.take i
    · obtain ⟨e, σ2, g2, s2⟩ := wrong44 L k σ u 1 (by decide)
      rw [decide_eq_true hm, br_true, g2, bnd_some]
      refine .inl ⟨e, σ2, fun h => ?_, rfl, hs.trans s2⟩
      have hn := h.2
      rw [hdr, List.nodup_append] at hn
      exact hn.2.2 _ hm _ (by simp) rfl
    · rw [decide_eq_false hm, br_false, need_of (by simp [inRange]; omega), put_bool hg _ _ (by simp [bv]; omega), hw]
      have hset : (bv (gOf (l.take i)).f ++ [Value.slice none 0 0]).set (0 + 0 + Int.toNat (u : Int) * 1) (.bool true) = bv (gOf (l.take (i + 1))).f ++ [.slice none 0 0] := by
        rw [htk]
        unfold gOf bv
        dsimp only
        have hd : ∀ x : Nat, decide ((x : Int) ∈ l.take i ++ [(u : Int)]) = if x = u then true else decide ((x : Int) ∈ l.take i) := fun x => by
          by_cases hx : x = u
          · subst hx; simp
          · have : ¬ (x : Int) = (u : Int) := by omega
            simp [hx, this]
        rw [hd, hd, hd, hd]
        rcases (by omega : u = 0 ∨ u = 1 ∨ u = 2 ∨ u = 3) with rfl | rfl | rfl | rfl <;> rfl
      rw [hset]
      have s2 := Same.set σ g (.own (bv (gOf (l.take (i + 1))).f ++ [.slice none 0 0]) 111)
      have s12 : Same σ1 _ [] := hs.fresh s2 (fun x hx => .inr (by simp at hx; omega))
      refine gnew_loop L k hl hH h01 hg0 n (i + 1) _ (by omega) (by omega) s12 ?_ (get_set_same _ _ _) (by simpa using hgl) ?_
      · refine hk.step s2 (fun x hx => ?_)
        simp at hx
        subst hx
        have := hk.1
        have h1 := hs.1
        exact Nat.le_trans h01 hg0
      · rw [htk]
        refine ⟨fun x hx => ?_, ?_⟩
        · rcases List.mem_append.1 hx with hx | hx
          · exact hok.1 x hx
          · simp at hx; subst hx; exact hv
        · rw [List.nodup_append]
          exact ⟨hok.2, by simp, fun x hx y hy => by simp at hy; subst hy; rintro rfl; exact hm hx⟩
theorem gnew_spec (L k : Nat) (hL : 100000 < L) {σ0 σ : St} (hk : Kept' σ0.next σ0 σ) {ad : Option Addr} {l : List Int} (z : Nat) (hl : l.length ≤ 1000) (hH : Holds σ0 1 c1 ad l) :
    (∃ e σ', ¬ OkG l ∧ evCall Tryz.prog env L (k + 3) 12 [.slice ad l.length z] σ = some (.tuple #[.pointer none, e], σ') ∧ Same σ σ' []) ∨
    (∃ g σ', OkG l ∧ evCall Tryz.prog env L (k + 3) 12 [.slice ad l.length z] σ = some (.tuple #[ptr g, .nilIface], σ') ∧ Grp σ' g [g] (gOf l) ∧ Same σ σ' [] ∧ σ.next ≤ g) := by
  rw [f12_eq]
  have s1 : Same σ (σ.new (.own [.bool false, .bool false, .bool false, .bool false, .slice none 0 0] 111)) [] := Same.new _ _ _
  have g1 : (σ.new (.own [.bool false, .bool false, .bool false, .bool false, .slice none 0 0] 111)).get σ.next = some (.own [.bool false, .bool false, .bool false, .bool false, .slice none 0 0] 111) := get_new_same _ _
  have n1 : (σ.new (.own [.bool false, .bool false, .bool false, .bool false, .slice none 0 0] 111)).next = σ.next + 1 := rfl
  generalize σ.new (.own [.bool false, .bool false, .bool false, .bool false, .slice none 0 0] 111) = σ1 at s1 g1 n1
  rcases gnew_loop (z := z) L k hl hH hk.1 (g := σ.next) (Nat.le_refl _) L 0 σ1 (by omega) (by omega) s1 (hk.step s1 (by simp)) (by rw [List.take_zero]; exact g1) (by omega) ⟨by simp, by simp⟩ with ⟨e, σ2, hno, e2, s2⟩ | ⟨σ2, hok, e2, g2, s2, l2⟩
  · exact .inl ⟨e, σ2, hno, e2, s2⟩
  · exact .inr ⟨σ.next, σ2, hok, e2, ⟨⟨none, 0, [], rfl, by simp, g2, Row.nil _ _ _ _⟩, by simpa using l2, by simp [gOf], by simp [gOf]⟩, s2, Nat.le_refl _⟩
theorem nnew_spec (L k : Nat) (hL : 100000 < L) {σ0 σ : St} {d g : Nat} {F : List Nat} {R : List (List Nat)} (hD : D.Disk σ d F fresh66 []) (hO : Owns σ0 σ (F :: R)) :
    ∃ nd m a F' σ', evCall Tryz.prog env L (k + 11) 13 [ptr d, ptr g] σ = some (.tuple #[ptr nd, .nilIface], σ') ∧ NdX σ0 σ' nd g m d a F' newN R ∧ Kp σ σ' R := by
  obtain ⟨nd, m, a0, a1, a2, a3, σ', e, hI, hn, h0, h1, h2, h3, hk⟩ := bnew_spec L k hL (g := g) hD hO
  refine ⟨nd, m, fun v => if v = 0 then a0 else if v = 1 then a1 else if v = 2 then a2 else a3, fun v => [if v = 0 then a0 else if v = 1 then a1 else if v = 2 then a2 else a3], σ', e, ⟨?_, hn, ?_⟩, hk⟩
  · refine hI.perm (fun i => if i < 4 then 3 - i else i) (fun i j e => ?_) (fun i H hH => ?_)
    · by_cases h1 : i < 4 <;> by_cases h2 : j < 4 <;> simp [h1, h2] at e <;> omega
    · match i, hH with
      | 0, hH => exact hH
      | 1, hH => exact hH
      | 2, hH => exact hH
      | 3, hH => exact hH
      | i + 4, hH => exact hH
  · exact four h0 h1 h2 h3
end Go.AM.Bk

namespace Go.AM.Bk
open Go.Proofs
def GS.last (gs : GS) : Int := match gs.ch.getLast? with | some c => c.mark | none => 0
def putE (gs : GS) (m v : Int) (gone : Bool) : Int :=
  if ¬ (0 ≤ v ∧ v < 4) then 5 else if m ≤ gs.last then 10 else if m > 1152921504606846975 then 1 else if (beh gs.f gs.ch v.toNat != gone) = true then 9 else if 100 ≤ gs.ch.length then 6 else 0
def GS.add (gs : GS) (m v : Int) (gone : Bool) : GS := ⟨gs.f, gs.ch ++ [⟨m, v.toNat, gone⟩]⟩
def GErr (σ : St) (v : Value) (e : Int) : Prop := ∃ q w a, v = .iface 162 (ptr q) ∧ σ.get q = some (.own [.string w, .int .i64 a, .iface 70 (.int .i64 e)] 164) ∧ q < σ.next
theorem wrongM (L k : Nat) (σ : St) (at_ e : Int) (he : e ≠ 0) : ∃ v σ', evCall Tryz.prog env L (k + 2) 44 [.int .i64 at_, .int .i64 e] σ = some (v, σ') ∧ GErr σ' v e ∧ Same σ σ' [] := by
  rw [f44_eq, f42_eq, eqNil_iface, br_false]
  have hb : ∀ K : Res, eqErr (.iface 70 (.int .i64 e)) 70 .i64 0 (fun v2 => br v2 (some (Value.nilIface, σ)) K) = K := by
    intro K
    have : eqErr (.iface 70 (.int .i64 e)) 70 .i64 0 (fun v2 => br v2 (some (Value.nilIface, σ)) K) = br (e == 0) (some (Value.nilIface, σ)) K := by simp [eqErr]
    rw [this, show (e == 0) = false by simpa using he, br_false]
  rw [hb, need_true, need_of (show oneCell (Value.iface 70 (Value.int .i64 e)) = true from rfl), need_true, bnd_some]
  exact ⟨_, _, rfl, ⟨σ.next, _, _, rfl, get_new_same _ _, by simp⟩, Same.new _ _ _⟩
section
variable {σ : St} {g : Nat} {G : List Nat} {gs : GS}
theorem glast_spec (L k : Nat) (h : Grp σ g G gs) : evCall Tryz.prog env L (k + 1) 123 [ptr g] σ = some (.int .i64 gs.last, σ) := by
  have h100 := h.len
  obtain ⟨ad, z, q, rfl, hgq, hg, hR⟩ := h.ex
  rw [f123_eq, ld_at hg 4 _ rfl, asSl_s]
  unfold GS.last
  by_cases h0 : gs.ch = []
  · rw [h0]; rfl
  · have hlen : 0 < gs.ch.length := List.length_pos_iff.2 h0
    have hget : gs.ch[gs.ch.length - 1]? = some (gs.ch.getLast h0) := by rw [List.getLast_eq_getElem]; exact List.getElem?_eq_getElem (by omega)
    obtain ⟨p, e, hat⟩ := hR.at (fun _ => rfl) hget
    subst e
    have hw : IntKind.wrap .i64 ((gs.ch.length : Int) - 1) = ((gs.ch.length - 1 : Nat) : Int) := by rw [wrap_in _ (by omega) (by omega)]; omega
    rw [show (((gs.ch.length : Nat) : Int) == 0) = false by simpa using h0, br_false, ld_at hg 4 _ rfl, asSl_s, ld_at hg 4 _ rfl, asSl_s, hw, need_of (by simp [inRange]; omega), adr_some, hat 0 (.int .i64 (gs.ch.getLast h0).mark) _ (by omega) rfl (by simp), asI_i, List.getLast?_eq_some_getLast h0]
end
theorem gput (L k : Nat) (hL : 100000 < L) {σ : St} {g : Nat} {G : List Nat} {gs : GS} (h : Grp σ g G gs) (m v : Int) (gone : Bool) :
    ∃ r G' σ', evCall Tryz.prog env L (k + 3) 80 [ptr g, .agg [.int .i64 m, .int .i64 v, .bool gone].toArray] σ = some (r, σ') ∧ Turn σ σ' G G' ∧
      ((putE gs m v gone ≠ 0 ∧ GErr σ' r (putE gs m v gone) ∧ Grp σ' g G' gs) ∨ (putE gs m v gone = 0 ∧ r = .nilIface ∧ Grp σ' g G' (gs.add m v gone))) := by
  have h100 := h.len
  rw [f80_eq]
  have s1 : Same σ (σ.new (.own [.int .i64 m, .int .i64 v, .bool gone] 158)) [] := Same.new _ _ _
  have g1 : (σ.new (.own [.int .i64 m, .int .i64 v, .bool gone] 158)).get σ.next = some (.own [.int .i64 m, .int .i64 v, .bool gone] 158) := get_new_same _ _
  have n1 : (σ.new (.own [.int .i64 m, .int .i64 v, .bool gone] 158)).next = σ.next + 1 := rfl
  generalize σ.new (.own [.int .i64 m, .int .i64 v, .bool gone] 158) = σ1 at s1 g1 n1
  have h1 := h.idle s1
  have err : ∀ {σ2 : St} (e : Int), e ≠ 0 → e = putE gs m v gone → Same σ σ2 [] → ∃ r G' σ', (bnd (evCall Tryz.prog env L (k + 2) 44 [.int .i64 v, .int .i64 e] σ2) fun v8 v9 => some (pack [v8], v9)) = some (r, σ') ∧ Turn σ σ' G G' ∧
      ((putE gs m v gone ≠ 0 ∧ GErr σ' r (putE gs m v gone) ∧ Grp σ' g G' gs) ∨ (putE gs m v gone = 0 ∧ r = .nilIface ∧ Grp σ' g G' (gs.add m v gone))) := by
    intro σ2 e he hE hs
    obtain ⟨r, σ3, g3, hr, s3⟩ := wrongM L k σ2 v e he
    rw [g3, bnd_some]
    rw [hE] at he hr
    exact ⟨r, G, σ3, rfl, Turn.idle (hs.trans s3) h.lt, .inl ⟨he, hr, h.idle (hs.trans s3)⟩⟩
  rw [ld_at g1 1 (.int .i64 v) rfl, asI_i, there43 L (k + 1), bnd_some, asB_b]
  by_cases hv : 0 ≤ v ∧ v < 4
  rotate_left
  · rw [decide_eq_false hv, not_false, br_true, ld_at g1 1 (.int .i64 v) rfl, asI_i]
    exact err 5 (by decide) (by unfold putE; rw [if_pos hv]) s1
  rw [decide_eq_true hv, not_true, br_false, ld_at g1 0 (.int .i64 m) rfl, asI_i, glast_spec L (k + 1) h1, bnd_some, asI_i, ld_at g1 0 (.int .i64 m) rfl, asI_i, chk_same]
  by_cases hm : m ≤ gs.last
  · rw [decide_eq_true hm, br_true, ld_at g1 1 (.int .i64 v) rfl, asI_i]
    exact err 10 (by decide) (by unfold putE; rw [if_neg (by simpa using hv), if_pos hm]) s1
  rw [decide_eq_false hm, br_false, ld_at g1 0 (.int .i64 m) rfl, asI_i]
  by_cases hm2 : m > 1152921504606846975
  · rw [decide_eq_true hm2, br_true, ld_at g1 1 (.int .i64 v) rfl, asI_i]
    exact err 1 (by decide) (by unfold putE; rw [if_neg (by simpa using hv), if_neg hm, if_pos hm2]) s1
  obtain ⟨u, rfl⟩ : ∃ u : Nat, v = u := ⟨v.toNat, by omega⟩
  have hu4 : u < 4 := by omega
  obtain ⟨ad, z, q, hG, hgq, hg, hR⟩ := h1.ex
  obtain ⟨σ2, g2, s2⟩ := behind_spec L (k + 1) (by omega) h1 gs.ch.length (Nat.le_refl _)
  rw [List.take_length] at g2
  have g12 : σ2.get σ.next = _ := (s2.2 σ.next (by omega) (by simp)).trans g1
  have hgl1 := h1.lt g (by rw [hG]; simp)
  have hg2 : σ2.get g = _ := (s2.2 g hgl1 (by simp)).trans hg
  have hR2 := hR.same s2 (by simp)
  have s02 := s1.trans s2
  rw [decide_eq_false hm2, br_false, ld_at hg 4 _ rfl, asSl_s, g2, bnd_some, asAgL_a]
  have hbv : ∀ K : Value → Res, nth [.bool (beh gs.f gs.ch 0), .bool (beh gs.f gs.ch 1), .bool (beh gs.f gs.ch 2), .bool (beh gs.f gs.ch 3)] (Int.toNat (u : Int) * 1) K = K (.bool (beh gs.f gs.ch u)) := fun K => bv_nth (beh gs.f gs.ch) u hu4 K
  have hun : (u : Int).toNat = u := rfl
  show ∃ r G' σ', (uncons [Value.bool (beh gs.f gs.ch 0), .bool (beh gs.f gs.ch 1), .bool (beh gs.f gs.ch 2), .bool (beh gs.f gs.ch 3)] _) = _ ∧ _
  rw [uncons_c, asB_b, uncons_c, asB_b, uncons_c, asB_b, uncons_c, asB_b, endl_n, ld_at g12 1 (.int .i64 u) rfl, asI_i, ld_at g1 1 (.int .i64 u) rfl, asI_i, chk_same, need_of (by simp [inRange]; omega), hbv, asB_b, ld_at g12 2 (.bool gone) rfl, asB_b, ld_at g1 2 (.bool gone) rfl, asB_b, chk_same]
  have hxor : (!beh gs.f gs.ch u == gone) = (beh gs.f gs.ch u != gone) := by cases beh gs.f gs.ch u <;> cases gone <;> rfl
  rw [hxor]
  by_cases hb : (beh gs.f gs.ch u != gone) = true
  · rw [hb, br_true, ld_at g12 1 (.int .i64 u) rfl, asI_i]
    exact err 9 (by decide) (by unfold putE; rw [if_neg (by simpa using hv), if_neg hm, if_neg hm2, hun, if_pos hb]) s02
  have hb' : (beh gs.f gs.ch u != gone) = false := by simpa using hb
  rw [hb', br_false, ld_at hg2 4 _ rfl, asSl_s]
  by_cases hw : ((gs.ch.length : Nat) : Int) ≥ 100
  · rw [decide_eq_true hw, br_true, ld_at g12 1 (.int .i64 u) rfl, asI_i]
    exact err 6 (by decide) (by unfold putE; rw [if_neg (by simpa using hv), if_neg hm, if_neg hm2, hun, if_neg hb, if_pos (by omega)]) s02
  rw [decide_eq_false hw, br_false, ld_at hg2 4 _ rfl, asSl_s, lds_all (n := 3) g12 rfl, uncons_c, asI_i, uncons_c, asI_i, uncons_c, asB_b, endl_n]
  have hE0 : putE gs m (u : Int) gone = 0 := by unfold putE; rw [if_neg (by simpa using hv), if_neg hm, if_neg hm2, hun, if_neg hb, if_neg (by omega)]
  have s3 : Same σ2 (σ2.new (.own [.int .i64 m, .int .i64 u, .bool gone] 158)) [] := Same.new _ _ _
  have g3 : (σ2.new (.own [.int .i64 m, .int .i64 u, .bool gone] 158)).get σ2.next = some (.own [.int .i64 m, .int .i64 u, .bool gone] 158) := get_new_same _ _
  generalize σ2.new (.own [.int .i64 m, .int .i64 u, .bool gone] 158) = σ3 at s3 g3
  have n2 := s2.1
  have n3 := s3.1
  have hg3 : σ3.get g = _ := (s3.2 g (by omega) (by simp)).trans hg2
  obtain ⟨ad', z', q', σ4, hgrow, hR4, s4, hq4⟩ := grow_row (by_ := 24) (hR2.same s3 (by simp)) c3_len c3_one (by omega) [⟨m, u, gone⟩] (c3 ⟨m, u, gone⟩) (by simp) 1 rfl (by unfold roomTop; omega) (by unfold sizeTop; omega)
  have hgrow' : ∀ K, grow 158 3 24 ad gs.ch.length z 1 [.int .i64 m, .int .i64 u, .bool gone] σ3 K = K ad' (gs.ch.length + 1) z' σ4 := hgrow
  have hg4 : σ4.get g = _ := (s4.2 g (by omega) hgq).trans hg3
  have n4 := s4.1
  rw [ld_at hg3 4 _ rfl, asSl_s, chk_same, row_all (n := 3) g3 rfl (by omega), hgrow', put_sl hg4 4 _ _ _ (by simp)]
  have s5 := Same.set σ4 g (.own (List.set [.bool (gs.f 0), .bool (gs.f 1), .bool (gs.f 2), .bool (gs.f 3), .slice ad gs.ch.length z] 4 (.slice ad' (gs.ch.length + 1) z')) 111)
  have hgq' : g ∉ q' := fun hx => by
    rcases hq4 g hx with h1 | h1
    · exact hgq h1
    · omega
  have hq1 := hR.lt
  refine ⟨.nilIface, g :: q', _, rfl, ⟨⟨by simp; omega, fun x hx hxG => ?_⟩, fun x hx => ?_⟩, .inr ⟨hE0, rfl, ⟨⟨ad', z', q', rfl, hgq', ?_, ?_⟩, fun x hx => ?_, fun c hc => ?_, ?_⟩⟩⟩
  · rw [hG] at hxG
    simp only [List.mem_cons, not_or] at hxG
    rw [s5.2 x (by omega) (by simpa using hxG.1), s4.2 x (by omega) hxG.2, s3.2 x (by omega) (by simp), s02.2 x hx (by simp)]
  · rcases List.mem_cons.1 hx with rfl | hx
    · exact ⟨.inl (by rw [hG]; simp), by simp; omega⟩
    · refine ⟨?_, by have := hR4.lt x hx; simpa using this⟩
      rcases hq4 x hx with h1 | h1
      · exact .inl (by rw [hG]; simp [h1])
      · exact .inr (by omega)
  · rw [get_set_same]; unfold GS.add; dsimp only; rw [List.length_append]; rfl
  · exact hR4.same s5 (fun x hx => by simp; rintro rfl; exact hgq' hx)
  · rcases List.mem_cons.1 hx with rfl | hx
    · simp; omega
    · have := hR4.lt x hx; simpa using this
  · unfold GS.add at hc
    rcases List.mem_append.1 hc with hc | hc
    · exact h.vols c hc
    · simp at hc; subst hc; exact hu4
  · unfold GS.add; dsimp only; rw [List.length_append, List.length_singleton]; omega
theorem gadd_spec (L k : Nat) (hL : 100000 < L) {σ : St} {g : Nat} {G : List Nat} {gs : GS} (h : Grp σ g G gs) (m v : Int) :
    ∃ r G' σ', evCall Tryz.prog env L (k + 4) 35 [ptr g, .int .i64 v, .int .i64 m] σ = some (r, σ') ∧ Turn σ σ' G G' ∧
      ((putE gs m v false ≠ 0 ∧ GErr σ' r (putE gs m v false) ∧ Grp σ' g G' gs) ∨ (putE gs m v false = 0 ∧ r = .nilIface ∧ Grp σ' g G' (gs.add m v false))) := by
  obtain ⟨r, G', σ', e, h'⟩ := gput L k hL h m v false
  have e' : evCall Tryz.prog env L (k + 3) 80 [ptr g, .agg #[.int .i64 m, .int .i64 v, .bool false]] σ = some (r, σ') := e
  rw [f35_eq, need_true, need_true, e', bnd_some]
  exact ⟨r, G', σ', rfl, h'⟩
theorem gremove_spec (L k : Nat) (hL : 100000 < L) {σ : St} {g : Nat} {G : List Nat} {gs : GS} (h : Grp σ g G gs) (m v : Int) :
    ∃ r G' σ', evCall Tryz.prog env L (k + 4) 37 [ptr g, .int .i64 v, .int .i64 m] σ = some (r, σ') ∧ Turn σ σ' G G' ∧
      ((putE gs m v true ≠ 0 ∧ GErr σ' r (putE gs m v true) ∧ Grp σ' g G' gs) ∨ (putE gs m v true = 0 ∧ r = .nilIface ∧ Grp σ' g G' (gs.add m v true))) := by
  obtain ⟨r, G', σ', e, h'⟩ := gput L k hL h m v true
  have e' : evCall Tryz.prog env L (k + 3) 80 [ptr g, .agg #[.int .i64 m, .int .i64 v, .bool true]] σ = some (r, σ') := e
  rw [f37_eq, need_true, need_true, e', bnd_some]
  exact ⟨r, G', σ', rfl, h'⟩
end Go.AM.Bk
