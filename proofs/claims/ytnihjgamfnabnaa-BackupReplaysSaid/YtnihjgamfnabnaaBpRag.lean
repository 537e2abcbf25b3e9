/-
  Texts laid together: BpRa, BpRb, BpRc, BpRd, BpArgB.
-/
import Derived.Test.YtnihjgamfnabnaaBpMbg
import Derived.Test.YtnihjgamfnabnaaEqBp
import Derived.Test.YtnihjgamfnabnaaAm13g
import Derived.Test.YtnihjgamfnabnaaEnvBp
set_option linter.unusedVariables false
set_option linter.unusedSimpArgs false
set_option linter.unusedSectionVars false
/-
  BackupReplays, plain: what holds of a backup, and of all that was taken.
-/
namespace Go.AM.Bp

def NS.ap (N : NS) (v : Nat) : Nat := ((N.st v).first - 1).toNat
abbrev al : List Nat := List.range 4
theorem al_mem {v : Nat} (h : v < 4) : v ∈ al := by simpa using h
theorem al_nodup : al.Nodup := List.nodup_range
theorem layAll_congr {ls ls' : Nat → List S.Rec} : ∀ (l : List Nat) (b : List ByteArray), (∀ v ∈ l, ls v = ls' v) → layAll ls l b = layAll ls' l b
  | [], b, _ => rfl
  | v :: l, b, h => by
    unfold layAll
    rw [List.foldl_cons, List.foldl_cons, h v (by simp)]
    exact layAll_congr l _ (fun u hu => h u (by simp [hu]))
theorem layAll_more {v : Nat} {l : List Nat} (hv : v ∈ l) (hn : l.Nodup) (b : List ByteArray) : ∀ (rs : List S.Rec) (ls : Nat → List S.Rec), (∀ u, ∀ r ∈ ls u, S.Can r) → (∀ r ∈ rs, S.Can r) → replay (layAll ls l b) v rs = layAll (upd ls v (ls v ++ rs)) l b
  | [], ls, hc, _ => by
    rw [List.append_nil]
    exact (layAll_congr l b (fun u _ => by
      by_cases e : u = v
      · subst e; rw [upd_same]
      · rw [upd_ne _ _ e])).symm
  | r :: rs, ls, hc, hr => by
    have h1 := layAll_app hc (hr r (by simp)) l b hv hn
    have h2 : replay (layAll ls l b) v (r :: rs) = replay (layAll (upd ls v (ls v ++ [r])) l b) v rs := by
      rw [h1]
      unfold replay
      rw [List.foldl_cons]
    rw [h2, layAll_more hv hn b rs _ (fun u x hx => ?_) (fun x hx => hr x (by simp [hx]))]
    · apply layAll_congr
      intro u _
      by_cases e : u = v
      · subst e; rw [upd_same, upd_same, upd_same, List.append_assoc]; rfl
      · rw [upd_ne _ _ e, upd_ne _ _ e, upd_ne _ _ e]
    · by_cases e : u = v
      · subst e
        rw [upd_same] at hx
        rcases List.mem_append.1 hx with hx | hx
        · exact hc u x hx
        · simp at hx; rw [hx]; exact hr r (by simp)
      · rw [upd_ne _ _ e] at hx; exact hc u x hx
/-- Up to where a marker's records go. -/
def NS.upN (N : NS) (v : Nat) (m : Int) : Nat := match upTo (N.st v).rs m with | some j => j + 1 | none => 0
theorem layOne_up (N : NS) (m : Int) (b : List ByteArray) (v : Nat) : N.layOne m b v = replay b v ((N.st v).rs.take (N.upN v m)) := by
  unfold NS.layOne NS.upN
  cases upTo (N.st v).rs m with
  | none => rfl
  | some j => rfl
theorem fold_lay (N : NS) (m : Int) (hcan : ∀ v, v < 4 → ∀ r ∈ (N.st v).rs, S.Can r) : ∀ (l : List Nat), (∀ v ∈ l, v < 4) → l.Nodup → ∀ (X : Nat → List S.Rec), (∀ u, ∀ r ∈ X u, S.Can r) →
    l.foldl (N.layOne m) (layAll X al noBlocks) = layAll (fun v => if v ∈ l then X v ++ (N.st v).rs.take (N.upN v m) else X v) al noBlocks
  | [], _, _, X, _ => rfl
  | v :: l, hl, hn, X, hX => by
    rw [List.nodup_cons] at hn
    have hv4 := hl v (by simp)
    rw [List.foldl_cons, layOne_up, layAll_more (al_mem hv4) al_nodup _ _ _ hX (fun r hr => hcan v hv4 r (List.mem_of_mem_take hr)), fold_lay N m hcan l (fun u hu => hl u (by simp [hu])) hn.2 _ (fun u r hr => ?_)]
    · apply layAll_congr
      intro u _
      by_cases e : u = v
      · subst e; rw [if_neg hn.1, if_pos (by simp), upd_same]
      · rw [upd_ne _ _ e]
        by_cases hu : u ∈ l
        · rw [if_pos hu, if_pos (by simp [hu])]
        · rw [if_neg hu, if_neg (by simp [hu, e])]
    · by_cases e : u = v
      · subst e
        rw [upd_same] at hr
        rcases List.mem_append.1 hr with hr | hr
        · exact hX u r hr
        · exact hcan u hv4 r (List.mem_of_mem_take hr)
      · rw [upd_ne _ _ e] at hr; exact hX u r hr

structure RI (N : NS) (gs : GS) (T : Nat → List S.Rec) (top : Int) (c : Nat) : Prop where
  inv : N.Inv c
  num : ∀ v, Num (T v)
  le : ∀ v, v < 4 → N.ap v ≤ (T v).length
  rs : ∀ v, v < 4 → (N.st v).rs = (T v).drop (N.ap v)
  bl : N.im.bl = layAll (fun v => (T v).take (N.ap v)) al noBlocks
  top0 : 0 ≤ top
  tops : ∀ v, ∀ r ∈ T v, r.number ≤ top
  kmt : (N.im.km : Int) ≤ top
  mkeq : ∀ v ∈ gs.at_ N.im.km, (N.st v).mark = N.im.km
  mkle : ∀ v, v < 4 → (N.st v).mark ≤ N.im.km
  wk : ∀ mk' bl' k, N.im.work = some (mk', bl', k) → (mk' : Int) ≤ top ∧ N.im.km < mk' ∧ bl' = N.lay gs mk' ∧ ∀ v ∈ gs.at_ mk', ∃ j, upTo (N.st v).rs mk' = some j
/-- The marker doesn't decrease; as long as it is the same, so is what was applied. -/
structure Le (N N' : NS) : Prop where
  km : N.im.km ≤ N'.im.km
  same : N.im.km = N'.im.km → ∀ v, v < 4 → N.ap v = N'.ap v
  ap : ∀ v, v < 4 → N.ap v ≤ N'.ap v
theorem Le.refl (N : NS) : Le N N := ⟨Nat.le_refl _, fun _ _ _ => rfl, fun _ _ => Nat.le_refl _⟩
theorem Le.trans {A B C : NS} (h : Le A B) (k : Le B C) : Le A C :=
  ⟨Nat.le_trans h.km k.km, fun e v hv => by
    have h1 := h.km; have h2 := k.km
    rw [h.same (by omega) v hv, k.same (by omega) v hv], fun v hv => Nat.le_trans (h.ap v hv) (k.ap v hv)⟩
theorem RI.mono {N : NS} {gs : GS} {T : Nat → List S.Rec} {top : Int} {c c' : Nat} (h : RI N gs T top c) (hc : c ≤ c') : RI N gs T top c' :=
  ⟨h.inv.mono hc, h.num, h.le, h.rs, h.bl, h.top0, h.tops, h.kmt, h.mkeq, h.mkle, h.wk⟩
section
variable {N : NS} {gs : GS} {T : Nat → List S.Rec} {top : Int} {c : Nat}
theorem RI.first (h : RI N gs T top c) (v : Nat) (hv : v < 4) : (N.st v).first = (N.ap v : Int) + 1 := by
  have := (h.inv.st v hv).f1
  unfold NS.ap; omega
theorem RI.next (h : RI N gs T top c) (v : Nat) (hv : v < 4) : (N.st v).first + (N.st v).rs.length = ((T v).length : Int) + 1 := by
  have h1 := h.le v hv
  rw [h.first v hv, h.rs v hv, List.length_drop]; omega
theorem RI.tlen (h : RI N gs T top c) (v : Nat) (hv : v < 4) : (T v).length ≤ c := by
  have h1 := h.next v hv
  have h2 := (h.inv.st v hv).len
  omega
theorem RI.new (gs : GS) : RI newN gs (fun _ => []) 0 0 :=
  ⟨newN_inv, fun _ => Num.nil, fun v _ => by show 0 ≤ 0; omega, fun v _ => rfl, by
    have : ∀ (l : List Nat) (b : List ByteArray), layAll (fun v => ([] : List S.Rec).take (newN.ap v)) l b = b := by
      intro l
      induction l with
      | nil => intro b; rfl
      | cons v l ih => intro b; unfold layAll; rw [List.foldl_cons]; exact ih b
    exact (this _ _).symm, by omega, fun v r hr => by simp at hr, by show ((0 : Nat) : Int) ≤ 0; omega, fun v _ => rfl, fun v _ => by show (0 : Int) ≤ ((0 : Nat) : Int); omega, fun mk' bl' k e => by cases e⟩
/-- Nothing to be dropped. -/
theorem drop_same {N : NS} {gs : GS} (hmk : ∀ v ∈ gs.at_ N.im.km, (N.st v).mark = N.im.km) : N.drop gs = N := by
  unfold NS.drop NS.dropL
  have : (fun v => if v ∈ gs.at_ (N.im.km : Int) ∧ (N.st v).mark ≠ (N.im.km : Int) then (N.st v).drop N.im.km else N.st v) = N.st := by
    funext v
    rw [if_neg]
    rintro ⟨h1, h2⟩
    exact h2 (hmk v h1)
  rw [this]
theorem upTo_app {rs : List S.Rec} {m : Int} {j : Nat} (h : upTo rs m = some j) (r : S.Rec) : upTo (rs ++ [r]) m = some j := by
  obtain ⟨x, hx, hh, hno, hl⟩ := upTo_inv h
  refine upTo_some (r := x) (by rw [List.getElem?_append_left hl]; exact hx) hh (fun j' r' hj' hr => hno j' r' hj' ?_)
  rw [List.getElem?_append_left (by omega)] at hr
  exact hr
/-- A record comes. -/
theorem RI.take (h : RI N gs T top c) (v : Nat) (hv : v < 4) (r : S.Rec) (hs : r.seq = ((T v).length : Int) + 1) :
    (S.Can r ∧ ((N.take v r).st v).last = r.seq ∧ RI (N.take v r) gs (upd T v (T v ++ [r])) (if top < r.number then r.number else top) (c + 1) ∧ Le N (N.take v r)) ∨
    (¬ S.Can r ∧ ((N.take v r).st v).last ≠ r.seq ∧ RI (N.take v r) gs T top (c + 1) ∧ Le N (N.take v r)) := by
  have hnx := h.next v hv
  by_cases hc : S.Can r
  · refine .inl ⟨hc, ?_⟩
    have hst : (N.take v r).st v = { N.st v with rs := (N.st v).rs ++ [r] } := by
      unfold NS.take; dsimp only; rw [upd_same]; unfold SS.take; rw [if_pos ⟨by omega, hc⟩]
    have hne : ∀ u, u ≠ v → (N.take v r).st u = N.st u := fun u e => by unfold NS.take; dsimp only; rw [upd_ne _ _ e]
    have hap : ∀ u, (N.take v r).ap u = N.ap u := fun u => by
      unfold NS.ap
      by_cases e : u = v
      · subst e; rw [hst]
      · rw [hne u e]
    have him : (N.take v r).im = N.im := rfl
    have hle := h.le v hv
    refine ⟨by rw [hst]; unfold SS.last; dsimp only; rw [List.length_append, List.length_singleton]; omega, ⟨h.inv.take v r, fun u => ?_, fun u hu => ?_, fun u hu => ?_, ?_, ?_, fun u x hx => ?_, ?_, fun u hu => ?_, fun u hu => ?_, fun mk' bl' k e => ?_⟩, ⟨Nat.le_refl _, fun _ u _ => (hap u).symm, fun u _ => by rw [hap u]; exact Nat.le_refl _⟩⟩
    · by_cases e : u = v
      · subst e; rw [upd_same]; exact (h.num u).app hc hs
      · rw [upd_ne _ _ e]; exact h.num u
    · rw [hap]
      by_cases e : u = v
      · subst e; rw [upd_same, List.length_append]; have := h.le u hu; omega
      · rw [upd_ne _ _ e]; exact h.le u hu
    · rw [hap]
      by_cases e : u = v
      · subst e; rw [upd_same, hst, List.drop_append_of_le_length hle]; dsimp only; rw [h.rs u hu]
      · rw [upd_ne _ _ e, hne u e]; exact h.rs u hu
    · rw [him, h.bl]
      apply layAll_congr
      intro u _
      rw [hap]
      by_cases e : u = v
      · subst e; rw [upd_same, List.take_append_of_le_length hle]
      · rw [upd_ne _ _ e]
    · have := h.top0; split <;> omega
    · have h2 : x.number ≤ top ∨ x = r := by
        by_cases e : u = v
        · subst e
          rw [upd_same] at hx
          rcases List.mem_append.1 hx with hx | hx
          · exact .inl (h.tops u x hx)
          · simp at hx; exact .inr hx
        · rw [upd_ne _ _ e] at hx; exact .inl (h.tops u x hx)
      rcases h2 with h2 | h2
      · split <;> omega
      · subst h2; split <;> omega
    · have := h.kmt; rw [him]; split <;> omega
    · rw [him] at hu ⊢
      by_cases e : u = v
      · subst e; rw [hst]; exact h.mkeq u hu
      · rw [hne u e]; exact h.mkeq u hu
    · rw [him]
      by_cases e : u = v
      · subst e; rw [hst]; exact h.mkle u hu
      · rw [hne u e]; exact h.mkle u hu
    · obtain ⟨w1, w2, w3, w4⟩ := h.wk mk' bl' k e
      refine ⟨by split <;> omega, w2, ?_, fun u hu => ?_⟩
      · rw [w3]
        unfold NS.lay
        rw [him]
        have key : ∀ (l : List Nat) (b : List ByteArray), (∀ x ∈ l, x ∈ gs.at_ mk') → l.foldl (N.layOne mk') b = l.foldl ((N.take v r).layOne mk') b := by
          intro l
          induction l with
          | nil => intro b _; rfl
          | cons x l ih =>
            intro b hl
            rw [List.foldl_cons, List.foldl_cons]
            have : N.layOne mk' b x = (N.take v r).layOne mk' b x := by
              obtain ⟨j, hj⟩ := w4 x (hl x (by simp))
              unfold NS.layOne
              by_cases e : x = v
              · subst e
                rw [hst]
                dsimp only
                rw [hj, upTo_app hj]
                dsimp only
                obtain ⟨_, _, _, _, hjl⟩ := upTo_inv hj
                rw [List.take_append_of_le_length (by omega)]
              · rw [hne x e]
            rw [this]
            exact ih _ (fun y hy => hl y (by simp [hy]))
        exact key _ _ (fun x hx => hx)
      · obtain ⟨j, hj⟩ := w4 u hu
        by_cases e : u = v
        · subst e; rw [hst]; exact ⟨j, upTo_app hj r⟩
        · rw [hne u e]; exact ⟨j, hj⟩
  · refine .inr ⟨hc, ?_⟩
    have hN : N.take v r = N := by
      unfold NS.take
      have : upd N.st v ((N.st v).take r) = N.st := by
        funext u
        by_cases e : u = v
        · subst e; rw [upd_same]; unfold SS.take; rw [if_neg (fun h => hc h.2)]
        · rw [upd_ne _ _ e]
      rw [this]
    rw [hN]
    refine ⟨by unfold SS.last; omega, h.mono (by omega), Le.refl N⟩
/-- It begins. -/
theorem RI.begin (h : RI N gs T top c) (h0 : N.mark = 0) (hr : N.ready gs ≠ 0) : RI (N.begun gs (N.ready gs)) gs T top (c + 1) ∧ Le N (N.begun gs (N.ready gs)) := by
  obtain ⟨hI, _, htop, hkm, hpos⟩ := h.inv.begun h0 hr
  obtain ⟨hcan, _⟩ := ready_can hr
  obtain ⟨hu, _, _⟩ := can_inv hcan
  have hMM : (((N.ready gs).toNat : Nat) : Int) = N.ready gs := by omega
  refine ⟨⟨hI, h.num, h.le, h.rs, h.bl, h.top0, h.tops, h.kmt, h.mkeq, h.mkle, fun mk' bl' k e => ?_⟩, ⟨Nat.le_refl _, fun _ _ _ => rfl, fun _ _ => Nat.le_refl _⟩⟩
  unfold NS.begun at e
  dsimp only at e
  cases e
  rw [hMM]
  refine ⟨?_, by show N.im.km < (N.ready gs).toNat; omega, rfl, hu⟩
  obtain ⟨v, hv, hm⟩ := mem_nmarks.1 (can_marks hcan)
  obtain ⟨r, hr, hh⟩ := mem_marks.1 hm
  rw [h.rs v hv] at hr
  have := h.tops v r (List.mem_of_mem_drop hr)
  rw [hh.2] at this
  exact this
/-- It is done: what was begun is the image. -/
theorem RI.done (h : RI N gs T top c) {mk' : Nat} {bl' : List ByteArray} {k : Nat} (hw : N.im.work = some (mk', bl', k)) {S' : List D.Sec} {t' : Nat} {c' : Nat} (hI : (NS.drop { N with im := ⟨S', [], t', mk', bl', none⟩, mark := 0 } gs).Inv c') :
    RI (NS.drop { N with im := ⟨S', [], t', mk', bl', none⟩, mark := 0 } gs) gs T top c' ∧ Le N (NS.drop { N with im := ⟨S', [], t', mk', bl', none⟩, mark := 0 } gs) := by
  obtain ⟨w1, w2, w3, w4⟩ := h.wk mk' bl' k hw
  have hst : ∀ v, v < 4 → (NS.drop { N with im := ⟨S', [], t', mk', bl', none⟩, mark := 0 } gs).st v = if v ∈ gs.at_ mk' then ⟨(N.st v).first + (N.upN v mk' : Nat), mk', (N.st v).rs.drop (N.upN v mk')⟩ else N.st v := fun v hv => by
    unfold NS.drop NS.dropL
    dsimp only
    by_cases hin : v ∈ gs.at_ mk'
    · have := h.mkle v hv
      rw [if_pos ⟨hin, by omega⟩, if_pos hin]
      obtain ⟨j, hj⟩ := w4 v hin
      unfold SS.drop NS.upN
      rw [hj]
    · rw [if_neg (fun hx => hin hx.1), if_neg hin]
  have him : (NS.drop { N with im := ⟨S', [], t', mk', bl', none⟩, mark := 0 } gs).im = ⟨S', [], t', mk', bl', none⟩ := rfl
  generalize NS.drop { N with im := ⟨S', [], t', mk', bl', none⟩, mark := 0 } gs = N' at *
  have hup : ∀ v, v < 4 → N.upN v mk' ≤ (N.st v).rs.length := fun v hv => by
    unfold NS.upN
    split
    · rename_i j hj
      obtain ⟨_, _, _, _, hl⟩ := upTo_inv hj
      omega
    · omega
  have hap : ∀ v, v < 4 → N'.ap v = if v ∈ gs.at_ mk' then N.ap v + N.upN v mk' else N.ap v := fun v hv => by
    have := (h.inv.st v hv).f1
    unfold NS.ap
    rw [hst v hv]
    split
    · dsimp only; omega
    · rfl
  refine ⟨⟨hI, h.num, fun v hv => ?_, fun v hv => ?_, ?_, h.top0, h.tops, by rw [him]; exact w1, fun v hv => ?_, fun v hv => ?_, fun _ _ _ e => by rw [him] at e; cases e⟩, ⟨by rw [him]; exact Nat.le_of_lt w2, fun e v hv => ?_, fun v hv => ?_⟩⟩
  · rw [hap v hv]
    have h1 := h.le v hv
    have h2 := hup v hv
    have h3 : (N.st v).rs.length = (T v).length - N.ap v := by rw [h.rs v hv, List.length_drop]
    split <;> omega
  · rw [hap v hv, hst v hv]
    split
    · dsimp only; rw [h.rs v hv, List.drop_drop]
    · exact h.rs v hv
  · rw [him]
    show bl' = _
    rw [w3]
    unfold NS.lay
    rw [h.bl, fold_lay N mk' (fun v hv r hr => by
      obtain ⟨i, hi⟩ := List.mem_iff_getElem?.1 hr
      exact ((h.inv.st v hv).seq i r hi).1) _ (fun v hv => at_lt hv) (at_nodup _ _) _ (fun u r hr => (h.num u).can r (List.mem_of_mem_take hr))]
    apply layAll_congr
    intro v hv
    have hv4 : v < 4 := by simpa using hv
    rw [hap v hv4]
    split
    · rw [h.rs v hv4, List.take_add]
    · rfl
  · rw [him] at hv ⊢
    rw [hst v (at_lt hv), if_pos hv]
  · rw [him, hst v hv]
    split
    · exact Int.le_refl _
    · have := h.mkle v hv; show (N.st v).mark ≤ (mk' : Int); omega
  · rw [him] at e; exact absurd e (Nat.ne_of_lt w2)
  · rw [hap v hv]; split <;> omega
theorem RI.step (h : RI N gs T top c) (hc : c ≤ 899) : RI (N.step gs) gs T top c ∧ Le N (N.step gs) := by
  have hI := h.inv.step hc gs
  cases hw : N.im.work with
  | none => rw [step_idle gs hw]; exact ⟨h, Le.refl N⟩
  | some p =>
    obtain ⟨mk', bl', k⟩ := p
    have hk := (h.inv.im.ok.bw _ _ _ hw).1
    by_cases h34 : k = 34
    · subst h34
      rw [step_last gs hw] at hI ⊢
      exact h.done hw hI
    · obtain ⟨h1, h2, h3, h4, h5, h6⟩ := step_work gs hw (by omega)
      have hap : ∀ v, (N.step gs).ap v = N.ap v := fun v => by unfold NS.ap; rw [h3]
      refine ⟨⟨hI, h.num, fun v hv => by rw [hap]; exact h.le v hv, fun v hv => by rw [hap, h3]; exact h.rs v hv, by rw [h6, h.bl]; exact layAll_congr _ _ (fun v _ => by rw [hap]), h.top0, h.tops, by rw [h5]; exact h.kmt, fun v hv => by rw [h5] at hv ⊢; rw [h3]; exact h.mkeq v hv, fun v hv => by rw [h5, h3]; exact h.mkle v hv, fun m b j e => ?_⟩, ⟨by rw [h5]; exact Nat.le_refl _, fun _ v _ => (hap v).symm, fun v _ => by rw [hap]; exact Nat.le_refl _⟩⟩
      rw [h1] at e
      cases e
      obtain ⟨w1, w2, w3, w4⟩ := h.wk _ _ _ hw
      refine ⟨w1, by rw [h5]; exact w2, ?_, fun v hv => by rw [h3]; exact w4 v hv⟩
      rw [w3]
      unfold NS.lay
      rw [h6]
      have : (N.step gs).layOne mk' = N.layOne mk' := by funext b v; unfold NS.layOne; rw [h3]
      rw [this]
theorem RI.crash (h : RI N gs T top c) (hc : c ≤ 899) (keep : Int) : RI (N.crash keep gs) gs T top c ∧ Le N (N.crash keep gs) := by
  have hI := h.inv.crash hc keep gs
  obtain ⟨t, km, bl, hg, ht, hE, hor⟩ := crashed_is h.inv hc keep
  unfold NS.crash at hI ⊢
  rw [hE] at hI ⊢
  rcases hor with ⟨rfl, rfl, rfl⟩ | ⟨rfl, hw, _⟩
  · rw [drop_same (N := { N with im := ⟨D.lay (D.bit keep) 0 N.im.S N.im.W, [], N.im.t, N.im.km, N.im.bl, none⟩, mark := 0 }) h.mkeq] at hI ⊢
    exact ⟨⟨hI, h.num, h.le, h.rs, h.bl, h.top0, h.tops, h.kmt, h.mkeq, h.mkle, fun _ _ _ e => by cases e⟩, ⟨Nat.le_refl _, fun _ _ _ => rfl, fun _ _ => Nat.le_refl _⟩⟩
  · exact h.done hw hI
/-- The group changes at a marker above all that came. -/
theorem at_add {m v n : Int} {gone : Bool} (hn : n < m) : (gs.add m v gone).at_ n = gs.at_ n := by
  have key : ∀ (l : List Chg) (x : Chg), n < x.mark → ((l ++ [x]).takeWhile fun c => decide (c.mark ≤ n)) = l.takeWhile fun c => decide (c.mark ≤ n) := by
    intro l x hx
    induction l with
    | nil => rw [List.nil_append, List.takeWhile_cons, if_neg (by simp; omega)]; rfl
    | cons y l ih =>
      rw [List.cons_append, List.takeWhile_cons, List.takeWhile_cons]
      split
      · rw [ih]
      · rfl
  unfold GS.at_ GS.has GS.many GS.add
  dsimp only
  rw [key gs.ch ⟨m, v.toNat, gone⟩ hn]
  have hl : (gs.ch.takeWhile fun c => decide (c.mark ≤ n)).length ≤ gs.ch.length := (List.takeWhile_sublist _).length_le
  rw [List.take_append_of_le_length hl]
theorem RI.add (h : RI N gs T top c) {m v : Int} {gone : Bool} (hm : top < m) : RI N (gs.add m v gone) T top c := by
  refine ⟨h.inv, h.num, h.le, h.rs, h.bl, h.top0, h.tops, h.kmt, fun u hu => ?_, h.mkle, fun mk' bl' k e => ?_⟩
  · have := h.kmt
    rw [at_add (by omega)] at hu
    exact h.mkeq u hu
  · obtain ⟨w1, w2, w3, w4⟩ := h.wk mk' bl' k e
    have hat : (gs.add m v gone).at_ mk' = gs.at_ mk' := at_add (by omega)
    refine ⟨w1, w2, ?_, fun u hu => ?_⟩
    · rw [w3]; unfold NS.lay; rw [hat]
    · rw [hat] at hu; exact w4 u hu
end
end Go.AM.Bp

/-
  BackupReplays: what is looked at behind each call.
-/
namespace Go.AM.Bp
open Go.Proofs

theorem strs_flat (b : List ByteArray) : b.flatMap cS = strs b := cS_flat b
/-! Replay of the document's. -/
theorem rpl_loop (L k : Nat) {v : Nat} (hv : v < 4) {l : List S.Rec} (hl : l.length ≤ 1000) (hc : ∀ r ∈ l, S.Can r) {ad2 : Option Addr} {z2 : Nat} {q2 : List Nat} {ad : Option Addr} {z : Nat} {q : List Nat} {b : List ByteArray} (hb : b.length = 32) (hq : ∀ x ∈ q2, x ∉ q) : ∀ (n i : Nat) (σ : St), i ≤ l.length → l.length - i < n → Row S.c5 5 40 σ ad2 z2 q2 l → Row cS 1 9 σ ad z q (replay b v (l.take i)) →
    ∃ σ', lpAt Try.prog env L k 23 [true, true, false, true] [] n [(1, .int .i64 v), (2, .slice ad2 l.length z2), (7, .slice ad 32 z), (13, .int .i64 l.length), (14, .int .i64 i)] σ = some (.slice ad 32 z, σ') ∧ Row cS 1 9 σ' ad z q (replay b v l) ∧ Same σ σ' q
  | 0, i, σ, _, hn, _, _ => by omega
  | n + 1, i, σ, hi, hn, hR2, hR => by
    rw [f23_l3]
    by_cases hie : i = l.length
    · subst hie
      rw [List.take_length] at hR
      rw [decide_eq_false (by omega), br_false]
      exact ⟨σ, rfl, hR, Same.refl _ _⟩
    have hget : l[i]? = some l[i] := List.getElem?_eq_getElem (by omega)
    have hri := hc l[i] (List.getElem_mem _)
    have htk : l.take (i + 1) = l.take i ++ [l[i]] := by rw [List.take_add_one, hget]; rfl
    obtain ⟨p, e, hat⟩ := hR2.at S.c5_len hget
    generalize l[i] = r at *
    subst e
    have hrs := replay_snoc b v (l.take i) r
    rw [← htk] at hrs
    have hw : IntKind.wrap .i64 ((i : Int) + 1) = ((i + 1 : Nat) : Int) := by rw [wrap_in _ (by omega) (by omega)]; omega
    have ii : inRange (i : Int) (l.length : Int) = true := by simp [inRange]; omega
    have hbl : (replay b v (l.take i)).length = 32 := (replay_len _ _ _).trans hb
    rw [decide_eq_true (by omega), br_true, need_of ii, adr_some, hat 1 (.int .i64 r.kind) _ (by omega) rfl (by simp), asI_i, hw]
    by_cases hk : r.kind = 1
    · obtain ⟨_, h1 | h1⟩ := hri
      rotate_left
      · omega
      obtain ⟨_, hb0, hb7, _, _⟩ := h1
      obtain ⟨x, hx⟩ : ∃ x : Nat, r.block = x := ⟨r.block.toNat, by omega⟩
      have hw2 : IntKind.wrap .i64 (IntKind.wrap .i64 (8 * (v : Int)) + r.block) = ((8 * v + x : Nat) : Int) := by
        rw [hx, wrap_in (8 * (v : Int)) (by omega) (by omega), wrap_in _ (by omega) (by omega)]; omega
      obtain ⟨q1, σ1, e1, e2, hput, hR1, s1, n1⟩ := hR.put cS_len cS_one (i := 8 * v + x) (by omega) r.data
      subst e2
      rw [show (r.kind == 1) = true by simpa using hk, br_true, need_of ii, adr_some, hat 2 (.int .i64 r.block) _ (by omega) rfl (by simp), asI_i, need_of ii, adr_some, hat 3 (.string r.data) _ (by omega) rfl (by simp), asS_s, hw2, need_of (by simp [inRange]; omega), adr_some]
      have hput' : ∀ K : St → Res, σ.put q1 (0 + Int.toNat ((8 * v + x : Nat) : Int) * 1) [.string r.data] K = K σ1 := fun K => hput _ (by rw [Int.toNat_natCast]; omega) K
      rw [hput']
      rw [if_pos hk, show r.block.toNat = x by omega] at hrs
      rw [← hrs] at hR1
      obtain ⟨σ2, g2, hR3, s2⟩ := rpl_loop L k hv hl hc hb hq n (i + 1) σ1 (by omega) (by omega) (hR2.same s1 hq) hR1
      exact ⟨σ2, g2, hR3, s1.trans s2⟩
    · rw [show (r.kind == 1) = false by simpa using hk, br_false]
      rw [if_neg hk] at hrs
      rw [← hrs] at hR
      exact rpl_loop L k hv hl hc hb hq n (i + 1) σ (by omega) (by omega) hR2 hR
theorem rpl_spec (L k : Nat) (hL : 100000 < L) {v : Nat} (hv : v < 4) {l : List S.Rec} (hl : l.length ≤ 1000) (hc : ∀ r ∈ l, S.Can r) {σ : St} {ad2 : Option Addr} {z2 : Nat} {q2 : List Nat} {ad : Option Addr} {z : Nat} {q : List Nat} {b : List ByteArray} (hb : b.length = 32) (hR2 : Row S.c5 5 40 σ ad2 z2 q2 l) (hR : Row cS 1 9 σ ad z q b) :
    ∃ ad' z' q' σ', evCall Try.prog env L (k + 1) 23 [.slice ad 32 z, .int .i64 v, .slice ad2 l.length z2] σ = some (.slice ad' 32 z', σ') ∧ Row cS 1 9 σ' ad' z' q' (replay b v l) ∧ Same σ σ' [] ∧ (∀ x ∈ q', σ.next ≤ x) := by
  rw [f23_eq]
  generalize hσ1 : σ.new (Blk.own [] 9) = σ1
  have s1 : Same σ σ1 [] := by rw [← hσ1]; exact Same.new _ _ _
  have n1 : σ1.next = σ.next + 1 := by rw [← hσ1]; rfl
  have hE : Row cS 1 9 σ1 (some ⟨σ.next, 0, none⟩) 1 [σ.next] [] := ⟨by rw [← hσ1]; simp, .inr ⟨σ.next, [], rfl, rfl, rfl, by rw [← hσ1, get_new_same]; rfl⟩⟩
  have hR1 := hR.same s1 (by simp)
  obtain ⟨ad', z', q', σ2, hgrow, hRn, s2, hq'⟩ := grow_row (by_ := 16) hE cS_len cS_one (by omega) b (b.flatMap cS) rfl 32 hb.symm (by unfold roomTop; simp) (by unfold sizeTop; simp)
  rw [hR1.read cS_len (32 * 1) (by rw [hb])]
  have hgrow' : ∀ K, grow 9 1 16 (some ⟨σ.next, 0, none⟩) 0 1 32 (b.flatMap cS) σ1 K = K ad' 32 z' σ2 := fun K => by have := hgrow K; simpa using this
  rw [hgrow']
  rw [List.nil_append] at hRn
  have hf : ∀ x ∈ q', σ.next ≤ x := fun x hx => by
    rcases hq' x hx with h | h
    · simp at h; omega
    · omega
  have s02 : Same σ σ2 [] := s1.fresh s2 (fun x hx => .inr (by simp at hx; omega))
  obtain ⟨σ3, e3, hR3, s3⟩ := rpl_loop L k hv hl hc hb (ad2 := ad2) (z2 := z2) (q2 := q2) (ad := ad') (z := z') (q := q') (fun x hx hx' => by have := hR2.lt x hx; have := hf x hx'; omega) L 0 σ2 (by omega) (by omega) (hR2.same s02 (by simp)) (by rw [List.take_zero]; exact hRn)
  exact ⟨ad', z', q', σ3, e3, hR3, s02.fresh s3 (fun x hx => .inr (hf x hx)), hf⟩

/-- What is looked at behind a call. -/
noncomputable def replTail (L k n : Nat) (s1 : Option Addr) (s1n s1z : Nat) (s5 s7 : Nat) (s9 : Option Addr) (s9n s9z : Nat) (s10 s11 : Int) (bb : Nat) (s53 s54 : Int) (v50 : St) : Res :=
  AM.bnd (AM.evCall Proofs.Try.prog AM.Bp.env L k (13 : Nat) [Value.pointer (some { block := s7, off := (0 : Nat) })] v50) fun v377 v378 => AM.asT v377 fun v379 => AM.uncons v379 fun v380 v381 => AM.asAgL v380 fun v382 => AM.uncons v381 fun v383 v384 => AM.asI IntKind.i64 v383 fun v385 => AM.endl v384 (AM.need (Nat.beq (List.length v382) (32 : Nat)) (AM.St.put (AM.St.new v378 (AM.Blk.own [Value.string { data := #[] }, Value.string { data := #[] }, Value.string { data := #[] }, Value.string { data := #[] }, Value.string { data := #[] }, Value.string { data := #[] }, Value.string { data := #[] }, Value.string { data := #[] }, Value.string { data := #[] }, Value.string { data := #[] }, Value.string { data := #[] }, Value.string { data := #[] }, Value.string { data := #[] }, Value.string { data := #[] }, Value.string { data := #[] }, Value.string { data := #[] }, Value.string { data := #[] }, Value.string { data := #[] }, Value.string { data := #[] }, Value.string { data := #[] }, Value.string { data := #[] }, Value.string { data := #[] }, Value.string { data := #[] }, Value.string { data := #[] }, Value.string { data := #[] }, Value.string { data := #[] }, Value.string { data := #[] }, Value.string { data := #[] }, Value.string { data := #[] }, Value.string { data := #[] }, Value.string { data := #[] }, Value.string { data := #[] }] (48 : Nat))) (AM.St.next v378) (0 : Nat) v382 fun v386 => AM.bnd (AM.evCall Proofs.Try.prog AM.Bp.env L k (19 : Nat) [Value.pointer (some { block := s7, off := (0 : Nat) })] v386) fun v387 v388 => AM.asAgL v387 fun v389 => AM.uncons v389 fun v390 v391 => AM.asI IntKind.i64 v390 fun v392 => AM.uncons v391 fun v393 v394 => AM.asI IntKind.i64 v393 fun v395 => AM.uncons v394 fun v396 v397 => AM.asI IntKind.i64 v396 fun v398 => AM.uncons v397 fun v399 v400 => AM.asI IntKind.i64 v399 fun v401 => AM.endl v400 (AM.St.put (AM.St.new v388 (AM.Blk.own [Value.int IntKind.i64 (0 : Int), Value.int IntKind.i64 (0 : Int), Value.int IntKind.i64 (0 : Int), Value.int IntKind.i64 (0 : Int)] (57 : Nat))) (AM.St.next v388) (0 : Nat) [Value.int IntKind.i64 v392, Value.int IntKind.i64 v395, Value.int IntKind.i64 v398, Value.int IntKind.i64 v401] fun v402 => AM.br (decide (v385 < s10)) (some (Value.bool false, v402)) (AM.lpAt Proofs.Try.prog AM.Bp.env L k (5 : Nat) [true, true, true, true, true, true, true, true, false, true, false, true, true, false, true, true, true, true, true, true, true, true, false, true] [n] L [((1 : Nat), Value.slice s1 s1n s1z), ((5 : Nat), Value.pointer (some { block := s5, off := (0 : Nat) })), ((7 : Nat), Value.pointer (some { block := s7, off := (0 : Nat) })), ((9 : Nat), Value.slice s9 s9n s9z), ((10 : Nat), Value.int IntKind.i64 s10), ((11 : Nat), Value.int IntKind.i64 s11), ((14 : Nat), Value.pointer (some { block := bb, off := (0 : Nat) })), ((18 : Nat), Value.pointer (some { block := AM.St.next v378, off := (0 : Nat) })), ((19 : Nat), Value.int IntKind.i64 v385), ((20 : Nat), Value.pointer (some { block := AM.St.next v388, off := (0 : Nat) })), ((21 : Nat), Value.slice (some { block := AM.St.next v402, off := (0 : Nat) }) (32 : Nat) (1 : Nat)), ((53 : Nat), Value.int IntKind.i64 s53), ((54 : Nat), Value.int IntKind.i64 s54), ((177 : Nat), Value.int IntKind.i64 (↑s9n : Int)), ((178 : Nat), Value.int IntKind.i64 (0 : Int))] (AM.St.new v402 (AM.Blk.own [Value.string { data := #[] }, Value.string { data := #[] }, Value.string { data := #[] }, Value.string { data := #[] }, Value.string { data := #[] }, Value.string { data := #[] }, Value.string { data := #[] }, Value.string { data := #[] }, Value.string { data := #[] }, Value.string { data := #[] }, Value.string { data := #[] }, Value.string { data := #[] }, Value.string { data := #[] }, Value.string { data := #[] }, Value.string { data := #[] }, Value.string { data := #[] }, Value.string { data := #[] }, Value.string { data := #[] }, Value.string { data := #[] }, Value.string { data := #[] }, Value.string { data := #[] }, Value.string { data := #[] }, Value.string { data := #[] }, Value.string { data := #[] }, Value.string { data := #[] }, Value.string { data := #[] }, Value.string { data := #[] }, Value.string { data := #[] }, Value.string { data := #[] }, Value.string { data := #[] }, Value.string { data := #[] }, Value.string { data := #[] }] (9 : Nat)))))))

def apC4 (N : NS) : List Value := [.int .i64 (N.apl 0), .int .i64 (N.apl 1), .int .i64 (N.apl 2), .int .i64 (N.apl 3)]
section
variable {σ0 : St} {nd g m d : Nat} {a : Nat → Nat} {gs : GS} {p : Nat} {ad : Nat → Option Addr} {z : Nat → Nat} {q : Nat → List Nat} {T : Nat → List S.Rec} {N0 N : NS} {top : Int} {c : Nat}
theorem RI.apl (h : RI N gs T top c) (v : Nat) (hv : v < 4) : N.apl v = (N.ap v : Nat) := by
  have := (h.inv.st v hv).f1
  unfold NS.apl NS.ap; omega
theorem apC4_at (N : NS) (v : Nat) (hv : v < 4) : (apC4 N)[0 + Int.toNat (v : Int) * 1]? = some (.int .i64 (N.apl v)) := by
  rcases (by omega : v = 0 ∨ v = 1 ∨ v = 2 ∨ v = 3) with rfl | rfl | rfl | rfl <;> rfl
theorem layAll_snoc (ls : Nat → List S.Rec) (v : Nat) (b : List ByteArray) : layAll ls (List.range (v + 1)) b = replay (layAll ls (List.range v) b) v (ls v) := by
  unfold layAll
  rw [List.range_succ, List.foldl_append]; rfl
theorem tail_inner (L k m0 : Nat) (hL : 100000 < L) {s1a : Option Addr} {s1n s1z s5 : Nat} {s11 s53 : Int} {i : Nat} (hi : i ≤ 100) {σb : St} {bb pi pn : Nat} (hLs : Ls σb p ad z q T) (hpi : σb.get pi = some (.own (strs N.im.bl) 48)) (hpn : σb.get pn = some (.own (apC4 N) 57)) (hbb : σb.get bb = some (.own (apC4 N0) 57)) (hl1 : pi < σb.next) (hl2 : pn < σb.next) (hl3 : bb < σb.next) (h : RI N gs T top c) (hc : c ≤ 899) (hle : Le N0 N) (h0f : ∀ v, v < 4 → N0.apl v = (N0.ap v : Nat)) : ∀ (n v : Nat) (σ : St) (adw : Option Addr) (zw : Nat) (qw : List Nat), v ≤ 4 → 4 - v < n → Same σb σ [] → Row cS 1 9 σ adw zw qw (layAll (fun v => (T v).take (N.ap v)) (List.range v) noBlocks) →
    ∃ σ', lpAt Try.prog env L (k + 3) 5 [true, true, true, true, true, true, true, true, false, true, false, true, true, false, true, true, true, true, true, true, true, true, false, true] [m0] n [(1, .slice s1a s1n s1z), (5, ptr s5), (7, ptr nd), (9, .slice (some ⟨p, 0, none⟩) 4 1), (10, .int .i64 (N0.im.km : Nat)), (11, .int .i64 s11), (14, ptr bb), (18, ptr pi), (19, .int .i64 (N.im.km : Nat)), (20, ptr pn), (21, .slice adw 32 zw), (53, .int .i64 s53), (54, .int .i64 i), (177, .int .i64 ((4 : Nat) : Int)), (178, .int .i64 v)] σ =
      lpAt Try.prog env L (k + 3) 5 [true, true, true, true, true, true, true, true, false, true] [] m0 [(1, .slice s1a s1n s1z), (5, ptr s5), (7, ptr nd), (9, .slice (some ⟨p, 0, none⟩) 4 1), (10, .int .i64 (N.im.km : Nat)), (11, .int .i64 s11), (53, .int .i64 s53), (54, .int .i64 ((i + 1 : Nat) : Int))] σ' ∧ Same σ σ' []
  | 0, v, σ, adw, zw, qw, _, hn, _, _ => by omega
  | n + 1, v, σ, adw, zw, qw, hv, hn, hs, hW => by
    rw [f5_l46]
    have hwl : (layAll (fun v => (T v).take (N.ap v)) (List.range v) noBlocks).length = 32 := layAll_len _ _ _
    by_cases hv4 : v = 4
    · subst hv4
      have hbl : layAll (fun v => (T v).take (N.ap v)) (List.range 4) noBlocks = N.im.bl := h.bl.symm
      have hwi : IntKind.wrap .i64 ((i : Int) + 1) = ((i + 1 : Nat) : Int) := by rw [wrap_in _ (by omega) (by omega)]; omega
      rw [hbl] at hW hwl
      have hpi' := (hs.2 pi hl1 (by simp)).trans hpi
      obtain ⟨ad3, z3, q3, σ3, e3, hR3, _, s3⟩ := flat_spec L (k + 2) (by omega) σ hwl
      have e4 := same_spec L (k + 2) (by omega) hR3 (hW.same s3 (by simp)) hwl
      rw [decide_eq_false (by decide), br_false, lds_all (n := 32) hpi' (by rw [strs_len, hwl]), e3, bnd_some, asSl_s, e4, bnd_some, asB_b, not_true, br_false, hwi]
      exact ⟨σ3, rfl, s3⟩
    have hvl : v < 4 := by omega
    have i4 : inRange (v : Int) 4 = true := by simp [inRange]; omega
    have i4' : inRange (v : Int) ((4 : Nat) : Int) = true := by simp [inRange]; omega
    have hpn' := (hs.2 pn hl2 (by simp)).trans hpn
    have hbb' := (hs.2 bb hl3 (by simp)).trans hbb
    have hLs' := hLs.idle hs
    have hap := h.apl v hvl
    have hap0 := h0f v hvl
    have hle1 := hle.ap v hvl
    have hle2 := h.le v hvl
    have htl := h.tlen v hvl
    have hw : IntKind.wrap .i64 ((v : Int) + 1) = ((v + 1 : Nat) : Int) := by rw [wrap_in _ (by omega) (by omega)]; omega
    have rn : ∀ K : Value → Res, σ.ld pn (0 + Int.toNat (v : Int) * 1) K = K (.int .i64 (N.ap v : Nat)) := fun K => by rw [← hap]; exact ld_at hpn' _ _ (apC4_at N v hvl) K
    have rb : ∀ K : Value → Res, σ.ld bb (0 + Int.toNat (v : Int) * 1) K = K (.int .i64 (N0.ap v : Nat)) := fun K => by rw [← hap0]; exact ld_at hbb' _ _ (apC4_at N0 v hvl) K
    have hrow := hLs'.row v hvl
    have hTr : Row S.c5 5 40 σ (ad v) (z v) (q v) ((T v).take (N.ap v)) := hrow.take _
    have hTl : ((T v).take (N.ap v)).length = N.ap v := by rw [List.length_take]; omega
    obtain ⟨ad', z', q', σ1, e1, hW1, s1, _⟩ := rpl_spec L (k + 2) hL hvl (l := (T v).take (N.ap v)) (by omega) (fun r hr => (h.num v).can r (List.mem_of_mem_take hr)) hwl hTr hW
    rw [hTl] at e1
    rw [← layAll_snoc (fun v => (T v).take (N.ap v)) v] at hW1
    obtain ⟨σ2, e2, s2⟩ := tail_inner L k m0 hL (s1a := s1a) (s1n := s1n) (s1z := s1z) (s5 := s5) (s11 := s11) (s53 := s53) hi hLs hpi hpn hbb hl1 hl2 hl3 h hc hle h0f n (v + 1) σ1 ad' z' q' (by omega) (by omega) (hs.trans s1) hW1
    refine ⟨σ2, ?_, s1.trans s2⟩
    have hz : (Nat.beq (z v) 0 || Nat.beq (z v) 5) = true := by rcases hrow.z with e | e <;> rw [e] <;> rfl
    have hsub := hrow.sub0
    have htn : Int.toNat ((N.ap v : Nat) : Int) - 0 = N.ap v := by simp
    rw [decide_eq_true (by omega), br_true, need_of i4, rn, asI_i, need_of i4, rb, asI_i, decide_eq_false (by omega), br_false, need_of i4, rn, asI_i, need_of i4', adr_some, hLs'.cell v hvl, asSl_s, decide_eq_false (by omega), br_false]
    by_cases hkm : (N.im.km : Int) = (N0.im.km : Int)
    · have hsm := hle.same (by omega) v hvl
      rw [show ((N.im.km : Int) == (N0.im.km : Int)) = true by simpa using hkm, br_true, need_of i4, rn, asI_i, need_of i4, rb, asI_i, show (((N.ap v : Nat) : Int) != ((N0.ap v : Nat) : Int)) = false by rw [hsm]; simp, br_false, need_of i4', adr_some, hLs'.cell v hvl, asSl_s, need_of i4, rn, asI_i, need_of hz, need_of (by simp [inRange]; omega), hsub, htn, e1, bnd_some, asSl_s, hw]
      exact e2
    · rw [show ((N.im.km : Int) == (N0.im.km : Int)) = false by simpa using hkm, br_false, need_of i4', adr_some, hLs'.cell v hvl, asSl_s, need_of i4, rn, asI_i, need_of hz, need_of (by simp [inRange]; omega), hsub, htn, e1, bnd_some, asSl_s, hw]
      exact e2
theorem tail_ok (L k n : Nat) (hL : 100000 < L) {s1 : Option Addr} {s1n s1z : Nat} {s11 s53 : Int} {i : Nat} (hi : i ≤ 100) {σ : St} {F : Nat → List Nat} {R : List (List Nat)} {bb : Nat} (hX : NdX σ0 σ nd g m d a F N R) (hLs : Ls σ p ad z q T) (hbb : σ.get bb = some (.own (apC4 N0) 57)) (hl3 : bb < σ.next) (h : RI N gs T top c) (hc : c ≤ 899) (hle : Le N0 N) (h0f : ∀ v, v < 4 → N0.apl v = (N0.ap v : Nat)) :
    ∃ σ', replTail L (k + 3) n s1 s1n s1z g nd (some ⟨p, 0, none⟩) 4 1 (N0.im.km : Nat) s11 bb s53 i σ =
      lpAt Try.prog env L (k + 3) 5 [true, true, true, true, true, true, true, true, false, true] [] n [(1, .slice s1 s1n s1z), (5, ptr g), (7, ptr nd), (9, .slice (some ⟨p, 0, none⟩) 4 1), (10, .int .i64 (N.im.km : Nat)), (11, .int .i64 s11), (53, .int .i64 s53), (54, .int .i64 ((i + 1 : Nat) : Int))] σ' ∧ Same σ σ' [] := by
  have ht : ∀ b : List ByteArray, (strs b).toArray.toList = strs b := fun _ => rfl
  have hb1 := hX.im.blen
  obtain ⟨τ1, e1, t1⟩ := nimage_spec L (k + 1) hX
  have u2 : Same τ1 (τ1.new (.own (strs N.im.bl) 48)) [] := Same.new _ _ _
  have p2 : (τ1.new (.own (strs N.im.bl) 48)).get τ1.next = some (.own (strs N.im.bl) 48) := get_new_same _ _
  have n2 : (τ1.new (.own (strs N.im.bl) 48)).next = τ1.next + 1 := rfl
  unfold replTail
  have e1' : evCall Try.prog env L (k + 3) 13 [ptr nd] σ = _ := e1
  rw [e1', bnd_some, asT_t, toList2, uncons_c, asAgL_a, ht, uncons_c, asI_i, endl_n, need_of (by rw [strs_len, hb1]; rfl), tmp_put2 τ1 _ (strs N.im.bl) 48 (by rw [strs_len, hb1]; rfl) (strs_one _)]
  generalize τ1.new (.own (strs N.im.bl) 48) = τ2 at *
  have s02 := t1.trans u2
  obtain ⟨τ3, e3, t3⟩ := napplied_spec L (k + 1) hL (hX.idle s02) h.inv hc
  have e3' : evCall Try.prog env L (k + 3) 19 [ptr nd] τ2 = some (.agg #[.int .i64 (N.apl 0), .int .i64 (N.apl 1), .int .i64 (N.apl 2), .int .i64 (N.apl 3)], τ3) := e3
  rw [e3', bnd_some, asAgL_a]
  show ∃ σ', (uncons [Value.int .i64 (N.apl 0), .int .i64 (N.apl 1), .int .i64 (N.apl 2), .int .i64 (N.apl 3)] _) = _ ∧ _
  have hA : [Value.int .i64 (N.apl 0), .int .i64 (N.apl 1), .int .i64 (N.apl 2), .int .i64 (N.apl 3)] = apC4 N := rfl
  rw [uncons_c, asI_i, uncons_c, asI_i, uncons_c, asI_i, uncons_c, asI_i, endl_n, hA, tmp_put2 τ3 [.int .i64 0, .int .i64 0, .int .i64 0, .int .i64 0] (apC4 N) 57 rfl rfl]
  have u4 : Same τ3 (τ3.new (.own (apC4 N) 57)) [] := Same.new _ _ _
  have p4 : (τ3.new (.own (apC4 N) 57)).get τ3.next = some (.own (apC4 N) 57) := get_new_same _ _
  have n4 : (τ3.new (.own (apC4 N) 57)).next = τ3.next + 1 := rfl
  generalize τ3.new (.own (apC4 N) 57) = τ4 at *
  have hkm := hle.km
  rw [decide_eq_false (by omega), br_false, lit32]
  have u5 : Same τ4 (τ4.new (.own (strs noBlocks) 9)) [] := Same.new _ _ _
  have p5 : (τ4.new (.own (strs noBlocks) 9)).get τ4.next = some (.own (strs noBlocks) 9) := get_new_same _ _
  have n5 : (τ4.new (.own (strs noBlocks) 9)).next = τ4.next + 1 := rfl
  generalize τ4.new (.own (strs noBlocks) 9) = τ5 at *
  have s24 := t3.trans u4
  have s25 := s24.trans u5
  have s05 := s02.trans s25
  have m2 := t1.1
  have m3 := t3.1
  obtain ⟨σ', e', s'⟩ := tail_inner (σb := τ5) L k n hL (s1a := s1) (s1n := s1n) (s1z := s1z) (s5 := g) (s11 := s11) (s53 := s53) hi (nd := nd) (pi := τ1.next) (pn := τ3.next) (hLs.idle s05) ((s25.2 _ (by omega) (by simp)).trans p2) ((u5.2 _ (by omega) (by simp)).trans p4) ((s05.2 bb hl3 (by simp)).trans hbb) (by omega) (by omega) (by have := s05.1; omega) h hc hle h0f L 0 τ5 (some ⟨τ4.next, 0, none⟩) 1 [τ4.next] (by omega) (by omega) (Same.refl _ _) ⟨fun x hx => by simp at hx; omega, .inr ⟨τ4.next, [], rfl, rfl, rfl, by rw [p5, List.append_nil]; congr 2⟩⟩
  exact ⟨σ', e', s05.trans s'⟩
end
end Go.AM.Bp

/-
  BackupReplays: the calls.
-/
namespace Go.AM.Bp
open Go.Proofs

structure ReS (σ0 σ : St) (nd g : Nat) (G : List Nat) (m d : Nat) (a : Nat → Nat) (F : Nat → List Nat) (N : NS) (gs : GS) (p : Nat) (ad : Nat → Option Addr) (z : Nat → Nat) (q : Nat → List Nat) (T : Nat → List S.Rec) (P : List (List Nat)) : Prop where
  nx : NdX σ0 σ nd g m d a F N (P ++ [lsB p q, G])
  ls : Ls σ p ad z q T
  gr : Grp σ g G gs
def ReQ (σ0 σ : St) (nd g : Nat) (N : NS) (gs : GS) (p : Nat) (T : Nat → List S.Rec) (P : List (List Nat)) : Prop := ∃ G m d a F ad z q, ReS σ0 σ nd g G m d a F N gs p ad z q T P
section
variable {σ0 σ : St} {nd g : Nat} {G : List Nat} {m d : Nat} {a : Nat → Nat} {F : Nat → List Nat} {N : NS} {gs : GS} {p : Nat} {ad : Nat → Option Addr} {z : Nat → Nat} {q : Nat → List Nat} {T : Nat → List S.Rec} {P : List (List Nat)} {c : Nat}
theorem ReS.lsGet (P : List (List Nat)) (A B : List Nat) : (P ++ [A, B])[P.length]? = some A := by simp
theorem ReS.grGet (P : List (List Nat)) (A B : List Nat) : (P ++ [A, B])[P.length + 1]? = some B := by simp
theorem ReS.lsSet (P : List (List Nat)) (A B X : List Nat) : (P ++ [A, B]).set P.length X = P ++ [X, B] := by simp
theorem ReS.grSet (P : List (List Nat)) (A B X : List Nat) : (P ++ [A, B]).set (P.length + 1) X = P ++ [A, X] := by
  rw [List.set_append_right _ _ (by omega)]; simp
theorem ReS.node (h : ReS σ0 σ nd g G m d a F N gs p ad z q T P) {σ' : St} {m' : Nat} {F' : Nat → List Nat} {N' : NS} (h' : NdX σ0 σ' nd g m' d a F' N' (P ++ [lsB p q, G])) (hk : Kp σ σ' (P ++ [lsB p q, G])) : ReS σ0 σ' nd g G m' d a F' N' gs p ad z q T P :=
  ⟨h', h.ls.moved (fun x hx => hk (lsB p q) (by simp) x hx) (h'.lt (by simp)), h.gr.moved (fun x hx => hk G (by simp) x hx) (h'.lt (by simp))⟩
theorem ReS.idle (h : ReS σ0 σ nd g G m d a F N gs p ad z q T P) {σ' : St} (hs : Same σ σ' []) : ReS σ0 σ' nd g G m d a F N gs p ad z q T P := h.node (h.nx.idle hs) (h.nx.kept hs)
theorem ReS.push (h : ReS σ0 σ nd g G m d a F N gs p ad z q T P) {σ' : St} (hs : Same σ σ' []) {X : List Nat} (hX : ∀ x ∈ X, σ.next ≤ x ∧ x < σ'.next) : ReS σ0 σ' nd g G m d a F N gs p ad z q T (X :: P) :=
  ⟨h.nx.push hs hX, h.ls.idle hs, h.gr.idle hs⟩
theorem ReS.pop {X : List Nat} (h : ReS σ0 σ nd g G m d a F N gs p ad z q T (X :: P)) : ReS σ0 σ nd g G m d a F N gs p ad z q T P := ⟨h.nx.pop, h.ls, h.gr⟩
/-- A thing of its own turns. -/
theorem ReS.own (h : ReS σ0 σ nd g G m d a F N gs p ad z q T P) {b i : Nat} (hb : P[i]? = some [b]) {σ' : St} (hs : Same σ σ' [b]) : ReS σ0 σ' nd g G m d a F N gs p ad z q T P ∧ ∀ (j : Nat) (x : Nat), j ≠ i → P[j]? = some [x] → σ'.get x = σ.get x := by
  have hil := (List.getElem?_eq_some_iff.1 hb).1
  have hb' : (P ++ [lsB p q, G])[i]? = some [b] := by rw [List.getElem?_append_left hil]; exact hb
  have hlt := h.nx.lt (List.mem_of_getElem? hb') b (by simp)
  have hT : Turn σ σ' [b] [b] := ⟨hs, fun x hx => ⟨.inl hx, by have := hs.1; simp at hx; omega⟩⟩
  have h1 := h.nx.turned i hb' hT
  have hset : (P ++ [lsB p q, G]).set i [b] = P ++ [lsB p q, G] := by
    apply List.ext_getElem?
    intro j
    rw [List.getElem?_set]
    split
    · rename_i hj; subst hj
      split
      · exact hb'.symm
      · rename_i hx; exact absurd (List.getElem?_eq_some_iff.1 hb').1 hx
    · rfl
  rw [hset] at h1
  have e1 : ∀ x ∈ lsB p q, x ∉ [b] := h.nx.im.dis (P.length + 5) (i + 5) (by omega) (by simp) (by simpa using hb')
  have e2 : ∀ x ∈ G, x ∉ [b] := h.nx.im.dis (P.length + 1 + 5) (i + 5) (by omega) (by simp) (by simpa using hb')
  refine ⟨⟨h1, h.ls.same hs e1, h.gr.same hs e2⟩, fun j x hj hx => ?_⟩
  have hjl := (List.getElem?_eq_some_iff.1 hx).1
  have hx' : (P ++ [lsB p q, G])[j]? = some [x] := by rw [List.getElem?_append_left hjl]; exact hx
  exact hs.2 x (h.nx.lt (List.mem_of_getElem? hx') x (by simp)) (h.nx.im.dis (j + 5) (i + 5) (by omega) (by simpa using hx') (by simpa using hb') x (by simp))
/-- The lists turn. -/
theorem ReS.lists (h : ReS σ0 σ nd g G m d a F N gs p ad z q T P) {σ' : St} {ad' : Nat → Option Addr} {z' : Nat → Nat} {q' : Nat → List Nat} {T' : Nat → List S.Rec} (hT : Turn σ σ' (lsB p q) (lsB p q')) (hL : Ls σ' p ad' z' q' T') : ReS σ0 σ' nd g G m d a F N gs p ad' z' q' T' P ∧ Kp σ σ' P := by
  have h1 := h.nx.turned P.length (ReS.lsGet P (lsB p q) G) hT
  rw [ReS.lsSet] at h1
  have e2 : ∀ x ∈ G, x ∉ lsB p q := h.nx.im.dis (P.length + 1 + 5) (P.length + 5) (by omega) (by simp) (by simp)
  refine ⟨⟨h1, hL, h.gr.same hT.same e2⟩, fun H hH x hx => ?_⟩
  obtain ⟨i, hi⟩ := List.mem_iff_getElem?.1 hH
  have hil := (List.getElem?_eq_some_iff.1 hi).1
  have hi' : (P ++ [lsB p q, G])[i]? = some H := by rw [List.getElem?_append_left hil]; exact hi
  exact hT.same.2 x (h.nx.lt (List.mem_of_getElem? hi') x hx) (h.nx.im.dis (i + 5) (P.length + 5) (by omega) (by simpa using hi') (by simp) x hx)
/-- The group turns. -/
theorem ReS.group (h : ReS σ0 σ nd g G m d a F N gs p ad z q T P) {σ' : St} {G' : List Nat} {gs' : GS} (hT : Turn σ σ' G G') (hG : Grp σ' g G' gs') : ReS σ0 σ' nd g G' m d a F N gs' p ad z q T P ∧ Kp σ σ' P := by
  have h1 := h.nx.turned (P.length + 1) (ReS.grGet P (lsB p q) G) hT
  rw [ReS.grSet] at h1
  have e2 : ∀ x ∈ lsB p q, x ∉ G := h.nx.im.dis (P.length + 5) (P.length + 1 + 5) (by omega) (by simp) (by simp)
  refine ⟨⟨h1, h.ls.same hT.same e2, hG⟩, fun H hH x hx => ?_⟩
  obtain ⟨i, hi⟩ := List.mem_iff_getElem?.1 hH
  have hil := (List.getElem?_eq_some_iff.1 hi).1
  have hi' : (P ++ [lsB p q, G])[i]? = some H := by rw [List.getElem?_append_left hil]; exact hi
  exact hT.same.2 x (h.nx.lt (List.mem_of_getElem? hi') x hx) (h.nx.im.dis (i + 5) (P.length + 1 + 5) (by omega) (by simpa using hi') (by simp) x hx)
theorem Kp.left {σ σ' : St} {P Q : List (List Nat)} (h : Kp σ σ' (P ++ Q)) : Kp σ σ' P := fun H hH => h H (List.mem_append_left _ hH)
end

section
variable {σ0 : St} {nd g p : Nat} {N0 : NS}
/-! Behind a call. -/
theorem re_tail (L k n : Nat) (hL : 100000 < L) {s1 : Option Addr} {s1n s1z : Nat} {s53 top : Int} {i c : Nat} (hi : i ≤ 100) {σ : St} {N : NS} {gs : GS} {T : Nat → List S.Rec} {bb po : Nat} (hQ : ReQ σ0 σ nd g N gs p T [[bb], [po]]) (hbb : σ.get bb = some (.own (apC4 N0) 57)) (h : RI N gs T top c) (hc : c ≤ 899) (hle : Le N0 N) (h0f : ∀ v, v < 4 → N0.apl v = (N0.ap v : Nat)) :
    ∃ σ', replTail L (k + 3) n s1 s1n s1z g nd (some ⟨p, 0, none⟩) 4 1 (N0.im.km : Nat) top bb s53 i σ =
      lpAt Try.prog env L (k + 3) 5 [true, true, true, true, true, true, true, true, false, true] [] n [(1, .slice s1 s1n s1z), (5, ptr g), (7, ptr nd), (9, .slice (some ⟨p, 0, none⟩) 4 1), (10, .int .i64 (N.im.km : Nat)), (11, .int .i64 top), (53, .int .i64 s53), (54, .int .i64 ((i + 1 : Nat) : Int))] σ' ∧ ReQ σ0 σ' nd g N gs p T [] := by
  obtain ⟨G, m, d, a, F, ad, z, q, hS⟩ := hQ
  obtain ⟨σ', e, s⟩ := tail_ok L k n hL (s1 := s1) (s1n := s1n) (s1z := s1z) (s11 := top) (s53 := s53) hi hS.nx hS.ls hbb (hS.nx.lt (H := [bb]) (by simp) bb (by simp)) h hc hle h0f
  exact ⟨σ', e, G, m, d, a, F, ad, z, q, (hS.idle s).pop.pop⟩

/-! Steps. -/
theorem re_steps (L k m0 : Nat) (hL : 100000 < L) {s1 : Option Addr} {s1n s1z : Nat} {s53 top : Int} {i c : Nat} (hc : c ≤ 899) {o : OpB} {bb po : Nat} {gs : GS} {T : Nat → List S.Rec} {p : Nat} : ∀ (n j : Nat) (σ : St) (N : NS), j ≤ 40 → 40 - j < n → ReQ σ0 σ nd g N gs p T [[bb], [po]] → σ.get po = some (.own (c10 o) 63) → σ.get bb = some (.own (apC4 N0) 57) → RI N gs T top c → Le N0 N →
    ∃ σ' N', lpAt Try.prog env L (k + 9) 5 [true, true, true, true, true, true, true, true, false, true, false, true, true, false, true, true, true, false, true, true, true, true, true, true, false, true] [m0] n [(1, .slice s1 s1n s1z), (5, ptr g), (7, ptr nd), (9, .slice (some ⟨p, 0, none⟩) 4 1), (10, .int .i64 (N0.im.km : Nat)), (11, .int .i64 top), (13, ptr po), (14, ptr bb), (17, .int .i64 j), (53, .int .i64 s53), (54, .int .i64 i)] σ =
      replTail L (k + 9) m0 s1 s1n s1z g nd (some ⟨p, 0, none⟩) 4 1 (N0.im.km : Nat) top bb s53 i σ' ∧ ReQ σ0 σ' nd g N' gs p T [[bb], [po]] ∧ σ'.get bb = some (.own (apC4 N0) 57) ∧ RI N' gs T top c ∧ Le N0 N'
  | 0, j, σ, N, _, hn, _, _, _, _, _ => by omega
  | n + 1, j, σ, N, hj, hn, hQ, hp, hb, h, hle => by
    have hw : IntKind.wrap .i64 ((j : Int) + 1) = ((j + 1 : Nat) : Int) := by rw [wrap_in _ (by omega) (by omega)]; omega
    rw [f5_l28, asP_p, adr_some, ld_at hp (0 + 2) (.int .i64 o.n) rfl, asI_i]
    by_cases h1 : (j : Int) < o.n
    · rw [decide_eq_true h1, br_true]
      by_cases h2 : (j : Int) < 40
      · obtain ⟨G, m, d, a, F, ad, z, q, hS⟩ := hQ
        obtain ⟨v, F', σ1, e1, k1, hor⟩ := nstep_spec L k hL hc hS.nx h.inv hS.gr (by simp)
        have hRI := h.step hc
        have hN : ∃ b e, v = .tuple #[.bool b, e] ∧ NdX σ0 σ1 nd g m d a F' (N.step gs) ([[bb], [po]] ++ [lsB p q, G]) ∨ v = .tuple #[.bool b, e] ∧ NdX σ0 σ1 nd g m d a F (N.step gs) ([[bb], [po]] ++ [lsB p q, G]) := by
          rcases hor with ⟨h0, ⟨e2, rfl, _⟩, s⟩ | ⟨_, _, _, _, rfl, h'⟩
          · have hw0 : N.im.work = none := by
              rcases h.inv.wk with ⟨_, h⟩ | ⟨h, _⟩
              · exact h
              · omega
            exact ⟨_, _, .inr ⟨rfl, by rw [step_idle gs hw0]; exact hS.nx.idle s⟩⟩
          · exact ⟨_, _, .inl ⟨rfl, h'⟩⟩
        obtain ⟨b, e, hN⟩ := hN
        have hv : v = .tuple #[.bool b, e] := by rcases hN with h | h <;> exact h.1
        have hS1 : ReQ σ0 σ1 nd g (N.step gs) gs p T [[bb], [po]] := by
          rcases hN with ⟨_, h⟩ | ⟨_, h⟩
          · exact ⟨G, m, d, a, F', ad, z, q, hS.node h k1⟩
          · exact ⟨G, m, d, a, F, ad, z, q, hS.node h k1⟩
        subst hv
        have hp1 := (k1 [po] (by simp) po (by simp)).trans hp
        have hb1 := (k1 [bb] (by simp) bb (by simp)).trans hb
        rw [decide_eq_true h2, br_true, e1, bnd_some, asT_t, toList2, uncons_c, asB_b, uncons_c, endl_n, hw]
        exact re_steps L k m0 hL hc n (j + 1) σ1 _ (by omega) (by omega) hS1 hp1 hb1 hRI.1 (hle.trans hRI.2)
      · rw [decide_eq_false h2, br_false]
        exact ⟨σ, N, rfl, hQ, hb, h, hle⟩
    · rw [decide_eq_false h1, br_false]
      exact ⟨σ, N, rfl, hQ, hb, h, hle⟩
end
end Go.AM.Bp

/-
  BackupReplays: all of it.
-/
namespace Go.AM.Bp
open Go.Proofs

theorem seqR (o : OpB) (v : Int) : (c10 o).set 3 (.int .i64 v) = c10 { o with r := { o.r with seq := v } } := rfl
section
variable {σ0 : St} {nd g p : Nat}
theorem re_loop (L k : Nat) (hL : 100000 < L) {ad1 : Option Addr} {l : List OpB} {z1 : Nat} (hl : l.length ≤ 80) (hH : Holds σ0 10 c10 ad1 l) : ∀ (n i : Nat) (σ : St) (N : NS) (gs : GS) (T : Nat → List S.Rec) (top : Int), i ≤ l.length → l.length - i < n → ReQ σ0 σ nd g N gs p T [] → RI N gs T top i →
    ∃ σ', lpAt Try.prog env L (k + 13) 5 [true, true, true, true, true, true, true, true, false, true] [] n [(1, .slice ad1 l.length z1), (5, ptr g), (7, ptr nd), (9, .slice (some ⟨p, 0, none⟩) 4 1), (10, .int .i64 (N.im.km : Nat)), (11, .int .i64 top), (53, .int .i64 l.length), (54, .int .i64 i)] σ = some (.bool true, σ')
  | 0, i, σ, N, gs, T, top, _, hn, _, _ => by omega
  | n + 1, i, σ, N, gs, T, top, hi, hn, hQ, h => by
    rw [f5_l12]
    by_cases hie : i = l.length
    · rw [decide_eq_false (by omega), br_false]; exact ⟨σ, rfl⟩
    obtain ⟨G, m, d, a, F, ad, z, q, hS⟩ := hQ
    have hget : l[i]? = some l[i] := List.getElem?_eq_getElem (by omega)
    obtain ⟨qH, e, hat⟩ := hH.lds hS.nx.im.kept c10_len hget
    generalize l[i] = o at *
    subst e
    have hwi : IntKind.wrap .i64 ((i : Int) + 1) = ((i + 1 : Nat) : Int) := by rw [wrap_in _ (by omega) (by omega)]; omega
    have hld : ∀ K : List Value → Res, σ.lds qH (0 + Int.toNat (i : Int) * 10) 10 K = K (c10 o) := fun K => by
      rw [hat 0 10 _ (by omega) (by simp)]; rfl
    rw [decide_eq_true (by omega), br_true, need_of (by simp [inRange]; omega), adr_some, hld]
    -- the call, a copy
    obtain ⟨σ1, hput, g1, s1, n1⟩ := tmp_put σ [.int .i64 0, .int .i64 0, .int .i64 0, .int .i64 0, .int .i64 0, .int .i64 0, .string ⟨#[]⟩, .int .i64 0, .int .u64 0, .bool false] (c10 o) 63 rfl rfl
    have hS1 := hS.push s1 (X := [σ.next]) (fun x hx => by simp at hx; omega)
    generalize σ.next = po at *
    show ∃ σ', (uncons [Value.int .i64 o.kind, .int .i64 o.v, .int .i64 o.n, .int .i64 o.r.seq, .int .i64 o.r.kind, .int .i64 o.r.block, .string o.r.data, .int .i64 o.r.number, .int .u64 o.keep, .bool o.next] _) = _
    rw [uncons_c, asI_i, uncons_c, asI_i, uncons_c, asI_i, uncons_c, asI_i, uncons_c, asI_i, uncons_c, asI_i, uncons_c, asS_s, uncons_c, asI_i, uncons_c, asI_i, uncons_c, asB_b, endl_n]
    have hput' : ∀ K : St → Res, (σ.new (.own [.int .i64 0, .int .i64 0, .int .i64 0, .int .i64 0, .int .i64 0, .int .i64 0, .string ⟨#[]⟩, .int .i64 0, .int .u64 0, .bool false] 63)).put po 0 [.int .i64 o.kind, .int .i64 o.v, .int .i64 o.n, .int .i64 o.r.seq, .int .i64 o.r.kind, .int .i64 o.r.block, .string o.r.data, .int .i64 o.r.number, .int .u64 o.keep, .bool o.next] K = K σ1 := hput
    rw [hput']
    -- up to where it was applied
    obtain ⟨σ2, e2, s2⟩ := napplied_spec L (k + 11) hL hS1.nx h.inv (by omega)
    have e2' : evCall Try.prog env L (k + 13) 19 [ptr nd] σ1 = some (.agg #[.int .i64 (N.apl 0), .int .i64 (N.apl 1), .int .i64 (N.apl 2), .int .i64 (N.apl 3)], σ2) := e2
    rw [e2', bnd_some, asAgL_a]
    show ∃ σ', (uncons [Value.int .i64 (N.apl 0), .int .i64 (N.apl 1), .int .i64 (N.apl 2), .int .i64 (N.apl 3)] _) = _
    have hA : [Value.int .i64 (N.apl 0), .int .i64 (N.apl 1), .int .i64 (N.apl 2), .int .i64 (N.apl 3)] = apC4 N := rfl
    have hS2 := hS1.idle s2
    have g2 : σ2.get po = some (.own (c10 o) 63) := (s2.2 po (by omega) (by simp)).trans g1
    obtain ⟨σ3, hput3, g3, s3, n3⟩ := tmp_put σ2 [.int .i64 0, .int .i64 0, .int .i64 0, .int .i64 0] (apC4 N) 57 rfl rfl
    have hS3 := hS2.push s3 (X := [σ2.next]) (fun x hx => by simp at hx; omega)
    have p3 : σ3.get po = some (.own (c10 o) 63) := (s3.2 po (by have := s2.1; omega) (by simp)).trans g2
    rw [uncons_c, asI_i, uncons_c, asI_i, uncons_c, asI_i, uncons_c, asI_i, endl_n, hA, hput3]
    generalize σ2.next = bb at *
    have h0f := fun v hv => h.apl v hv
    have hQ3 : ReQ σ0 σ3 nd g N gs p T [[bb], [po]] := ⟨G, m, d, a, F, ad, z, q, hS3⟩
    clear e2 e2' hput hput' hput3 hS1 hS2 hS g1 g2
    -- what follows a call
    have after : ∀ {σ' : St} {N' : NS} {gs' : GS} {T' : Nat → List S.Rec} {top' : Int}, ReQ σ0 σ' nd g N' gs' p T' [[bb], [po]] → σ'.get bb = some (.own (apC4 N) 57) → RI N' gs' T' top' (i + 1) → Le N N' →
        ∃ σ4, replTail L (k + 13) n (some ⟨qH, 0, none⟩) l.length z1 g nd (some ⟨p, 0, none⟩) 4 1 (N.im.km : Nat) top' bb l.length i σ' = some (.bool true, σ4) := by
      intro σ' N' gs' T' top' hQ' hb' hR' hL'
      obtain ⟨σ5, e5, hQ5⟩ := re_tail L (k + 10) n hL (s1 := some ⟨qH, 0, none⟩) (s1n := l.length) (s1z := z1) (s53 := l.length) (i := i) (by omega) hQ' hb' hR' (by omega) hL' h0f
      obtain ⟨σ6, e6⟩ := re_loop L k hL hl hH n (i + 1) σ5 N' gs' T' top' (by omega) (by omega) hQ5 hR'
      exact ⟨σ6, e5.trans e6⟩
    have skip : ∃ σ4, lpAt Try.prog env L (k + 13) 5 [true, true, true, true, true, true, true, true, false, true] [] n [(1, .slice (some ⟨qH, 0, none⟩) l.length z1), (5, ptr g), (7, ptr nd), (9, .slice (some ⟨p, 0, none⟩) 4 1), (10, .int .i64 (N.im.km : Nat)), (11, .int .i64 top), (53, .int .i64 l.length), (54, .int .i64 ((i + 1 : Nat) : Int))] σ3 = some (.bool true, σ4) :=
      re_loop L k hL hl hH n (i + 1) σ3 N gs T top (by omega) (by omega) ⟨G, m, d, a, F, ad, z, q, hS3.pop.pop⟩ (h.mono (by omega))
    rw [ld_at p3 0 (.int .i64 o.kind) rfl, asI_i]
    by_cases h1 : o.kind = 1
    · rw [show (o.kind == 1) = true by simpa using h1, br_true, ld_at p3 1 (.int .i64 o.v) rfl, asI_i, hwi]
      by_cases hv0 : o.v < 0
      · rw [decide_eq_true hv0, br_true]; exact skip
      rw [decide_eq_false hv0, br_false, ld_at p3 1 (.int .i64 o.v) rfl, asI_i]
      by_cases hv4 : o.v ≥ 4
      · rw [decide_eq_true hv4, br_true]; exact skip
      obtain ⟨v, hv⟩ : ∃ v : Nat, o.v = v := ⟨o.v.toNat, by omega⟩
      have hvl : v < 4 := by omega
      have i4 : inRange (v : Int) ((4 : Nat) : Int) = true := by simp [inRange]; omega
      have htl := h.tlen v hvl
      have hw1 : IntKind.wrap .i64 (((T v).length : Int) + 1) = ((T v).length : Int) + 1 := wrap_in _ (by omega) (by omega)
      have p3v : ∀ K : Value → Res, σ3.ld po 1 K = K (.int .i64 v) := fun K => by rw [← hv]; exact ld_at p3 1 (.int .i64 o.v) rfl K
      have hputq := fun (K : St → Res) => put_int p3 3 .i64 (((T v).length : Int) + 1) (by simp [c10]) K
      have s4 := Same.set σ3 po (.own ((c10 o).set 3 (.int .i64 (((T v).length : Int) + 1))) 63)
      have p4 : (σ3.set po (.own ((c10 o).set 3 (.int .i64 (((T v).length : Int) + 1))) 63)).get po = some (.own (c10 { o with r := { o.r with seq := ((T v).length : Int) + 1 } }) 63) := get_set_same _ _ _
      obtain ⟨hS4, hk4⟩ := hS3.own (i := 1) rfl s4
      rw [decide_eq_false hv4, br_false, p3v, asI_i, need_of i4, adr_some, hS3.ls.cell v hvl, asSl_s, hw1, hputq]
      have b4 := (hk4 0 bb (by omega) rfl).trans g3
      generalize σ3.set po (.own ((c10 o).set 3 (.int .i64 (((T v).length : Int) + 1))) 63) = σ4 at *
      have p4v : ∀ K : Value → Res, σ4.ld po 1 K = K (.int .i64 v) := fun K => by rw [← hv]; exact ld_at p4 1 (.int .i64 o.v) rfl K
      obtain ⟨F5, σ5, e5, hX5, k5⟩ := ntake_spec L (k + 9) hS4.nx h.inv (by omega) v hvl ⟨((T v).length : Int) + 1, o.r.kind, o.r.block, o.r.data, o.r.number⟩
      have hS5 := hS4.node hX5 k5
      have p5 := (k5 [po] (by simp) po (by simp)).trans p4
      have b5 := (k5 [bb] (by simp) bb (by simp)).trans b4
      have e5' : evCall Try.prog env L (k + 13) 10 [ptr nd, .int .i64 v, .agg #[.int .i64 (((T v).length : Int) + 1), .int .i64 o.r.kind, .int .i64 o.r.block, .string o.r.data, .int .i64 o.r.number]] σ4 = some (.tuple #[.int .i64 ((N.take v ⟨((T v).length : Int) + 1, o.r.kind, o.r.block, o.r.data, o.r.number⟩).st v).last, .nilIface], σ5) := e5
      rw [p4v, asI_i, lds_own (n := 5) _ p4 (by simp [c10])]
      show ∃ σ', (uncons [Value.int .i64 (((T v).length : Int) + 1), .int .i64 o.r.kind, .int .i64 o.r.block, .string o.r.data, .int .i64 o.r.number] _) = _
      rw [uncons_c, asI_i, uncons_c, asI_i, uncons_c, asI_i, uncons_c, asS_s, uncons_c, asI_i, endl_n, e5', bnd_some, asT_t, toList2, uncons_c, asI_i, uncons_c, endl_n, ld_at p5 3 (.int .i64 (((T v).length : Int) + 1)) rfl, asI_i]
      rcases h.take v hvl ⟨((T v).length : Int) + 1, o.r.kind, o.r.block, o.r.data, o.r.number⟩ rfl with ⟨hcan, hlast, hR, hLe⟩ | ⟨_, hlast, hR, hLe⟩
      · rw [show (((N.take v ⟨((T v).length : Int) + 1, o.r.kind, o.r.block, o.r.data, o.r.number⟩).st v).last == ((T v).length : Int) + 1) = true by rw [hlast]; simp, br_true]
        have p5v : ∀ K : Value → Res, σ5.ld po 1 K = K (.int .i64 v) := fun K => by rw [← hv]; exact ld_at p5 1 (.int .i64 o.v) rfl K
        rw [p5v, asI_i, p5v, asI_i, need_of i4, adr_some, hS5.ls.cell v hvl, asSl_s, lds_own (n := 5) _ p5 (by simp [c10])]
        show ∃ σ', (uncons [Value.int .i64 (((T v).length : Int) + 1), .int .i64 o.r.kind, .int .i64 o.r.block, .string o.r.data, .int .i64 o.r.number] _) = _
        rw [uncons_c, asI_i, uncons_c, asI_i, uncons_c, asI_i, uncons_c, asS_s, uncons_c, asI_i, endl_n]
        have s6 : Same σ5 (σ5.new (.own [.int .i64 (((T v).length : Int) + 1), .int .i64 o.r.kind, .int .i64 o.r.block, .string o.r.data, .int .i64 o.r.number] 40)) [] := Same.new _ _ _
        have g6 : (σ5.new (.own [.int .i64 (((T v).length : Int) + 1), .int .i64 o.r.kind, .int .i64 o.r.block, .string o.r.data, .int .i64 o.r.number] 40)).get σ5.next = some (.own [.int .i64 (((T v).length : Int) + 1), .int .i64 o.r.kind, .int .i64 o.r.block, .string o.r.data, .int .i64 o.r.number] 40) := get_new_same _ _
        generalize σ5.new (.own [.int .i64 (((T v).length : Int) + 1), .int .i64 o.r.kind, .int .i64 o.r.block, .string o.r.data, .int .i64 o.r.number] 40) = σ6 at *
        have hS6 := hS5.idle s6
        have pl5 := hS5.nx.lt (H := [po]) (by simp) po (by simp)
        have bl5 := hS5.nx.lt (H := [bb]) (by simp) bb (by simp)
        have p6 := (s6.2 po pl5 (by simp)).trans p5
        have b6 := (s6.2 bb bl5 (by simp)).trans b5
        have p6v : ∀ K : Value → Res, σ6.ld po 1 K = K (.int .i64 v) := fun K => by rw [← hv]; exact ld_at p6 1 (.int .i64 o.v) rfl K
        obtain ⟨ad', z', q', σ7, σ8, hgrow, hputp, hL8, hT8, s7⟩ := hS6.ls.app v hvl ⟨((T v).length : Int) + 1, o.r.kind, o.r.block, o.r.data, o.r.number⟩ (by omega)
        have hgrow' : ∀ K, grow 40 5 48 (ad v) (T v).length (z v) 1 [.int .i64 (((T v).length : Int) + 1), .int .i64 o.r.kind, .int .i64 o.r.block, .string o.r.data, .int .i64 o.r.number] σ6 K = K ad' ((T v).length + 1) z' σ7 := hgrow
        have hpoq : po ∉ q v := fun hx => hS6.nx.im.dis (1 + 5) (2 + 5) (by omega) rfl rfl po (by simp) (mem_lsB.2 (.inr ⟨v, hvl, hx⟩))
        have p7 : σ7.get po = _ := (s7.2 po (by have := s6.1; omega) hpoq).trans p6
        have p7v : ∀ K : Value → Res, σ7.ld po 1 K = K (.int .i64 v) := fun K => by rw [← hv]; exact ld_at p7 1 (.int .i64 o.v) rfl K
        obtain ⟨hS8, k8⟩ := hS6.lists hT8 hL8
        have p8 := (k8 [po] (by simp) po (by simp)).trans p6
        have b8 := (k8 [bb] (by simp) bb (by simp)).trans b6
        rw [p6v, asI_i, chk_same, p6v, asI_i, chk_same, hS6.ls.cell v hvl, asSl_s, chk_same, row_all (n := 5) g6 rfl (by omega), hgrow', p7v, asI_i, chk_same, need_of i4, adr_some, hputp, ld_at p8 7 (.int .i64 o.r.number) rfl, asI_i]
        exact after (top' := mx top o.r.number) ⟨G, m, d, a, F5, _, _, _, hS8⟩ b8 hR hLe
      · rw [show (((N.take v ⟨((T v).length : Int) + 1, o.r.kind, o.r.block, o.r.data, o.r.number⟩).st v).last == ((T v).length : Int) + 1) = false by simpa using hlast, br_false]
        exact after ⟨G, m, d, a, F5, ad, z, q, hS5⟩ b5 hR hLe
    rw [show (o.kind == 1) = false by simpa using h1, br_false]
    by_cases h2 : o.kind = 2
    · obtain ⟨v, σ4, e4, k4, hor⟩ := nbegin_spec L (k + 7) hL hS3.nx h.inv (by omega) hS3.gr
      have b4 := (k4.left (P := [[bb], [po]]) [bb] (by simp) bb (by simp)).trans g3
      rw [show (o.kind == 2) = true by simpa using h2, br_true, e4, bnd_some]
      rcases hor with ⟨_, ⟨e5, rfl, _⟩, s⟩ | ⟨_, _, ⟨e5, rfl, _⟩, s⟩ | ⟨h0, hr, rfl, hX⟩
      · rw [asT_t, toList2, uncons_c, asI_i, uncons_c, endl_n]
        exact after ⟨G, m, d, a, F, ad, z, q, hS3.idle s⟩ b4 (h.mono (by omega)) (Le.refl N)
      · rw [asT_t, toList2, uncons_c, asI_i, uncons_c, endl_n]
        exact after ⟨G, m, d, a, F, ad, z, q, hS3.idle s⟩ b4 (h.mono (by omega)) (Le.refl N)
      · obtain ⟨hR, hLe⟩ := h.begin h0 hr
        rw [asT_t, toList2, uncons_c, asI_i, uncons_c, endl_n]
        exact after ⟨G, m, d, a, F, ad, z, q, hS3.node hX k4⟩ b4 hR hLe
    rw [show (o.kind == 2) = false by simpa using h2, br_false]
    by_cases h3 : o.kind = 3
    · obtain ⟨σ4, N', e4, hQ4, b4, hR, hLe⟩ := re_steps L (k + 4) n hL (N0 := N) (s1 := some ⟨qH, 0, none⟩) (s1n := l.length) (s1z := z1) (s53 := l.length) (top := top) (i := i) (c := i) (by omega) (o := o) (bb := bb) (po := po) (gs := gs) (T := T) (p := p) L 0 σ3 N (by omega) (by omega) hQ3 p3 g3 h (Le.refl N)
      rw [show (o.kind == 3) = true by simpa using h3, br_true]
      obtain ⟨σ5, e5⟩ := after hQ4 b4 (hR.mono (by omega)) hLe
      exact ⟨σ5, e4.trans e5⟩
    rw [show (o.kind == 3) = false by simpa using h3, br_false]
    by_cases h4 : o.kind = 4
    · obtain ⟨m', F', σ4, e4, hX4, k4⟩ := ncrash_spec L (k + 1) hL (by omega) hS3.nx h.inv hS3.gr (by simp) o.keep
      have b4 := (k4 [bb] (by simp) bb (by simp)).trans g3
      obtain ⟨hR, hLe⟩ := h.crash (by omega) o.keep
      rw [show (o.kind == 4) = true by simpa using h4, br_true, ld_at p3 8 (.int .u64 o.keep) rfl, asI_i, e4, bnd_some, eqNil_nil, not_true, br_false]
      exact after ⟨G, m', d, a, F', ad, z, q, hS3.node hX4 k4⟩ b4 (hR.mono (by omega)) hLe
    rw [show (o.kind == 4) = false by simpa using h4, br_false]
    by_cases h5 : o.kind = 5
    · rw [show (o.kind == 5) = true by simpa using h5, br_true, ld_at p3 2 (.int .i64 o.n) rfl, asI_i]
      by_cases ht : o.n > top
      · obtain ⟨r, G', σ4, e4, hT4, hor⟩ := gadd_spec L (k + 9) hL hS3.gr o.n o.v
        rw [decide_eq_true ht, br_true, ld_at p3 1 (.int .i64 o.v) rfl, asI_i, ld_at p3 2 (.int .i64 o.n) rfl, asI_i, e4, bnd_some]
        rcases hor with ⟨_, _, hG⟩ | ⟨_, _, hG⟩
        · obtain ⟨hS4, k4⟩ := hS3.group hT4 hG
          exact after ⟨G', m, d, a, F, ad, z, q, hS4⟩ ((k4 [bb] (by simp) bb (by simp)).trans g3) (h.mono (by omega)) (Le.refl N)
        · obtain ⟨hS4, k4⟩ := hS3.group hT4 hG
          exact after ⟨G', m, d, a, F, ad, z, q, hS4⟩ ((k4 [bb] (by simp) bb (by simp)).trans g3) ((h.add ht).mono (by omega)) (Le.refl N)
      · rw [decide_eq_false ht, br_false]
        exact after hQ3 g3 (h.mono (by omega)) (Le.refl N)
    rw [show (o.kind == 5) = false by simpa using h5, br_false]
    by_cases h6 : o.kind = 6
    · rw [show (o.kind == 6) = true by simpa using h6, br_true, ld_at p3 2 (.int .i64 o.n) rfl, asI_i]
      by_cases ht : o.n > top
      · obtain ⟨r, G', σ4, e4, hT4, hor⟩ := gremove_spec L (k + 9) hL hS3.gr o.n o.v
        rw [decide_eq_true ht, br_true, ld_at p3 1 (.int .i64 o.v) rfl, asI_i, ld_at p3 2 (.int .i64 o.n) rfl, asI_i, e4, bnd_some]
        rcases hor with ⟨_, _, hG⟩ | ⟨_, _, hG⟩
        · obtain ⟨hS4, k4⟩ := hS3.group hT4 hG
          exact after ⟨G', m, d, a, F, ad, z, q, hS4⟩ ((k4 [bb] (by simp) bb (by simp)).trans g3) (h.mono (by omega)) (Le.refl N)
        · obtain ⟨hS4, k4⟩ := hS3.group hT4 hG
          exact after ⟨G', m, d, a, F, ad, z, q, hS4⟩ ((k4 [bb] (by simp) bb (by simp)).trans g3) ((h.add ht).mono (by omega)) (Le.refl N)
      · rw [decide_eq_false ht, br_false]
        exact after hQ3 g3 (h.mono (by omega)) (Le.refl N)
    rw [show (o.kind == 6) = false by simpa using h6, br_false]
    exact after hQ3 g3 (h.mono (by omega)) (Le.refl N)
end
theorem replays_holds (L k : Nat) (hL : 100000 < L) {σ0 : St} {ad0 ad1 : Option Addr} {l0 : List Int} {l1 : List OpB} (h0 : Holds σ0 1 c1 ad0 l0) (h1 : Holds σ0 10 c10 ad1 l1) :
    ∃ σ', evCall Try.prog env L (k + 14) 5 [.slice ad0 l0.length 0, .slice ad1 l1.length 0] σ0 = some (.bool true, σ') := by
  rw [f5_eq]
  obtain ⟨σ1, g1, s1⟩ := awake_spec L (k + 1) hL σ0
  have hk1 : Kept' σ0.next σ0 σ1 := ⟨s1.1, fun k hk => s1.2 k hk (by simp)⟩
  rw [g1, bnd_some, asB_b, not_true, br_false]
  obtain ⟨b, g2, hb⟩ := few_spec80 L (k + 12) hL hk1 0 h1
  rw [g2, bnd_some, asB_b]
  obtain ⟨σ3, g3, _⟩ := awake_spec L (k + 1) hL σ1
  cases b with
  | false => rw [not_false, br_true, g3, bnd_some, asB_b]; exact ⟨σ3, rfl⟩
  | true =>
    have h80 := hb rfl
    rw [not_true, br_false]
    by_cases h10 : ((l0.length : Nat) : Int) > 10
    · rw [decide_eq_true h10, br_true, g3, bnd_some, asB_b]; exact ⟨σ3, rfl⟩
    rw [decide_eq_false h10, br_false]
    rcases begun L (k + 1) hL s1 0 (by omega) h0 with ⟨e, σ2, _, e2, _⟩ | ⟨g, σ2, d, σ3, nd, m, a, F, σ4, hok, e2, e3, e4, hX, hG⟩
    · rw [e2, bnd_some, asT_t, toList2, uncons_c, asP_p, uncons_c, endl_n]
      exact ⟨σ2, rfl⟩
    rw [e2, bnd_some, asT_t, toList2, uncons_c, asP_p, uncons_c, endl_n, show (Option.isNone (some (⟨g, 0, none⟩ : Addr))) = false from rfl, br_false, e3, bnd_some, asP_p, e4, bnd_some, asT_t, toList2, uncons_c, asP_p, uncons_c, endl_n, eqNil_nil, not_true, br_false]
    have u1 : Same σ4 (σ4.new (.own [.slice none 0 0, .slice none 0 0, .slice none 0 0, .slice none 0 0] 38)) [] := Same.new _ _ _
    have p1 : (σ4.new (.own [.slice none 0 0, .slice none 0 0, .slice none 0 0, .slice none 0 0] 38)).get σ4.next = some (.own [.slice none 0 0, .slice none 0 0, .slice none 0 0, .slice none 0 0] 38) := get_new_same _ _
    have n1 : (σ4.new (.own [.slice none 0 0, .slice none 0 0, .slice none 0 0, .slice none 0 0] 38)).next = σ4.next + 1 := rfl
    have hX1 := hX.push u1 (X := [σ4.next]) (fun q hq => by simp at hq; omega)
    have hG1 := hG.idle u1
    generalize σ4.new (.own [.slice none 0 0, .slice none 0 0, .slice none 0 0, .slice none 0 0] 38) = σ5 at *
    generalize σ4.next = p at *
    exact re_loop L k hL h80 h1 L 0 σ5 newN (gOf l0) (fun _ => []) 0 (by omega) (by omega) ⟨[g], m, d, a, F, _, _, fun _ => [], ⟨hX1, Ls.fresh p1 (by omega), hG1⟩⟩ (RI.new _)
end Go.AM.Bp

/-
  Of what the laws' arguments say: records, calls.
-/
namespace Go.AM.Bp
open Go.Proofs
theorem intOf {σ : St} {row : List Value} (h : Go.AM.Img Try.prog σ 3 row) : ∃ n : Int, row = c1 n := by
  obtain ⟨n, e, _⟩ := Go.AM.Img.int_inv Try.underlying3 h
  exact ⟨n, e⟩
set_option maxRecDepth 20000 in
theorem recB {σ : St} {row : List Value} (h : Go.AM.Img Try.prog σ 40 row) : ∃ r : S.Rec, row = S.c5 r := by
  obtain ⟨h1, h2⟩ := h.struct_inv Try.underlying40
  have hl : row.length = 5 := by rw [h1]; kernel_rfl
  match row, hl with
  | [x, y, b, s, m], _ =>
    have hx := h2 _ (List.mem_of_getElem? (i := 0) rfl)
    have hy := h2 _ (List.mem_of_getElem? (i := 1) rfl)
    have hb := h2 _ (List.mem_of_getElem? (i := 2) rfl)
    have hs := h2 _ (List.mem_of_getElem? (i := 3) rfl)
    have hm := h2 _ (List.mem_of_getElem? (i := 4) rfl)
    have e3 : Try.prog.cellsOf 3 = 1 := by kernel_rfl
    have e9 : Try.prog.cellsOf 9 = 1 := by kernel_rfl
    simp only [e3] at hx hy hb hm
    simp only [e9] at hs
    obtain ⟨n0, w0, _⟩ := Go.AM.Img.int_inv Try.underlying3 hx
    obtain ⟨n1, w1, _⟩ := Go.AM.Img.int_inv Try.underlying3 hy
    obtain ⟨n2, w2, _⟩ := Go.AM.Img.int_inv Try.underlying3 hb
    obtain ⟨t, w3, _⟩ := Go.AM.Img.str_inv Try.underlying9 hs
    obtain ⟨n4, w4, _⟩ := Go.AM.Img.int_inv Try.underlying3 hm
    simp at w0 w1 w2 w3 w4
    exact ⟨⟨n0, n1, n2, t, n4⟩, by rw [w0, w1, w2, w3, w4]; rfl⟩
set_option maxRecDepth 20000 in
theorem opB {σ : St} {row : List Value} (h : Go.AM.Img Try.prog σ 63 row) : ∃ o : OpB, row = c10 o := by
  obtain ⟨h1, h2⟩ := h.struct_inv Try.underlying63
  have hl : row.length = 10 := by rw [h1]; kernel_rfl
  match row, hl with
  | [x, y, z, r0, r1, r2, r3, r4, kp, b], _ =>
    have hx := h2 _ (List.mem_of_getElem? (i := 0) rfl)
    have hy := h2 _ (List.mem_of_getElem? (i := 1) rfl)
    have hz := h2 _ (List.mem_of_getElem? (i := 2) rfl)
    have hr := h2 _ (List.mem_of_getElem? (i := 3) rfl)
    have hk := h2 _ (List.mem_of_getElem? (i := 4) rfl)
    have hb := h2 _ (List.mem_of_getElem? (i := 5) rfl)
    have e3 : Try.prog.cellsOf 3 = 1 := by kernel_rfl
    have e58 : Try.prog.cellsOf 40 = 5 := by kernel_rfl
    have e59 : Try.prog.cellsOf 55 = 1 := by kernel_rfl
    have e4 : Try.prog.cellsOf 4 = 1 := by kernel_rfl
    simp only [e3] at hx hy hz
    simp only [e58] at hr
    simp only [e59] at hk
    simp only [e4] at hb
    obtain ⟨n0, w0, _⟩ := Go.AM.Img.int_inv Try.underlying3 hx
    obtain ⟨n1, w1, _⟩ := Go.AM.Img.int_inv Try.underlying3 hy
    obtain ⟨n2, w2, _⟩ := Go.AM.Img.int_inv Try.underlying3 hz
    obtain ⟨r, wr⟩ := recB hr
    obtain ⟨n3, w3, hu⟩ := Go.AM.Img.int_inv Try.underlying55 hk
    obtain ⟨c, w4⟩ := Go.AM.Img.bool_inv Try.underlying4 hb
    simp [S.c5] at w0 w1 w2 w3 w4 wr
    obtain ⟨a0, a1, a2, a3, a4⟩ := wr
    exact ⟨⟨n0, n1, n2, r, n3, c⟩, by rw [w0, w1, w2, w3, w4, a0, a1, a2, a3, a4]; rfl⟩
end Go.AM.Bp
