/-
  BackupCatches: the end, all of it.
-/
import Derived.Test.YtnihjgamfnabnaaBpMbg
set_option linter.unusedVariables false
set_option linter.unusedSimpArgs false
set_option linter.unusedSectionVars false
namespace Go.AM.Bp
open Go.Proofs

/-! ### Plain -/
theorem marks_one {b : List S.Rec} (hb : ∀ r ∈ b, r.kind = 1) (M : Int) : S.marksOf (b ++ [mrk M b]) = [M] := by
  rw [S.marksOf_snoc, if_pos (show (mrk M b).kind = 2 from rfl)]
  have : S.marksOf b = [] := by
    unfold S.marksOf; rw [List.filterMap_eq_nil_iff]; intro r hr
    have := hb r hr
    rw [if_neg (by omega)]
  rw [this]; rfl
theorem upTo_one {b : List S.Rec} (hb : ∀ r ∈ b, r.kind = 1) (M : Int) : upTo (b ++ [mrk M b]) M = some b.length := by
  refine upTo_some (r := mrk M b) ?_ ⟨rfl, rfl⟩ (fun j' r' hj' hr => ?_)
  · rw [List.getElem?_append_right (Nat.le_refl _), Nat.sub_self]; rfl
  · rw [List.getElem?_append_left hj'] at hr
    have := hb r' (List.mem_of_getElem? hr)
    intro h
    have := h.1
    omega
section
variable {f : List Int} {M : Int} {ls : Nat → List S.Rec} {want : List ByteArray} {N : NS}
theorem ca_marks (hLF : LF f M ls want) (hst : ∀ v, v < 4 → N.st v = ⟨1, 0, ls v⟩) {m' : Int} (h : m' ∈ N.marks) : m' = M := by
  obtain ⟨v, hv, hm⟩ := mem_nmarks.1 h
  rw [hst v hv] at hm
  by_cases hf : (v : Int) ∈ f
  · obtain ⟨b, hb, hb1⟩ := hLF.full v hf
    dsimp only at hm
    rw [hb, marks_one hb1] at hm
    simpa using hm
  · rw [hLF.out v hf] at hm
    simp [S.marksOf] at hm
theorem ca_ready (hok : OkG f) (hfz : f.length ≠ 0) (hM : 1 ≤ M) (hLF : LF f M ls want) (hst : ∀ v, v < 4 → N.st v = ⟨1, 0, ls v⟩) (hk : N.im.km = 0) : N.ready (gOf f) = M := by
  refine ready_eq (can_of (fun v hv => ?_) (by rw [hk]; show ((0 : Nat) : Int) < M; omega) ?_) (fun m' hm' => ?_)
  · have hf := (gOf_at hok M v).1 hv
    obtain ⟨b, hb, hb1⟩ := hLF.full v hf
    rw [hst v (at_lt hv)]
    dsimp only
    rw [hb]
    exact ⟨_, upTo_one hb1 M⟩
  · cases f with
    | nil => exact absurd rfl hfz
    | cons x l =>
      have hx := hok.1 x (by simp)
      exact List.ne_nil_of_mem ((gOf_at hok M x.toNat).2 (by
        have : ((x.toNat : Nat) : Int) = x := by omega
        rw [this]; simp))
  · have := ca_marks hLF hst (can_marks hm')
    omega
theorem ca_lay (hok : OkG f) (hLF : LF f M ls want) (hst : ∀ v, v < 4 → N.st v = ⟨1, 0, ls v⟩) (hb : N.im.bl = noBlocks) : N.lay (gOf f) M = want := by
  rw [hLF.lay]
  unfold NS.lay
  rw [hb]
  have hat : (gOf f).at_ M = vsOf f := rfl
  rw [hat]
  have key : ∀ (l : List Nat) (b : List ByteArray), (∀ v ∈ l, v < 4 ∧ (v : Int) ∈ f) → l.foldl (N.layOne M) b = layAll ls l b := by
    intro l
    induction l with
    | nil => intro b _; rfl
    | cons v l ih =>
      intro b hl
      obtain ⟨hv, hf⟩ := hl v (by simp)
      unfold layAll
      rw [List.foldl_cons, List.foldl_cons, ih _ (fun u hu => hl u (by simp [hu]))]
      obtain ⟨bb, hb, hb1⟩ := hLF.full v hf
      have : N.layOne M b v = replay b v (ls v) := by
        unfold NS.layOne
        rw [hst v hv]
        dsimp only
        rw [hb, upTo_one hb1]
        dsimp only
        rw [List.take_of_length_le (by simp)]
      rw [this]
      rfl
  refine key _ _ (fun v hv => ?_)
  unfold vsOf at hv
  rw [List.mem_filter] at hv
  exact ⟨by simpa using hv.1, by simpa using hv.2⟩
/-- What is left when it is applied. -/
structure CaE (M : Int) (want : List ByteArray) (N : NS) : Prop where
  rs : ∀ v, v < 4 → (N.st v).rs = []
  km : (N.im.km : Int) = M
  bl : N.im.bl = want
  wk : N.im.work = none
theorem ca_done (hok : OkG f) (hM : 1 ≤ M) (hLF : LF f M ls want) (hst : ∀ v, v < 4 → N.st v = ⟨1, 0, ls v⟩) {S' : List D.Sec} {t : Nat} : CaE M want (NS.drop { N with im := ⟨S', [], t, M.toNat, want, none⟩, mark := 0 } (gOf f)) := by
  refine ⟨fun v hv => ?_, by show ((M.toNat : Nat) : Int) = M; omega, rfl, rfl⟩
  unfold NS.drop NS.dropL
  dsimp only
  have hMM : ((M.toNat : Nat) : Int) = M := by omega
  rw [hMM]
  by_cases hf : (v : Int) ∈ f
  · rw [if_pos ⟨(gOf_at hok M v).2 hf, by rw [hst v hv]; show (0 : Int) ≠ M; omega⟩, hst v hv]
    obtain ⟨b, hb, hb1⟩ := hLF.full v hf
    unfold SS.drop
    dsimp only
    rw [hb, upTo_one hb1]
    dsimp only
    rw [List.drop_eq_nil_iff]; simp
  · rw [if_neg (fun h => hf ((gOf_at hok M v).1 h.1)), hst v hv]
    exact hLF.out v hf
end
theorem CaE.ready {M : Int} {want : List ByteArray} {N : NS} (h : CaE M want N) (gs : GS) : N.ready gs = 0 := by
  unfold NS.ready NS.marks
  rw [show ((List.range 4).flatMap fun v => S.marksOf (N.st v).rs) = [] from by
    rw [List.flatMap_eq_nil_iff]; intro v hv
    rw [h.rs v (by simpa using hv)]; rfl]
  rfl
theorem CaE.held {M : Int} {want : List ByteArray} {N : NS} (h : CaE M want N) (gs : GS) : (N.fin gs).held = 0 := by
  unfold NS.fin
  rw [steps_idle _ _ h.wk]
  unfold NS.held
  rw [h.rs 0 (by omega), h.rs 1 (by omega), h.rs 2 (by omega), h.rs 3 (by omega)]
  rfl

/-! ### The walk -/
section
variable {σ0 : St} {nd g m d : Nat} {a : Nat → Nat} {gs : GS} {p w : Nat} {ls : Nat → List S.Rec} {want : List ByteArray}
theorem ca_s (L k : Nat) (hL : 100000 < L) {c : Nat} (hc : c ≤ 899) {M : Int} {s14 : Option Addr} {n14 z14 : Nat} {mk' : Nat} {bl' : List ByteArray} : ∀ (n j : Nat) (b : Bool) (σ : St) (F : Nat → List Nat) (N : NS), j ≤ 34 → 35 - j < n → CaQ σ0 σ nd g m d a F N gs p w ls want → N.Inv c → N.im.work = some (mk', bl', j) →
    ∃ n' σ' F', lpAt Try.prog env L (k + 9) 3 [true, true, true, true, true, true, true, true, true, true, true, true, true, true, true, false, true] [] n [(11, ptr nd), (14, .slice s14 n14 z14), (24, .int .i64 M), (26, .bool b), (237, .int .i64 j)] σ =
      lpAt Try.prog env L (k + 9) 3 [true, true, true, true, true, true, true, true, true, true, true, true, true, true, true, false, true] [] (n' + 1) [(11, ptr nd), (14, .slice s14 n14 z14), (24, .int .i64 M), (26, .bool true), (237, .int .i64 ((35 : Nat) : Int))] σ' ∧ CaQ σ0 σ' nd g m d a F' (N.steps gs (35 - j)) gs p w ls want
  | 0, j, b, σ, F, N, _, hn, _, _, _ => by omega
  | n + 1, j, b, σ, F, N, hj, hn, hQ, hI, hw => by
    have hwj : IntKind.wrap .i64 ((j : Int) + 1) = ((j + 1 : Nat) : Int) := by rw [wrap_in _ (by omega) (by omega)]; omega
    obtain ⟨ad, z, q, hC⟩ := hQ
    obtain ⟨v, F', σ1, e1, k1, hor⟩ := nstep_spec L k hL hc hC.nx hI hC.gr (by simp)
    rcases hor with ⟨h0, _⟩ | ⟨bl2, j2, h0, hw2, rfl, h1⟩
    · rcases hI.wk with ⟨_, hx⟩ | ⟨hx, _⟩
      · rw [hw] at hx; cases hx
      · omega
    rw [hw] at hw2
    cases hw2
    have hC1 := hC.node h1 k1
    have e : lpAt Try.prog env L (k + 9) 3 [true, true, true, true, true, true, true, true, true, true, true, true, true, true, true, false, true] [] (n + 1) [(11, ptr nd), (14, .slice s14 n14 z14), (24, .int .i64 M), (26, .bool b), (237, .int .i64 j)] σ =
        lpAt Try.prog env L (k + 9) 3 [true, true, true, true, true, true, true, true, true, true, true, true, true, true, true, false, true] [] n [(11, ptr nd), (14, .slice s14 n14 z14), (24, .int .i64 M), (26, .bool (decide (j = 34))), (237, .int .i64 ((j + 1 : Nat) : Int))] σ1 := by
      rw [f3_l47, decide_eq_true (by omega), br_true, e1, bnd_some, asT_t, toList2, uncons_c, asB_b, uncons_c, endl_n, hwj]
    by_cases h34 : j = 34
    · subst h34
      obtain ⟨n', rfl⟩ : ∃ n', n = n' + 1 := ⟨n - 1, by omega⟩
      exact ⟨n', σ1, F', e, ad, z, q, hC1⟩
    · have hws := (step_work gs hw (by omega)).1
      obtain ⟨n', σ2, F2, e2, h2⟩ := ca_s L k hL hc (M := M) (s14 := s14) (n14 := n14) (z14 := z14) n (j + 1) (decide (j = 34)) σ1 F' _ (by omega) (by omega) ⟨ad, z, q, hC1⟩ (hI.step hc gs) hws
      refine ⟨n', σ2, F2, e.trans e2, ?_⟩
      rw [show 35 - j = (35 - (j + 1)) + 1 by omega]; exact h2
theorem ca_end (L k n : Nat) (hL : 100000 < L) {c : Nat} (hc : c ≤ 899) {M : Int} {σ : St} {F : Nat → List Nat} {N : NS} (hQ : CaQ σ0 σ nd g m d a F N gs p w ls want) (hI : N.Inv c) (hE : CaE M want N) :
    ∃ σ', lpAt Try.prog env L (k + 13) 3 [true, true, true, true, true, true, true, true, true, true, true, true, true, true, true, false, true] [] (n + 1) [(11, ptr nd), (14, .slice (some ⟨w, 0, none⟩) 32 1), (24, .int .i64 M), (26, .bool true), (237, .int .i64 ((35 : Nat) : Int))] σ = some (.bool true, σ') := by
  have ht : ∀ b : List ByteArray, (strs b).toArray.toList = strs b := fun _ => rfl
  obtain ⟨ad, z, q, hC⟩ := hQ
  have hb1 := hC.nx.im.blen
  have hbl : N.im.bl = want := hE.bl
  obtain ⟨τ1, e1, t1⟩ := nimage_spec L (k + 11) hC.nx
  rw [hbl] at e1 hb1
  have u2 : Same τ1 (τ1.new (.own (strs want) 48)) [] := Same.new _ _ _
  have p2 : (τ1.new (.own (strs want) 48)).get τ1.next = some (.own (strs want) 48) := get_new_same _ _
  rw [f3_l47, decide_eq_false (by decide), br_false, e1, bnd_some, asT_t, toList2, uncons_c, asAgL_a, ht, uncons_c, asI_i, endl_n, need_of (by rw [strs_len, hb1]; rfl), tmp_put2 τ1 _ (strs want) 48 (by rw [strs_len, hb1]; rfl) (strs_one _), br_true, hE.km, show (M == M) = true by simp, br_true]
  generalize hτ2 : τ1.new (.own (strs want) 48) = τ2 at *
  have s02 := t1.trans u2
  have hC2 := hC.idle s02
  obtain ⟨ad3, z3, q3, τ3, e3, hR3, _, t3⟩ := flat_spec L (k + 12) (by omega) τ2 hb1
  have hC3 := hC2.idle t3
  have hRw : Row cS 1 9 τ3 (some ⟨w, 0, none⟩) 1 [w] want := ⟨fun x hx => by simp at hx; subst hx; exact hC3.wlt, .inr ⟨w, [], rfl, rfl, rfl, by rw [cS_flat, List.append_nil]; exact hC3.w⟩⟩
  have e4 := same_spec L (k + 12) (by omega) hR3 hRw hb1
  obtain ⟨τ5, e5, t5⟩ := nready_spec L (k + 8) hL hC3.nx hI hc hC3.gr
  rw [hE.ready] at e5
  have hC5 := hC3.idle t5
  obtain ⟨F6, τ6, e6, _, _⟩ := npromote_spec L (k + 3) hL hc hC5.nx hI hC5.gr (by simp)
  rw [hE.held] at e6
  rw [lds_all (n := 32) p2 (by rw [strs_len, hb1]), e3, bnd_some, asSl_s, e4, bnd_some, asB_b, br_true, e5, bnd_some, asI_i, show ((0 : Int) == 0) = true from rfl, br_true, e6, bnd_some, asI_i]
  exact ⟨τ6, rfl⟩
end
theorem catches_holds (L k : Nat) (hL : 100000 < L) {σ0 : St} {ad0 ad1 ad3 : Option Addr} {f : List Int} {D : List ByteArray} {ord : List U8} (hF : Holds σ0 1 c1 ad0 f) (hH : Holds σ0 1 cS ad1 D) (hO : Holds σ0 1 cU8 ad3 ord) (s2 : Int) (hs2 : 0 ≤ s2 ∧ s2 ≤ 65535) :
    ∃ σ', evCall Try.prog env L (k + 14) 3 [.slice ad0 f.length 0, .slice ad1 D.length 0, .int .u16 s2, .slice ad3 ord.length 0] σ0 = some (.bool true, σ') := by
  rw [f3_eq]
  obtain ⟨σ1, g1, s1⟩ := awake_spec L (k + 1) hL σ0
  obtain ⟨σ9, g9, _⟩ := awake_spec L (k + 1) hL σ1
  rw [g1, bnd_some, asB_b, not_true, br_false]
  by_cases h4 : ((f.length : Nat) : Int) > 4
  · rw [decide_eq_true h4, br_true, g9, bnd_some, asB_b]; exact ⟨σ9, rfl⟩
  rw [decide_eq_false h4, br_false]
  by_cases h60 : ((D.length : Nat) : Int) > 60
  · rw [decide_eq_true h60, br_true, g9, bnd_some, asB_b]; exact ⟨σ9, rfl⟩
  rw [decide_eq_false h60, br_false]
  by_cases h300 : ((ord.length : Nat) : Int) > 300
  · rw [decide_eq_true h300, br_true, g9, bnd_some, asB_b]; exact ⟨σ9, rfl⟩
  rw [decide_eq_false h300, br_false]
  rcases begun L (k + 1) hL s1 0 (by omega) hF with ⟨e, σ2, _, e2, _⟩ | ⟨g, σ2, d, σ3, nd, m, a, F, σ4, hok, e2, e3, e4, hX, hG⟩
  · rw [e2, bnd_some, asT_t, toList2, uncons_c, asP_p, uncons_c, endl_n]
    exact ⟨σ2, rfl⟩
  rw [e2, bnd_some, asT_t, toList2, uncons_c, asP_p, uncons_c, endl_n, show (Option.isNone (some (⟨g, 0, none⟩ : Addr))) = false from rfl, br_false]
  by_cases hfz : f.length = 0
  · rw [show (((f.length : Nat) : Int) == 0) = true by simpa using hfz, br_true]; exact ⟨σ2, rfl⟩
  rw [show (((f.length : Nat) : Int) == 0) = false by simpa using hfz, br_false, e3, bnd_some, asP_p, e4, bnd_some, asT_t, toList2, uncons_c, asP_p, uncons_c, endl_n, eqNil_nil, not_true, br_false]
  -- the lists, and what is wanted
  have u1 : Same σ4 (σ4.new (.own [.slice none 0 0, .slice none 0 0, .slice none 0 0, .slice none 0 0] 38)) [] := Same.new _ _ _
  have p1 : (σ4.new (.own [.slice none 0 0, .slice none 0 0, .slice none 0 0, .slice none 0 0] 38)).get σ4.next = some (.own [.slice none 0 0, .slice none 0 0, .slice none 0 0, .slice none 0 0] 38) := get_new_same _ _
  have n1 : (σ4.new (.own [.slice none 0 0, .slice none 0 0, .slice none 0 0, .slice none 0 0] 38)).next = σ4.next + 1 := rfl
  have hX1 := hX.push u1 (X := [σ4.next]) (fun q hq => by simp at hq; omega)
  have hG1 := hG.idle u1
  rw [lit32]
  generalize σ4.new (.own [.slice none 0 0, .slice none 0 0, .slice none 0 0, .slice none 0 0] 38) = σ5 at *
  generalize σ4.next = p at *
  have u2 : Same σ5 (σ5.new (.own (strs noBlocks) 9)) [] := Same.new _ _ _
  have p2 : (σ5.new (.own (strs noBlocks) 9)).get σ5.next = some (.own (strs noBlocks) 9) := get_new_same _ _
  have n2 : (σ5.new (.own (strs noBlocks) 9)).next = σ5.next + 1 := rfl
  have hX2 := hX1.push u2 (X := [σ5.next]) (fun q hq => by simp at hq; omega)
  have hG2 := hG1.idle u2
  have hp5 : p < σ5.next := hX1.lt (H := [p]) (by simp) p (by simp)
  have p12 := (u2.2 p hp5 (by simp)).trans p1
  generalize σ5.new (.own (strs noBlocks) 9) = σ6 at *
  generalize σ5.next = w at *
  have hQ6 : CaQ σ0 σ6 nd g m d a F newN (gOf f) p w (fun _ => []) noBlocks := ⟨_, _, fun _ => [], ⟨hX2, Ls.fresh p12 (by omega), p2, hG2⟩⟩
  have hL1 : L1 f (fun _ => []) noBlocks 0 := ⟨fun _ => Num.nil, by simp, fun _ _ => rfl, by simp, by
    have : ∀ (l : List Nat) (b : List ByteArray), layAll (fun _ => []) l b = b := by
      intro l
      induction l with
      | nil => intro b; rfl
      | cons v l ih => intro b; unfold layAll; rw [List.foldl_cons]; exact ih b
    rw [this]⟩
  rcases ca_w L (k + 13) hok (by omega) hfz (by omega) hF hH (nd := nd) (g := g) (m := m) (d := d) (a := a) (gs := gOf f) (F := F) (p := p) (w := w) (s2 := s2) (s3 := ad3) (s3n := ord.length) (s3z := 0) L 0 σ6 _ _ (by omega) (by omega) hQ6 hL1 with ⟨σ', e⟩ | ⟨σ7, ls7, want, e7, hQ7, hL7⟩
  · exact ⟨σ', e⟩
  obtain ⟨σ8, ls, e8, hQ8, hLF⟩ := ca_m L (k + 13) (M := 1 + s2) hs2 rfl hok (by omega) hF hL7 (s3 := ad3) (s3n := ord.length) (s3z := 0) L 0 σ7 ls7 (by omega) (by omega) hQ7 (fun v => by rw [List.take_zero, if_neg (by simp)])
  obtain ⟨σA, FA, NA, eA, hQA, hIA, hPA⟩ := ca_o L (k + 9) (s2 := s2) hok (by omega) hfz (by omega) hF hO hLF L 0 σ8 F newN (by omega) (by omega) hQ8 newN_inv ⟨fun v hv => ⟨0, Nat.le_refl _, Nat.zero_le _, by rw [List.take_zero]; rfl⟩, rfl, rfl⟩
  obtain ⟨nB, σB, FB, NB, eB, hQB, hIB, hstB, himB, hmB⟩ := ca_all L (k + 9) (s2 := s2) hok (by omega) hF hL hLF L 0 σA FA NA (by omega) (by omega) hQA hIA (hPA.mono (fun u _ => by rw [List.take_zero, if_neg (by simp)]; exact Nat.le_refl _))
  have hkm : NB.im.km = 0 := by rw [himB]; rfl
  have hbl : NB.im.bl = noBlocks := by rw [himB]; rfl
  have hr := ca_ready hok hfz (M := 1 + s2) (by omega) hLF hstB hkm
  have hlay := ca_lay hok hLF hstB hbl
  obtain ⟨ad, z, q, hCB⟩ := hQB
  obtain ⟨v1, σC, eC, kC, horC⟩ := nbegin_spec L (k + 7) hL hCB.nx hIB (by omega) hCB.gr
  rcases horC with ⟨hx, _⟩ | ⟨_, hx, _⟩ | ⟨h0, hr0, rfl, hXC⟩
  · exact absurd hmB hx
  · rw [hr] at hx; omega
  have hIC := (hIB.begun h0 hr0).1
  rw [hr] at hXC hIC eC
  have hCC := hCB.node hXC kC
  have hw2 : IntKind.wrap .i64 (1 + IntKind.wrap .i64 s2) = 1 + s2 := by rw [wrap_in s2 (by omega) (by omega), wrap_in _ (by omega) (by omega)]
  have hwk : (NB.begun (gOf f) (1 + s2)).im.work = some ((1 + s2).toNat, want, 0) := by unfold NS.begun; dsimp only; rw [hlay]
  obtain ⟨nD, σD, FD, eD, hQD⟩ := ca_s L (k + 4) hL (c := 601) (by omega) (M := 1 + s2) (s14 := some ⟨w, 0, none⟩) (n14 := 32) (z14 := 1) L 0 false σC FB _ (by omega) (by omega) ⟨ad, z, q, hCC⟩ hIC hwk
  have hE : CaE (1 + s2) want ((NB.begun (gOf f) (1 + s2)).steps (gOf f) (35 - 0)) := by
    obtain ⟨S', e⟩ := steps_full (gOf f) hwk (by omega) 35 (by omega)
    rw [Nat.sub_zero, e]
    exact ca_done (N := NB.begun (gOf f) (1 + s2)) hok (by omega) hLF hstB
  obtain ⟨σE, eE⟩ := ca_end L k nD hL (c := 601) (by omega) hQD (NS.Inv.steps (by omega) (gOf f) _ hIC) hE
  have eF : lpAt Try.prog env L (k + 13) 3 [true, true, true, true, true, true, true, true, true, true, true, false, true] [] (nB + 1) [(0, .slice ad0 f.length 0), (2, .int .u16 s2), (11, ptr nd), (13, .slice (some ⟨p, 0, none⟩) 4 1), (14, .slice (some ⟨w, 0, none⟩) 32 1), (190, .int .i64 f.length), (191, .int .i64 f.length)] σB = some (.bool true, σE) := by
    rw [f3_l34, decide_eq_false (by omega), br_false, eC, bnd_some, asT_t, toList2, uncons_c, asI_i, uncons_c, endl_n, eqNil_nil, not_true, br_false, hw2, show ((1 + s2 : Int) != 1 + s2) = false by simp, br_false]
    exact eD.trans eE
  exact ⟨σE, e7.trans (e8.trans (eA.trans (eB.trans eF)))⟩
end Go.AM.Bp
