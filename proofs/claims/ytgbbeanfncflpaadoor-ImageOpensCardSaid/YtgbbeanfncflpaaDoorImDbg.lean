/-
  Texts laid together: ImDb, ImDc, ImZ.
-/
import Derived.Test.YtgbbeanfncflpaaDoorImMg
set_option linter.unusedVariables false
set_option linter.unusedSimpArgs false
set_option linter.unusedSectionVars false
/-
  THE DOCUMENT'S IMAGE: Open.
-/
namespace Go.AM.Im
open Go.Proofs

theorem cS_len (s : ByteArray) : (cS s).length = 1 := rfl
theorem cS_one (s : ByteArray) : (cS s).all oneCell = true := rfl
theorem cS_flat : ∀ l : List ByteArray, l.flatMap cS = strs l
  | [] => rfl
  | s :: l => by rw [List.flatMap_cons, cS_flat l]; rfl

/-- The document's image. -/
structure DI (σ : St) (w a : Nat) (t mk : Int) (bl : List ByteArray) (G : List Nat) : Prop where
  ex : ∃ q ad z, G = w :: q ∧ σ.get w = some (.own [ptr a, .int .i64 t, .int .i64 mk, .slice ad 32 z] 43) ∧ bl.length = 32 ∧ Row cS 1 9 σ ad z q bl ∧ w ∉ q
  lt : ∀ x ∈ G, x < σ.next
theorem DI.same {σ σ' : St} {w a : Nat} {t mk : Int} {bl : List ByteArray} {G X : List Nat} (h : DI σ w a t mk bl G) (hs : Same σ σ' X) (hX : ∀ x ∈ G, x ∉ X) : DI σ' w a t mk bl G := by
  obtain ⟨q, ad, z, rfl, h1, h2, h3, h4⟩ := h.ex
  exact ⟨⟨q, ad, z, rfl, by rw [hs.2 w (h.lt w (by simp)) (hX w (by simp))]; exact h1, h2, h3.same hs (fun x hx => hX x (by simp [hx])), h4⟩, fun x hx => by have := h.lt x hx; have := hs.1; omega⟩

theorem dread31 {σ : St} {a : Nat} {F : List Nat} {S : List D.Sec} {W : List D.Lw} (h : D.Ref σ a F S W) (L k : Nat) (hL : W.length < L) (hW : W.length ≤ 100000) {x : Int} {i : Nat} (hx : x = i) (hi : i < S.length) :
    evCall Tryd.prog env L (k + 1) 37 [ptr a, .int .i64 x] σ = some (.tuple #[.string (str (rdS S W i)), .int .i64 0], σ) ∧ (rdS S W i).length = 64 := by
  subst hx
  rcases D.rread_spec h L k hL hW (i : Int) with ⟨s, _, _, hg, g⟩ | ⟨hno, _⟩
  · rw [Int.toNat_natCast] at hg
    have e : rdS S W i = (D.look i s W).1 := by unfold rdS; rw [hg]
    rw [e]
    exact ⟨g, (D.look i s W).2⟩
  · exact absurd ⟨by omega, by omega⟩ hno

/-- What follows the heads. -/
noncomputable def dtl (L k : Nat) (st : St) (a0 w : Nat) (x0 x1 : ByteArray) : Res := AM.St.ld st w 1 fun v43 => AM.asI IntKind.i64 v43 fun v44 => AM.br (v44 == (0 : Int)) (AM.need (decide (ByteArray.size x0 + ByteArray.size x1 ≤ 4611686018427387904)) (AM.St.row (AM.St.new st (AM.Blk.own (AM.zerosN [Value.int IntKind.u8 (0 : Int)] 128) 5)) (some { block := AM.St.next st, off := 0 }) 128 fun v45 => AM.asBy v45 fun v46 => AM.br (!ByteArray.toList { data := { toList := (ByteArray.data x0).1 ++ (ByteArray.data x1).1 } } == ByteArray.toList { data := List.toArray v46 }) (some (Value.tuple #[Value.pointer none, Value.int IntKind.i64 (4 : Int)], AM.St.new st (AM.Blk.own (AM.zerosN [Value.int IntKind.u8 (0 : Int)] 128) 5))) (some (Value.tuple #[Value.pointer (some { block := w, off := 0 }), Value.int IntKind.i64 (0 : Int)], AM.St.new st (AM.Blk.own (AM.zerosN [Value.int IntKind.u8 (0 : Int)] 128) 5))))) (AM.St.ld st w 3 fun v47 => AM.asSl v47 fun v48 v49 v50 => AM.lpAt Proofs.Tryd.prog AM.Im.env L k 13 [true, true, true, true, true, true, true, true, true, false, true] [] L [(0, Value.pointer (some { block := a0, off := 0 })), (12, Value.pointer (some { block := w, off := 0 })), (80, Value.int IntKind.i64 (↑v49 : Int)), (81, Value.int IntKind.i64 (0 : Int))] st)

section
variable {a : Nat} {F : List Nat} {S : List D.Sec} {W : List D.Lw} (L k : Nat) (hL : 100000 < L) (hW : W.length ≤ 10000) (hS : 66 ≤ S.length)
include hL hW hS
theorem dopen_loop {σ0 : St} {t : Nat} {mk : Int} (ht : t ≤ top) {w : Nat} (hw0 : σ0.next ≤ w) (hF : ∀ x ∈ F, x < σ0.next) : ∀ (n i : Nat) (σ : St) (cur : List ByteArray) (G : List Nat), i ≤ 32 → 32 - i < n → D.Ref σ a F S W → DI σ w a t mk cur G → (∀ x ∈ G, σ0.next ≤ x) → Same σ0 σ [] → area (rdS S W) t i = some (cur.take i) →
    ∃ σ', Same σ0 σ' [] ∧ ((∃ bl G', area (rdS S W) t 32 = some bl ∧ lpAt Tryd.prog env L (k + 5) 13 [true, true, true, true, true, true, true, true, true, false, true] [] n [(0, ptr a), (12, ptr w), (80, .int .i64 (32 : Nat)), (81, .int .i64 i)] σ = some (.tuple #[ptr w, .int .i64 0], σ') ∧ DI σ' w a t mk bl G' ∧ ∀ x ∈ G', σ0.next ≤ x) ∨
      (area (rdS S W) t 32 = none ∧ lpAt Tryd.prog env L (k + 5) 13 [true, true, true, true, true, true, true, true, true, false, true] [] n [(0, ptr a), (12, ptr w), (80, .int .i64 (32 : Nat)), (81, .int .i64 i)] σ = some (.tuple #[.pointer none, .int .i64 4], σ')))
  | 0, i, σ, cur, G, _, h, _, _, _, _, _ => by omega
  | n + 1, i, σ, cur, G, hi, hn, hR, hI, hG, hs0, ha => by
    obtain ⟨q, ad, z, rfl, h1, h2, h3, h4⟩ := hI.ex
    have hwlt := hI.lt w (by simp)
    rw [f13_l15]
    by_cases hi32 : i = 32
    · subst hi32
      rw [decide_eq_false (by omega), br_false]
      rw [List.take_of_length_le (by omega)] at ha
      exact ⟨σ, hs0, .inl ⟨cur, _, ha, rfl, hI, hG⟩⟩
    have hat : IntKind.wrap .i64 (IntKind.wrap .i64 ((2 : Int) + IntKind.wrap .i64 ((32 : Int) * Int.tmod (t : Int) 2)) + (i : Int)) = ((2 + 32 * (t % 2) + i : Nat) : Int) := by
      rw [tmod2, wrap_in ((32 : Int) * ((t % 2 : Nat) : Int)) (by omega) (by omega), wrap_in ((2 : Int) + _) (by omega) (by omega), wrap_in _ (by omega) (by omega)]; omega
    have hw1 : IntKind.wrap .i64 ((i : Int) + 1) = ((i + 1 : Nat) : Int) := by rw [wrap_in _ (by omega) (by omega)]; omega
    obtain ⟨g1, hlen⟩ := dread31 hR L (k + 4) (by omega) (by omega) hat (by omega)
    rw [decide_eq_true (by omega), br_true, ld_at h1 (0 + 1) _ rfl, asI_i, g1, bnd_some, asT_t, toList2, uncons_c, asS_s, uncons_c, asI_i, endl_n]
    have fail : blk t (rdS S W (2 + 32 * (t % 2) + i)) = none → area (rdS S W) t 32 = none := fun hb => by
      refine area_none (n := i + 1) ?_ 32 (by omega)
      unfold area
      rw [ha, hb]
    have good : ∀ s, blk t (rdS S W (2 + 32 * (t % 2) + i)) = some s → area (rdS S W) t (i + 1) = some ((cur.set i s).take (i + 1)) := fun s hb => by
      unfold area
      rw [ha, hb]
      dsimp only
      rw [List.take_add_one, List.getElem?_set_self (by omega), List.take_set_of_le (by omega)]
      rfl
    generalize rdS S W (2 + 32 * (t % 2) + i) = l at hlen fail good
    obtain ⟨σ2, s2, ho⟩ := ropen_spec L (k + 2) hL σ l (by omega)
    unfold blk at fail good
    rcases ho with ⟨b, ho, g2⟩ | ⟨ho, g2⟩
    rotate_left
    · rw [g2, bnd_some, asT_t, toList2, uncons_c, asS_s, uncons_c, asB_b, endl_n, not_false, br_true]
      rw [ho] at fail
      exact ⟨σ2, hs0.trans s2, .inr ⟨fail rfl, rfl⟩⟩
    have hbl2 := opened_len ho
    rw [g2, bnd_some, asT_t, toList2, uncons_c, asS_s, uncons_c, asB_b, endl_n, not_true, br_false]
    have s3 : Same σ2 (σ2.new (.own [.string (str b), .int .i64 (0 : Nat)] 98)) [] := Same.new _ _ _
    have hD3 : Dd (σ2.new (.own [.string (str b), .int .i64 (0 : Nat)] 98)) σ2.next 0 b := ⟨get_new_same _ _, by simp⟩
    have n3 : (σ2.new (.own [.string (str b), .int .i64 (0 : Nat)] 98)).next = σ2.next + 1 := rfl
    rw [show (σ2.new (Blk.own [Value.string (str b), Value.int .i64 0] 98)) = σ2.new (.own [.string (str b), .int .i64 (0 : Nat)] 98) from rfl]
    generalize σ2.new (.own [.string (str b), .int .i64 (0 : Nat)] 98) = σ3 at s3 hD3 n3
    generalize hr : σ2.next = r at hD3 n3
    have hsr : σ.next ≤ r := by have := s2.1; omega
    obtain ⟨σ4, g4, hD4, s4⟩ := rnumber_spec L (k + 3) hL hD3 (by omega)
    have turn := fun (s : ByteArray) (hb : bsec t s = l) => blk_turn ht ho hb
    have hle := rnum_le 0 b
    rw [ho] at fail good
    dsimp only at fail good
    generalize rnum 0 b = p1 at hD4 hle g4 fail good turn
    obtain ⟨e1, x1, r1⟩ := p1
    dsimp only at hD4 hle g4 fail good turn
    obtain ⟨σ5, g5, hD5, s5⟩ := rtext_read L (k + 2) hL hD4 (by omega) 16
    rw [show ((16 : Nat) : Int) = 16 from rfl] at g5
    have hs16 : (rtext 16 e1 r1).1 = 0 → (str (rtext 16 e1 r1).2.1).size ≤ 16 := by
      intro he
      unfold rtext at he ⊢
      rw [str_size]
      split
      · simp
      split
      · simp
      split
      · simp
      · simp only [List.length_take]; omega
    rw [g4, bnd_some, asI_i, g5, bnd_some, asS_s]
    generalize rtext 16 e1 r1 = p2 at hD5 hs16 fail good
    obtain ⟨e2, x2, r2⟩ := p2
    dsimp only at hD5 hs16 fail good
    rw [ld_at hD5.ex 1 _ rfl, asI_i]
    have s25 : Same σ σ5 [] := ((s2.trans s3).fresh s4 (fun x hx => .inr (by simp at hx; subst hx; omega))).fresh s5 (fun x hx => .inr (by simp at hx; subst hx; omega))
    have s05 := hs0.trans s25
    by_cases he : e2 = 0
    rotate_left
    · rw [show ((e2 : Int) != 0) = true by simp only [bne_iff_ne, ne_eq]; omega, br_true]
      exact ⟨σ5, s05, .inr ⟨fail (if_neg (fun h => he h.1)), rfl⟩⟩
    have h15 : σ5.get w = _ := (s25.2 w hwlt (by simp)).trans h1
    rw [show ((e2 : Int) != 0) = false by rw [he]; rfl, br_false, ld_at h15 (0 + 1) _ rfl, asI_i]
    by_cases hx1 : x1 = t
    rotate_left
    · rw [show ((x1 : Int) != (t : Int)) = true by simp only [bne_iff_ne, ne_eq]; omega, br_true]
      refine ⟨σ5, s05, .inr ⟨fail (if_neg (fun h => hx1 ?_)), rfl⟩⟩
      have := turn _ h.2
      simp only [Prod.mk.injEq] at this
      exact this.2.1
    subst hx1
    obtain ⟨σ6, g6, s6⟩ := rblock_spec L (k + 1) hL σ5 x1 (str x2) (hs16 he)
    rw [show ((x1 : Int) != (x1 : Int)) = false by simp, br_false, g6, bnd_some, asS_s, str_inj]
    have s06 := s25.trans s6
    by_cases heq : bsec x1 (str x2) = l
    rotate_left
    · rw [decide_eq_false heq, not_false, br_true]
      exact ⟨σ6, hs0.trans s06, .inr ⟨fail (if_neg (fun h => heq h.2)), rfl⟩⟩
    rw [decide_eq_true heq, not_true, br_false]
    have hg := good _ (if_pos ⟨he, heq⟩)
    have h16 : σ6.get w = _ := (s6.2 w (by have := s25.1; omega) (by simp)).trans h15
    have h36 := h3.same s06 (by simp)
    obtain ⟨q', σ7, e1', e2', hput, hr7, s7, n7⟩ := h36.put cS_len cS_one (i := i) (by omega) (str x2)
    subst e1' e2'
    have hput' : ∀ K : St → Res, σ6.put q' (0 + Int.toNat (i : Int) * 1) [.string (str x2)] K = K σ7 := fun K => hput _ (by simp) K
    rw [ld_at h16 (0 + 3) _ rfl, asSl_s, need_of (by simp [inRange]; omega), adr_some, hput', hw1]
    have hq' := hG q' (by simp)
    have s07 : Same σ0 σ7 [] := (hs0.trans s06).fresh s7 (fun x hx => .inr (by simp at hx; subst hx; exact hq'))
    have hqw : w ≠ q' := fun h => h4 (by simp [h])
    obtain ⟨σ', hs', hor⟩ := dopen_loop ht hw0 hF n (i + 1) σ7 (cur.set i (str x2)) (w :: [q']) (by omega) (by omega) (((hR.idle s06)).same s7 (fun x hx => by simp; rintro rfl; have := hF x hx; omega))
      ⟨⟨[q'], _, z, rfl, by rw [s7.2 w (by have := s06.1; omega) (by simpa using hqw)]; exact h16, by simpa using h2, hr7, by simpa using hqw⟩, fun x hx => by
        simp at hx
        rcases hx with rfl | rfl
        · have := s06.1; have := s7.1; omega
        · exact hr7.lt _ (by simp)⟩ (fun x hx => hG x (by simpa using hx)) s07 hg
    exact ⟨σ', hs', hor⟩

theorem dtl_ok {σ0 σ : St} {t mk : Nat} (ht : t ≤ top) (hh : headS (rdS S W) = (t, mk)) {w b : Nat} (hs0 : Same σ0 σ []) (hw0 : σ0.next ≤ w) (hb0 : σ0.next ≤ b) (hwb : w ≠ b) (hwl : w < σ.next) (hbl : b < σ.next) (hF : ∀ x ∈ F, x < σ0.next)
    (hw : σ.get w = some (.own [ptr a, .int .i64 (t : Nat), .int .i64 (mk : Nat), .slice (some ⟨b, 0, none⟩) 32 1] 43)) (hb : σ.get b = some (.own (strs noBlocks) 9)) (hR : D.Ref σ a F S W) :
    ∃ σ', Same σ0 σ' [] ∧ ((∃ t mk bl w' G, opn (rdS S W) = some (t, mk, bl) ∧ dtl L (k + 5) σ a w (str (rdS S W 0)) (str (rdS S W 1)) = some (.tuple #[ptr w', .int .i64 0], σ') ∧ DI σ' w' a (t : Nat) (mk : Nat) bl G ∧ ∀ x ∈ G, σ0.next ≤ x) ∨
      (opn (rdS S W) = none ∧ dtl L (k + 5) σ a w (str (rdS S W 0)) (str (rdS S W 1)) = some (.tuple #[.pointer none, .int .i64 4], σ'))) := by
  have hl0 := (dread31 hR L k (by omega) (by omega) (x := 0) (i := 0) rfl (by omega)).2
  have hl1 := (dread31 hR L k (by omega) (by omega) (x := 1) (i := 1) rfl (by omega)).2
  have hI : DI σ w a (t : Nat) (mk : Nat) noBlocks [w, b] := ⟨⟨[b], _, 1, rfl, hw, rfl, ⟨by simpa using hbl, .inr ⟨b, [], rfl, rfl, rfl, by rw [cS_flat, List.append_nil]; exact hb⟩⟩, by simpa using hwb⟩, fun x hx => by simp at hx; rcases hx with rfl | rfl; exact hwl; exact hbl⟩
  unfold dtl opn
  rw [hh]
  dsimp only
  rw [ld_at hw 1 _ rfl, asI_i]
  by_cases h0 : t = 0
  · subst h0
    have hm0 : mk = 0 := by
      have hz2 : ∀ (l : List UInt8) (s : Nat), (hof l s).1 = 0 → (hof l s).2 = 0 := by
        intro l s
        unfold hof
        split
        · exact fun _ => rfl
        · split
          · exact fun _ => rfl
          · rename_i h; intro h0; exact absurd (.inr (.inl (by omega))) h
      unfold headS at hh
      split at hh
      · have := hz2 (rdS S W 1) 1 (by rw [hh]); rw [hh] at this; exact this
      · have := hz2 (rdS S W 0) 0 (by rw [hh]); rw [hh] at this; exact this
    subst hm0
    rw [show (((0 : Nat) : Int) == 0) = true from rfl, br_true, if_neg (by omega), need_of (by rw [decide_eq_true_eq, str_size, str_size]; omega), zeros8]
    have s1 : Same σ (σ.new (.own (by8 (List.replicate 128 0)) 5)) [] := Same.new _ _ _
    have g1 : (σ.new (.own (by8 (List.replicate 128 0)) 5)).get σ.next = some (.own (by8 (List.replicate 128 0)) 5) := get_new_same _ _
    have n1 : (σ.new (.own (by8 (List.replicate 128 0)) 5)).next = σ.next + 1 := rfl
    generalize σ.new (.own (by8 (List.replicate 128 0)) 5) = σ1 at s1 g1 n1
    rw [(Bytes.own g1 (by omega)).row 128 (List.length_replicate).symm, asBy_by8]
    have hcmp : (ByteArray.toList ⟨⟨(ByteArray.data (str (rdS S W 0))).1 ++ (ByteArray.data (str (rdS S W 1))).1⟩⟩ == ByteArray.toList ⟨(List.replicate 128 (0 : UInt8)).toArray⟩) = decide (rdS S W 0 = List.replicate 64 0 ∧ rdS S W 1 = List.replicate 64 0) := by
      have e := str_inj (l := rdS S W 0 ++ rdS S W 1) (m := List.replicate 128 0)
      have e2 : (rdS S W 0 ++ rdS S W 1 = List.replicate 128 0) ↔ (rdS S W 0 = List.replicate 64 0 ∧ rdS S W 1 = List.replicate 64 0) := by
        rw [show (128 : Nat) = 64 + 64 from rfl, ← List.replicate_append_replicate]
        constructor
        · intro h
          exact List.append_inj h (by rw [hl0, List.length_replicate])
        · rintro ⟨h1, h2⟩; rw [h1, h2]
      refine e.trans ?_
      by_cases h : rdS S W 0 ++ rdS S W 1 = List.replicate 128 0
      · rw [decide_eq_true h, decide_eq_true (e2.1 h)]
      · rw [decide_eq_false h, decide_eq_false (fun h' => h (e2.2 h'))]
    rw [hcmp]
    refine ⟨σ1, hs0.trans s1, ?_⟩
    by_cases hz : rdS S W 0 = List.replicate 64 0 ∧ rdS S W 1 = List.replicate 64 0
    · rw [decide_eq_true hz, not_true, br_false, if_pos hz]
      exact .inl ⟨0, 0, noBlocks, w, _, rfl, rfl, hI.same s1 (by simp), fun x hx => by simp at hx; rcases hx with rfl | rfl; exact hw0; exact hb0⟩
    · rw [decide_eq_false hz, not_false, br_true, if_neg hz]
      exact .inr ⟨rfl, rfl⟩
  · rw [show ((t : Int) == 0) = false by rw [beq_eq_false_iff_ne]; omega, br_false, if_pos (by omega), ld_at hw 3 _ rfl, asSl_s]
    obtain ⟨σ', hs', hor⟩ := dopen_loop L k hL hW hS ht (mk := mk) hw0 hF L 0 σ noBlocks [w, b] (by omega) (by omega) hR hI (fun x hx => by simp at hx; rcases hx with rfl | rfl; exact hw0; exact hb0) hs0 rfl
    refine ⟨σ', hs', ?_⟩
    rcases hor with ⟨bl, G', e1, e2, e3, e4⟩ | ⟨e1, e2⟩
    · rw [e1]; exact .inl ⟨t, mk, bl, w, G', rfl, e2, e3, e4⟩
    · rw [e1]; exact .inr ⟨rfl, e2⟩

theorem dopen_spec {σ : St} (hR : D.Ref σ a F S W) : ∃ σ', Same σ σ' [] ∧ ((∃ t mk bl w G, opn (rdS S W) = some (t, mk, bl) ∧ evCall Tryd.prog env L (k + 6) 13 [ptr a] σ = some (.tuple #[ptr w, .int .i64 0], σ') ∧ DI σ' w a (t : Nat) (mk : Nat) bl G ∧ ∀ x ∈ G, σ.next ≤ x) ∨
      (opn (rdS S W) = none ∧ evCall Tryd.prog env L (k + 6) 13 [ptr a] σ = some (.tuple #[.pointer none, .int .i64 4], σ'))) := by
  obtain ⟨q1, q2, ad1, z1, ad2, z2, hFe, h1, _⟩ := hR.ex
  have halt := hR.lt a (by rw [hFe]; simp)
  obtain ⟨g0, hl0⟩ := dread31 hR L (k + 4) (by omega) (by omega) (x := 0) (i := 0) rfl (by omega)
  obtain ⟨g1, hl1⟩ := dread31 hR L (k + 4) (by omega) (by omega) (x := 1) (i := 1) rfl (by omega)
  obtain ⟨σ2, g2, s2⟩ := rheadOf_spec L k hL (σ := σ) (l := rdS S W 0) (by omega) 0
  obtain ⟨σ3, g3, s3⟩ := rheadOf_spec L k hL (σ := σ2) (l := rdS S W 1) (by omega) 1
  rw [f13_eq, ld_at h1 0 _ rfl, asSl_s, decide_eq_false (by omega), br_false, g0, bnd_some, asT_t, toList2, uncons_c, asS_s, uncons_c, asI_i, endl_n, g1, bnd_some, asT_t, toList2, uncons_c, asS_s, uncons_c, asI_i, endl_n]
  have g2' : evCall Tryd.prog env L (k + 5) 38 [.string (str (rdS S W 0)), .int .i64 0] σ = _ := g2
  have g3' : evCall Tryd.prog env L (k + 5) 38 [.string (str (rdS S W 1)), .int .i64 1] σ2 = _ := g3
  rw [g2', bnd_some, asT_t, toList2, uncons_c, asI_i, uncons_c, asI_i, endl_n, g3', bnd_some, asT_t, toList2, uncons_c, asI_i, uncons_c, asI_i, endl_n, need_true, need_true, need_true, lit32]
  have s03 := s2.trans s3
  have s4 : Same σ3 (σ3.new (.own (strs noBlocks) 9)) [] := Same.new _ _ _
  have g4 : (σ3.new (.own (strs noBlocks) 9)).get σ3.next = some (.own (strs noBlocks) 9) := get_new_same _ _
  have n4 : (σ3.new (.own (strs noBlocks) 9)).next = σ3.next + 1 := rfl
  generalize σ3.new (.own (strs noBlocks) 9) = σ4 at s4 g4 n4
  have halt3 : ∀ x ∈ F, x < σ3.next := fun x hx => by have := hR.lt x hx; have := s03.1; omega
  have hle0 := hof_le (l := rdS S W 0) (slot := 0)
  have hle1 := hof_le (l := rdS S W 1) (slot := 1)
  have s5 : ∀ B, Same σ4 (σ4.new B) [] := fun B => Same.new _ _ _
  have s04 := s03.trans s4
  have hn3 : σ.next ≤ σ3.next := s03.1
  by_cases hgt : (hof (rdS S W 1) 1).1 > (hof (rdS S W 0) 0).1
  · have hh : headS (rdS S W) = ((hof (rdS S W 1) 1).1, (hof (rdS S W 1) 1).2) := by unfold headS; rw [if_pos hgt]
    rw [decide_eq_true (by omega), br_true]
    generalize hB : (Blk.own [ptr a, Value.int .i64 ((hof (rdS S W 0) 0).1 : Int), Value.int .i64 ((hof (rdS S W 0) 0).2 : Int), .slice (some ⟨σ3.next, 0, none⟩) 32 1] 43) = B
    have g5 : (σ4.new B).get σ4.next = some (.own [ptr a, Value.int .i64 ((hof (rdS S W 0) 0).1 : Int), Value.int .i64 ((hof (rdS S W 0) 0).2 : Int), .slice (some ⟨σ3.next, 0, none⟩) 32 1] 43) := by rw [hB]; exact get_new_same _ _
    rw [put_int g5 1 _ _ (by simp)]
    have g6 : ((σ4.new B).set σ4.next (.own (List.set [ptr a, Value.int .i64 ((hof (rdS S W 0) 0).1 : Int), Value.int .i64 ((hof (rdS S W 0) 0).2 : Int), .slice (some ⟨σ3.next, 0, none⟩) 32 1] 1 (.int .i64 ((hof (rdS S W 1) 1).1 : Int))) 43)).get σ4.next = _ := get_set_same _ _ _
    have s6 := Same.set (σ4.new B) σ4.next (.own (List.set [ptr a, Value.int .i64 ((hof (rdS S W 0) 0).1 : Int), Value.int .i64 ((hof (rdS S W 0) 0).2 : Int), .slice (some ⟨σ3.next, 0, none⟩) 32 1] 1 (.int .i64 ((hof (rdS S W 1) 1).1 : Int))) 43)
    generalize (σ4.new B).set σ4.next (.own (List.set [ptr a, Value.int .i64 ((hof (rdS S W 0) 0).1 : Int), Value.int .i64 ((hof (rdS S W 0) 0).2 : Int), .slice (some ⟨σ3.next, 0, none⟩) 32 1] 1 (.int .i64 ((hof (rdS S W 1) 1).1 : Int))) 43) = σ6 at g6 s6
    rw [put_int g6 2 _ _ (by simp)]
    have g7 : (σ6.set σ4.next (.own (List.set (List.set [ptr a, Value.int .i64 ((hof (rdS S W 0) 0).1 : Int), Value.int .i64 ((hof (rdS S W 0) 0).2 : Int), .slice (some ⟨σ3.next, 0, none⟩) 32 1] 1 (.int .i64 ((hof (rdS S W 1) 1).1 : Int))) 2 (.int .i64 ((hof (rdS S W 1) 1).2 : Int))) 43)).get σ4.next = _ := get_set_same _ _ _
    have s7 := Same.set σ6 σ4.next (.own (List.set (List.set [ptr a, Value.int .i64 ((hof (rdS S W 0) 0).1 : Int), Value.int .i64 ((hof (rdS S W 0) 0).2 : Int), .slice (some ⟨σ3.next, 0, none⟩) 32 1] 1 (.int .i64 ((hof (rdS S W 1) 1).1 : Int))) 2 (.int .i64 ((hof (rdS S W 1) 1).2 : Int))) 43)
    generalize σ6.set σ4.next (.own (List.set (List.set [ptr a, Value.int .i64 ((hof (rdS S W 0) 0).1 : Int), Value.int .i64 ((hof (rdS S W 0) 0).2 : Int), .slice (some ⟨σ3.next, 0, none⟩) 32 1] 1 (.int .i64 ((hof (rdS S W 1) 1).1 : Int))) 2 (.int .i64 ((hof (rdS S W 1) 1).2 : Int))) 43) = σ7 at g7 s7
    have n5 : (σ4.new B).next = σ4.next + 1 := rfl
    have s67 : Same (σ4.new B) σ7 [σ4.next] := s6.trans s7
    have s47 : Same σ4 σ7 [] := (s5 B).fresh s67 (fun x hx => .inr (by simp at hx; subst hx; exact Nat.le_refl _))
    exact dtl_ok L k hL hW hS hle1 hh (s04.trans s47) (by omega) hn3 (by omega) (by have := s67.1; omega) (by have := s47.1; omega) (fun x hx => hR.lt x hx) g7 ((s47.2 σ3.next (by omega) (by simp)).trans g4) (hR.idle (s04.trans s47))
  · have hh : headS (rdS S W) = ((hof (rdS S W 0) 0).1, (hof (rdS S W 0) 0).2) := by unfold headS; rw [if_neg hgt]
    rw [decide_eq_false (by omega), br_false]
    have g5 : (σ4.new (Blk.own [Value.pointer (some ⟨a, 0, none⟩), Value.int .i64 ((hof (rdS S W 0) 0).1 : Int), Value.int .i64 ((hof (rdS S W 0) 0).2 : Int), .slice (some ⟨σ3.next, 0, none⟩) 32 1] 43)).get σ4.next = _ := get_new_same _ _
    have s45 := s5 (Blk.own [Value.pointer (some ⟨a, 0, none⟩), Value.int .i64 ((hof (rdS S W 0) 0).1 : Int), Value.int .i64 ((hof (rdS S W 0) 0).2 : Int), .slice (some ⟨σ3.next, 0, none⟩) 32 1] 43)
    have n5 : (σ4.new (Blk.own [Value.pointer (some ⟨a, 0, none⟩), Value.int .i64 ((hof (rdS S W 0) 0).1 : Int), Value.int .i64 ((hof (rdS S W 0) 0).2 : Int), .slice (some ⟨σ3.next, 0, none⟩) 32 1] 43)).next = σ4.next + 1 := rfl
    exact dtl_ok L k hL hW hS hle0 hh (s04.trans s45) (by omega) hn3 (by omega) (by omega) (by omega) (fun x hx => hR.lt x hx) g5 ((s45.2 σ3.next (by omega) (by simp)).trans g4) (hR.idle (s04.trans s45))
end
end Go.AM.Im

/-
  THE DOCUMENT'S IMAGE: Begin, Step; flat, Same, alike.
-/
namespace Go.AM.Im
open Go.Proofs

/-! flat. -/
theorem flat_inner (L k m0 : Nat) {σ0 : St} {p : Nat} {b : List ByteArray} (hb : b.length = 32) (hp : p < σ0.next) {v : Nat} (hv : v < 4) : ∀ (n j : Nat) (σ : St) (ad : Option Addr) (z : Nat) (q : List Nat), j ≤ 8 → 8 - j < n → σ.get p = some (.own (strs b) 48) → Row cS 1 9 σ ad z q (b.take (8 * v + j)) → (∀ x ∈ q, σ0.next ≤ x) → Same σ0 σ [] →
    ∃ ad' z' q' σ' n', lpAt Tryd.prog env L k 18 [true, true, false, true, false, true, true, false, true, true] [m0] n [(1, ptr p), (3, .slice ad ((8 * v + j : Nat)) z), (4, .int .i64 v), (6, .int .i64 v), (9, .int .i64 j)] σ =
        lpAt Tryd.prog env L k 18 [true, true, false, true] [] n' [(1, ptr p), (3, .slice ad' ((8 * (v + 1) : Nat)) z'), (6, .int .i64 ((v + 1 : Nat) : Int))] σ' ∧ n' = m0 ∧
      σ'.get p = some (.own (strs b) 48) ∧ Row cS 1 9 σ' ad' z' q' (b.take (8 * (v + 1))) ∧ (∀ x ∈ q', σ0.next ≤ x) ∧ Same σ0 σ' []
  | 0, j, σ, ad, z, q, _, h, _, _, _, _ => by omega
  | n + 1, j, σ, ad, z, q, hj, hn, hg, hR, hq, hs => by
    rw [f18_l6]
    have hw : ∀ x : Nat, x < 100 → IntKind.wrap .i64 ((x : Int) + 1) = ((x + 1 : Nat) : Int) := fun x hx => by rw [wrap_in _ (by omega) (by omega)]; omega
    by_cases h8 : j = 8
    · subst h8
      rw [decide_eq_false (by omega), br_false, hw v (by omega)]
      exact ⟨ad, z, q, σ, m0, by rw [show 8 * (v + 1) = 8 * v + 8 by omega], rfl, hg, by rw [show 8 * (v + 1) = 8 * v + 8 by omega]; exact hR, hq, hs⟩
    · have hget : b[8 * v + j]? = some b[8 * v + j] := List.getElem?_eq_getElem (by omega)
      have htk : b.take (8 * v + (j + 1)) = b.take (8 * v + j) ++ [b[8 * v + j]] := by rw [← Nat.add_assoc, List.take_add_one, hget]; rfl
      have hstr := strs_get hget
      generalize b[8 * v + j] = s at hget htk hstr
      rw [decide_eq_true (by omega), br_true, need_of (by simp [inRange]; omega), need_of (by simp [inRange]; omega), ld_at hg _ (.string s) (by simpa [Nat.mul_comm] using hstr), asS_s]
      have s1 : Same σ (σ.new (.own [.string s] 9)) [] := Same.new _ _ _
      have g1 : (σ.new (.own [.string s] 9)).get σ.next = some (.own [.string s] 9) := get_new_same _ _
      generalize σ.new (.own [.string s] 9) = σ1 at s1 g1
      rw [row_one g1]
      have hlen : (b.take (8 * v + j)).length = 8 * v + j := by rw [List.length_take]; omega
      obtain ⟨ad2, z2, q2, σ2, hgrow, hR2, s2, hq2⟩ := grow_row (by_ := 16) (hR.same s1 (by simp)) cS_len cS_one (by omega) [s] [.string s] rfl 1 rfl (by rw [hlen]; unfold roomTop; omega) (by rw [hlen]; unfold sizeTop; omega)
      rw [hlen] at hgrow
      rw [hgrow, hw j (by omega)]
      have s02 : Same σ0 σ2 [] := (hs.trans s1).fresh s2 (fun x hx => .inr (hq x hx))
      obtain ⟨ad', z', q', σ', n', e, r⟩ := flat_inner L k m0 hb hp hv n (j + 1) σ2 ad2 z2 q2 (by omega) (by omega) ((s02.2 p hp (by simp)).trans ((hs.2 p hp (by simp)).symm.trans hg)) (by rw [htk]; exact hR2) (fun x hx => by rcases hq2 x hx with h | h; exact hq x h; have := hs.1; have := s1.1; omega) s02
      exact ⟨ad', z', q', σ', n', e, r⟩
theorem flat_outer (L k : Nat) (hL : 100 < L) {σ0 : St} {p : Nat} {b : List ByteArray} (hb : b.length = 32) (hp : p < σ0.next) : ∀ (n v : Nat) (σ : St) (ad : Option Addr) (z : Nat) (q : List Nat), v ≤ 4 → 4 - v < n → σ.get p = some (.own (strs b) 48) → Row cS 1 9 σ ad z q (b.take (8 * v)) → (∀ x ∈ q, σ0.next ≤ x) → Same σ0 σ [] →
    ∃ ad' z' q' σ', lpAt Tryd.prog env L k 18 [true, true, false, true] [] n [(1, ptr p), (3, .slice ad ((8 * v : Nat)) z), (6, .int .i64 v)] σ = some (.slice ad' 32 z', σ') ∧ Row cS 1 9 σ' ad' z' q' b ∧ (∀ x ∈ q', σ0.next ≤ x) ∧ Same σ0 σ' []
  | 0, v, σ, ad, z, q, _, h, _, _, _, _ => by omega
  | n + 1, v, σ, ad, z, q, hv, hn, hg, hR, hq, hs => by
    rw [f18_l3]
    by_cases h4 : v = 4
    · subst h4
      rw [decide_eq_false (by omega), br_false]
      rw [List.take_of_length_le (by omega)] at hR
      exact ⟨ad, z, q, σ, rfl, hR, hq, hs⟩
    · rw [decide_eq_true (by omega), br_true]
      obtain ⟨ad1, z1, q1, σ1, n', e, rfl, hg1, hR1, hq1, hs1⟩ := flat_inner L k n hb hp (v := v) (by omega) L 0 σ ad z q (by omega) (by omega) hg hR hq hs
      obtain ⟨ad', z', q', σ', e2, r⟩ := flat_outer L k hL hb hp n' (v + 1) σ1 ad1 z1 q1 (by omega) (by omega) hg1 hR1 hq1 hs1
      exact ⟨ad', z', q', σ', e.trans e2, r⟩
theorem flat_spec (L k : Nat) (hL : 100 < L) (σ : St) {b : List ByteArray} (hb : b.length = 32) : ∃ ad z q σ', evCall Tryd.prog env L (k + 1) 18 [.agg (strs b).toArray] σ = some (.slice ad 32 z, σ') ∧ Row cS 1 9 σ' ad z q b ∧ (∀ x ∈ q, σ.next ≤ x) ∧ Same σ σ' [] := by
  rw [f18_eq]
  have s1 : Same σ (σ.new (.own (strs b) 48)) [] := Same.new _ _ _
  have g1 : (σ.new (.own (strs b) 48)).get σ.next = some (.own (strs b) 48) := get_new_same _ _
  have n1 : (σ.new (.own (strs b) 48)).next = σ.next + 1 := rfl
  generalize σ.new (.own (strs b) 48) = σ1 at s1 g1 n1
  obtain ⟨ad', z', q', σ', e, h1, h2, h3⟩ := flat_outer L k hL hb (σ0 := σ1) (p := σ.next) (by omega) L 0 σ1 none 0 [] (by omega) (by omega) g1 (Row.nil _ _ _ _) (by simp) (Same.refl _ _)
  exact ⟨ad', z', q', σ', e, h1, fun x hx => by have := h2 x hx; omega, s1.trans h3⟩

/-! Begin. -/
/-! Same. -/
theorem same_loop (L k : Nat) {σ : St} {ad1 ad2 : Option Addr} {z1 z2 : Nat} {q1 q2 : List Nat} {b : List ByteArray} (h1 : Row cS 1 9 σ ad1 z1 q1 b) (h2 : Row cS 1 9 σ ad2 z2 q2 b) (hb : b.length = 32) : ∀ (n i : Nat), i ≤ 32 → 32 - i < n →
    lpAt Tryd.prog env L k 17 [true, true, false, true] [] n [(0, .slice ad1 32 z1), (1, .slice ad2 32 z2), (12, .int .i64 (32 : Nat)), (13, .int .i64 i)] σ = some (.bool true, σ)
  | 0, i, _, h => by omega
  | n + 1, i, hi, hn => by
    rw [f17_l4]
    by_cases h32 : i = 32
    · rw [decide_eq_false (by omega), br_false]
    · have hget : b[i]? = some b[i] := List.getElem?_eq_getElem (by omega)
      obtain ⟨p1, e1, hat1⟩ := h1.at cS_len hget
      obtain ⟨p2, e2, hat2⟩ := h2.at cS_len hget
      generalize b[i] = s at hat1 hat2
      have hw : IntKind.wrap .i64 ((i : Int) + 1) = ((i + 1 : Nat) : Int) := by rw [wrap_in _ (by omega) (by omega)]; omega
      rw [decide_eq_true (by omega), br_true, need_of (by simp [inRange]; omega), e1, adr_some, hat1 0 (.string s) _ (by omega) rfl (by simp), asS_s, need_of (by simp [inRange]; omega), e2, adr_some, hat2 0 (.string s) _ (by omega) rfl (by simp), asS_s, show (ByteArray.toList s == ByteArray.toList s) = true by simp, not_true, br_false, hw, ← e1, ← e2]
      exact same_loop L k h1 h2 hb n (i + 1) (by omega) (by omega)
theorem same_spec (L k : Nat) (hL : 100 < L) {σ : St} {ad1 ad2 : Option Addr} {z1 z2 : Nat} {q1 q2 : List Nat} {b : List ByteArray} (h1 : Row cS 1 9 σ ad1 z1 q1 b) (h2 : Row cS 1 9 σ ad2 z2 q2 b) (hb : b.length = 32) :
    evCall Tryd.prog env L (k + 1) 17 [.slice ad1 32 z1, .slice ad2 32 z2] σ = some (.bool true, σ) := by
  rw [f17_eq, show (((32 : Nat) : Int) != ((32 : Nat) : Int)) = false by simp, br_false]
  exact same_loop L k h1 h2 hb L 0 (by omega) (by omega)

/-! alike. -/
theorem alike_loop (L k : Nat) (hL : 100000 < L) {d a N : Nat} {F F2 : List Nat} {S : List D.Sec} {W : List D.Lw} (hN : S.length = N) (hN1 : N ≤ 1000) (hW : W.length ≤ 10000) {σ0 : St} (hD0 : D.Disk σ0 d F S W) (hR0 : D.Ref σ0 a F2 S W) : ∀ (n i : Nat) (σ : St), i ≤ N → N - i < n → Same σ0 σ [] →
    ∃ σ', lpAt Tryd.prog env L (k + 3) 15 [true, false, true] [] n [(0, ptr d), (1, ptr a), (11, .int .i64 N), (12, .int .i64 i)] σ = some (.bool true, σ') ∧ Same σ0 σ' []
  | 0, i, σ, _, h, _ => by omega
  | n + 1, i, σ, hi, hn, hs => by
    have hD := hD0.idle hs
    have hR := hR0.idle hs
    rw [f15_l2]
    by_cases hiN : i = N
    · obtain ⟨q1, q2, ad1, z1, ad2, z2, _, h1, _⟩ := hR.ex
      have e1 : evCall Tryd.prog env L (k + 3) 27 [ptr d] σ = _ := D.loose_spec hD L (k + 2)
      have e2 : evCall Tryd.prog env L (k + 3) 31 [ptr d] σ = _ := D.len_spec hD L (k + 2)
      rw [decide_eq_false (by omega), br_false, e1, bnd_some, asI_i, ld_at h1 (0 + 1) _ rfl, asSl_s, ld_at h1 (0 + 1) _ rfl, asSl_s, chk_same, show (((W.length : Nat) : Int) == (W.length : Nat)) = true by simp, br_true, e2, bnd_some, asI_i, ld_at h1 (0 + 0) _ rfl, asSl_s, ld_at h1 (0 + 0) _ rfl, asSl_s, chk_same, show (((S.length : Nat) : Int) == (S.length : Nat)) = true by simp]
      exact ⟨σ, rfl, hs⟩
    · obtain ⟨q, σ1, g1, hB, hlen, s1, hq⟩ := dread_spec hD L k (by omega) (by omega) (x := (i : Int)) rfl (by omega)
      obtain ⟨g2, _⟩ := dread31 (hR.idle s1) L (k + 2) (by omega) (by omega) (x := (i : Int)) rfl (by omega)
      have hw : IntKind.wrap .i64 ((i : Int) + 1) = ((i + 1 : Nat) : Int) := by rw [wrap_in _ (by omega) (by omega)]; omega
      rw [decide_eq_true (by omega), br_true, g1, bnd_some, asT_t, toList2, uncons_c, asSl_s, uncons_c, endl_n, g2, bnd_some, asT_t, toList2, uncons_c, asS_s, uncons_c, asI_i, endl_n, hB.row 64 hlen.symm, asBy_by8,
        show (ByteArray.toList ⟨(rdS S W i).toArray⟩ == ByteArray.toList (str (rdS S W i))) = true from by rw [show (⟨(rdS S W i).toArray⟩ : ByteArray) = str (rdS S W i) from rfl]; simp, not_true, br_false, hw]
      exact alike_loop L k hL hN hN1 hW hD0 hR0 n (i + 1) σ1 (by omega) (by omega) (hs.trans s1)
theorem alike_spec (L k : Nat) (hL : 100000 < L) {d a : Nat} {F F2 : List Nat} {S : List D.Sec} {W : List D.Lw} (hN1 : S.length ≤ 1000) (hW : W.length ≤ 10000) {σ : St} (hD : D.Disk σ d F S W) (hR : D.Ref σ a F2 S W) :
    ∃ σ', evCall Tryd.prog env L (k + 4) 15 [ptr d, ptr a] σ = some (.bool true, σ') ∧ Same σ σ' [] := by
  have e2 : evCall Tryd.prog env L (k + 3) 31 [ptr d] σ = _ := D.len_spec hD L (k + 2)
  rw [f15_eq, e2, bnd_some, asI_i]
  exact alike_loop L k hL rfl hN1 hW hD hR L 0 σ (by omega) (by omega) (Same.refl _ _)

/-! Step. -/
section
variable {σ : St} {w a : Nat} {s : IS} {F G : List Nat}
end
end Go.AM.Im

/-
  ImageOpens.
-/
namespace Go.AM.Im
open Go.Proofs

/-! Too few sectors. -/
theorem wrong_any (L k : Nat) (σ : St) (at_ e : Int) (he : e ≠ 0) : ∃ v σ', evCall Tryd.prog env L (k + 2) 32 [.int .i64 at_, .int .i64 e] σ = some (v, σ') ∧ Err σ' v e at_ ∧ Same σ σ' [] := by
  rw [f32_eq, f30_eq, eqNil_iface, br_false]
  have hb : ∀ K : Res, eqErr (.iface 60 (.int .i64 e)) 60 .i64 0 (fun v2 => br v2 (some (Value.nilIface, σ)) K) = K := by
    intro K
    have : eqErr (.iface 60 (.int .i64 e)) 60 .i64 0 (fun v2 => br v2 (some (Value.nilIface, σ)) K) = br (e == 0) (some (Value.nilIface, σ)) K := by simp [eqErr]
    rw [this, show (e == 0) = false by simpa using he, br_false]
  rw [hb, need_true, need_of (show oneCell (Value.iface 60 (Value.int .i64 e)) = true from rfl), need_true, bnd_some]
  exact ⟨_, _, rfl, ⟨σ.next, rfl, get_new_same _ _, by simp⟩, Same.new _ _ _⟩
theorem open_small (L k : Nat) {σ : St} {d : Nat} {F : List Nat} {S : List D.Sec} {W : List D.Lw} (hD : D.Disk σ d F S W) (hS : S.length < 66) :
    ∃ v σ', evCall Tryd.prog env L (k + 10) 12 [ptr d] σ = some (.tuple #[.pointer none, v], σ') ∧ Err σ' v 1 0 ∧ Same σ σ' [] := by
  obtain ⟨v, σ', g, hE, hs⟩ := wrong_any L (k + 7) σ 0 1 (by decide)
  rw [f12_eq, D.len_spec hD L (k + 8), bnd_some, asI_i, f28_eq, bnd_some, asI_i, decide_eq_true (by omega), br_true, g, bnd_some]
  exact ⟨v, σ', rfl, hE, hs⟩
theorem dopen_small (L k : Nat) {σ : St} {a : Nat} {F : List Nat} {S : List D.Sec} {W : List D.Lw} (hR : D.Ref σ a F S W) (hS : S.length < 66) :
    evCall Tryd.prog env L (k + 1) 13 [ptr a] σ = some (.tuple #[.pointer none, .int .i64 1], σ) := by
  obtain ⟨q1, q2, ad1, z1, ad2, z2, _, h1, _⟩ := hR.ex
  rw [f13_eq, ld_at h1 0 _ rfl, asSl_s, decide_eq_true (by omega), br_true]

section
variable {σ0 : St} {d a : Nat}
theorem opens_end (L k n : Nat) (hL : 100000 < L) {σ : St} {F F2 : List Nat} {S : List D.Sec} {W : List D.Lw} (hD : D.Disk σ d F S W) (hR : D.Ref σ a F2 S W) (hS : S.length ≤ 70) (hW : W.length ≤ 70) (s0 : Option Addr) (s0n s0z : Nat) {i l : Int} (hil : ¬ i < l) :
    ∃ σ', lpAt Tryd.prog env L (k + 11) 3 [true, true, true, true, false, true] [] (n + 1) [(0, .slice s0 s0n s0z), (6, ptr d), (7, ptr a), (33, .int .i64 l), (34, .int .i64 i)] σ = some (.bool true, σ') := by
  rw [f3_l6, decide_eq_false hil, br_false]
  by_cases h66 : S.length < 66
  · obtain ⟨v, σ1, g1, hE, s1⟩ := open_small L (k + 1) hD h66
    have g2 : evCall Tryd.prog env L (k + 11) 13 [ptr a] σ1 = _ := dopen_small L (k + 10) (hR.idle s1) h66
    obtain ⟨σ3, g3, s3⟩ := place_ok L (k + 7) (by omega) (.inr ⟨hE, by decide⟩)
    have s13 := s1.trans s3
    obtain ⟨σ4, g4, s4⟩ := alike_spec L (k + 7) hL (by omega) (by omega) (hD.idle s13) (hR.idle s13)
    rw [g1, bnd_some, asT_t, toList2, uncons_c, asP_p, uncons_c, endl_n, g2, bnd_some, asT_t, toList2, uncons_c, asP_p, uncons_c, asI_i, endl_n, g3, bnd_some, asB_b, not_true, br_false, show (!(Option.isNone (none : Option Addr) == ((1 : Int) != 0))) = false from rfl, br_false, g4, bnd_some, asB_b, not_true, br_false, show ((1 : Int) != 0) = true from rfl, br_true]
    exact ⟨σ4, rfl⟩
  · rcases open_img L (k + 1) hL (by omega) (by omega) hD with ⟨m, t, mk, bl, σ1, ho, g1, hI, hm, s1⟩ | ⟨q, σ1, ho, g1, hq, hql, s1⟩
    · obtain ⟨σ2, s2, hor⟩ := dopen_spec L (k + 5) hL (by omega) (by omega) (hR.idle s1)
      rcases hor with ⟨t', mk', bl', w, G', e, g2, hDI, hfr⟩ | ⟨e, _⟩
      rotate_left
      · rw [ho] at e; cases e
      rw [ho] at e
      cases e
      obtain ⟨σ3, g3, s3⟩ := place_ok L (k + 7) (by omega) (σ := σ2) (v := .nilIface) (c := 0) (a := 0) (.inl ⟨rfl, rfl⟩)
      have s13 := (s1.trans s2).trans s3
      obtain ⟨σ4, g4, s4⟩ := alike_spec L (k + 7) hL (by omega) (by omega) (hD.idle s13) (hR.idle s13)
      have s24 := s3.trans s4
      have hI4 := hI.same (s2.trans s24) (by simp)
      have hDI4 := hDI.same s24 (by simp)
      obtain ⟨σ5, g5, s5⟩ := blocks_spec hI4 L (k + 10)
      obtain ⟨ad, z, q, σ6, g6, hrow, _, s6⟩ := flat_spec L (k + 10) (by omega) σ5 hI4.len
      obtain ⟨gq, gad, gz, _, h1, _, hr1, _⟩ := hDI4.ex
      have hwlt : w < σ4.next := hDI4.lt w (by obtain ⟨q, _, _, e, _⟩ := hDI4.ex; rw [e]; simp)
      have e5 : σ5.get w = _ := (s5.2 w hwlt (by simp)).trans h1
      have s46 := s5.trans s6
      have e6 : σ6.get w = _ := (s46.2 w hwlt (by simp)).trans h1
      have gs := same_spec L (k + 10) (by omega) hrow (hr1.same s46 (by simp)) hI4.len
      have ht : ∀ b : List ByteArray, (strs b).toArray.toList = strs b := fun _ => rfl
      rw [g1, bnd_some, asT_t, toList2, uncons_c, asP_p, uncons_c, endl_n, g2, bnd_some, asT_t, toList2, uncons_c, asP_p, uncons_c, asI_i, endl_n, g3, bnd_some, asB_b, not_true, br_false, show (!(Option.isNone (some (⟨m, 0, none⟩ : Addr)) == ((0 : Int) != 0))) = false from rfl, br_false, g4, bnd_some, asB_b, not_true, br_false, show ((0 : Int) != 0) = false from rfl, br_false,
        mark_spec hI4 L (k + 10), bnd_some, asI_i, adr_some, ld_at h1 (0 + 2) _ rfl, asI_i, ld_at h1 (0 + 2) _ rfl, asI_i, chk_same, show (((mk : Nat) : Int) == (mk : Nat)) = true by simp, br_true, g5, bnd_some, asAgL_a, ht, g6, bnd_some, asSl_s, adr_some, ld_at e6 (0 + 3) _ rfl, asSl_s, ld_at h1 (0 + 3) _ rfl, asSl_s, chk_same, ld_at e5 (0 + 3) _ rfl, asSl_s, chk_same, gs, bnd_some, asB_b]
      exact ⟨σ6, rfl⟩
    · obtain ⟨σ2, s2, hor⟩ := dopen_spec L (k + 5) hL (by omega) (by omega) (hR.idle s1)
      rcases hor with ⟨t', mk', bl', w, G', e, _⟩ | ⟨e, g2⟩
      · rw [ho] at e; cases e
      have hE : Err σ1 (.iface 111 (ptr q)) 4 0 := ⟨q, rfl, hq, hql⟩
      obtain ⟨σ3, g3, s3⟩ := place_ok L (k + 7) (by omega) (.inr ⟨hE.same s2, by decide⟩)
      have s13 := (s1.trans s2).trans s3
      obtain ⟨σ4, g4, s4⟩ := alike_spec L (k + 7) hL (by omega) (by omega) (hD.idle s13) (hR.idle s13)
      rw [g1, bnd_some, asT_t, toList2, uncons_c, asP_p, uncons_c, endl_n, g2, bnd_some, asT_t, toList2, uncons_c, asP_p, uncons_c, asI_i, endl_n, g3, bnd_some, asB_b, not_true, br_false, show (!(Option.isNone (none : Option Addr) == ((4 : Int) != 0))) = false from rfl, br_false, g4, bnd_some, asB_b, not_true, br_false, show ((4 : Int) != 0) = true from rfl, br_true]
      exact ⟨σ4, rfl⟩

theorem opens_loop (L k : Nat) (hL : 100000 < L) {S : List D.Sec} {ad0 : Option Addr} {sc : List ByteArray} (hlen : sc.length ≤ S.length) (hS : S.length ≤ 70) (hH : Holds σ0 1 cS ad0 sc) : ∀ (n i : Nat) (σ : St) (F F2 : List Nat) (W : List D.Lw), i ≤ sc.length → sc.length - i < n → D.Disk σ d F S W → D.Ref σ a F2 S W → Owns σ0 σ [F, F2] → W.length ≤ i →
    ∃ σ', lpAt Tryd.prog env L (k + 11) 3 [true, true, true, true, false, true] [] n [(0, .slice ad0 sc.length 0), (6, ptr d), (7, ptr a), (33, .int .i64 sc.length), (34, .int .i64 i)] σ = some (.bool true, σ')
  | 0, i, σ, F, F2, W, _, h, _, _, _, _ => by omega
  | n + 1, i, σ, F, F2, W, hi, hn, hD, hR, hO, hW => by
    by_cases hie : i = sc.length
    · exact opens_end L k n hL hD hR hS (by omega) ad0 sc.length 0 (by omega)
    have hget : sc[i]? = some sc[i] := List.getElem?_eq_getElem (by omega)
    have hld := fun {σ' : St} (hk : Kept' σ0.next σ0 σ') => hH.ld hk hget
    generalize sc[i] = s at hld
    obtain ⟨q, e, hat⟩ := hld hO.kept
    subst e
    have rd : ∀ {σ' : St}, Kept' σ0.next σ0 σ' → ∀ K : Value → Res, σ'.ld q (0 + Int.toNat (i : Int) * 1) K = K (.string s) := fun hk => by
      obtain ⟨q1, e1, g⟩ := hld hk
      cases e1
      exact fun K => g 0 (.string s) _ (by omega) rfl (by simp) K
    have hw : IntKind.wrap .i64 ((i : Int) + 1) = ((i + 1 : Nat) : Int) := by rw [wrap_in _ (by omega) (by omega)]; omega
    have ni : inRange (i : Int) (sc.length : Int) = true := by simp [inRange]; omega
    rw [f3_l6, decide_eq_true (by omega), br_true, need_of ni, adr_some, rd hO.kept, asS_s]
    by_cases h200 : ((s.size : Nat) : Int) > 200
    · rw [decide_eq_true h200, br_true]; exact ⟨σ, rfl⟩
    rw [decide_eq_false h200, br_false, need_of ni, adr_some, rd hO.kept, asS_s, need_of (by rw [decide_eq_true_eq]; omega), byteCells_by8]
    have hsz := size_list s
    have s1 : Same σ (σ.new (.ro (by8 s.data.toList))) [] := Same.new _ _ _
    have hB : Bytes (σ.new (.ro (by8 s.data.toList))) (some ⟨σ.next, 0, none⟩) s.data.toList [σ.next] := Bytes.ro (get_new_same _ _) (by simp)
    generalize σ.new (.ro (by8 s.data.toList)) = σ1 at s1 hB
    obtain ⟨v, σ2, g2, hor⟩ := D.write_spec (hD.idle s1) L (k + 8) hB (z := 0) (by omega) (i : Int)
    rw [hsz] at g2
    rw [g2, bnd_some]
    have hO1 := hO.idle s1
    rcases hor with ⟨F', hl, _, _, _, hD2, hT⟩ | ⟨hno, _⟩ | ⟨_, hl, _, s2⟩
    · have hO2 : Owns σ0 σ2 [F', F2] := hO1.turned 0 rfl hT
      have hR2 := (hR.idle s1).same hT.same (hO1.off 1 0 (by omega) rfl rfl)
      obtain ⟨c, σ3, g3, hor3⟩ := D.rwrite_spec hR2 L (k + 10) (by omega) (i : Int) s
      rw [need_of ni, adr_some, rd hO2.kept, asS_s, g3, bnd_some, asI_i, hw]
      rcases hor3 with ⟨F2', hl3, _, _, _, hR3, hT3⟩ | ⟨hno, _⟩ | ⟨_, hno, _⟩
      · have hO3 : Owns σ0 σ3 [F', F2'] := hO2.turned 1 rfl hT3
        exact opens_loop L k hL hlen hS hH n (i + 1) σ3 F' F2' _ (by omega) (by omega) (hD2.same hT3.same (hO2.off 0 1 (by omega) rfl rfl)) hR3 hO3 (by rw [List.length_append]; simp; omega)
      · exact absurd ⟨by omega, by omega⟩ hno
      · exact absurd hl hno
    · exact absurd ⟨by omega, by omega⟩ hno
    · have hR2 := (hR.idle s1).idle s2
      have hO2 := hO1.idle s2
      obtain ⟨c, σ3, g3, hor3⟩ := D.rwrite_spec hR2 L (k + 10) (by omega) (i : Int) s
      rw [need_of ni, adr_some, rd hO2.kept, asS_s, g3, bnd_some, asI_i, hw]
      rcases hor3 with ⟨F2', hl3, _⟩ | ⟨hno, _⟩ | ⟨_, _, _, rfl⟩
      · exact absurd hl3 hl
      · exact absurd ⟨by omega, by omega⟩ hno
      · exact opens_loop L k hL hlen hS hH n (i + 1) _ F F2 _ (by omega) (by omega) ((hD.idle s1).idle s2) hR2 hO2 (by omega)
end

theorem opens_holds (L k : Nat) (hL : 100000 < L) {σ0 : St} {ad0 : Option Addr} {sc : List ByteArray} (hH : Holds σ0 1 cS ad0 sc) (more : Int) (hm : 0 ≤ more ∧ more ≤ 255) : ∃ σ', evCall Tryd.prog env L (k + 12) 3 [.slice ad0 sc.length 0, .int .u8 more] σ0 = some (.bool true, σ') := by
  rw [f3_eq]
  obtain ⟨σ1, g1, s1⟩ := awake_spec L k hL σ0
  have hO1 := (Owns.start σ0).idle s1
  rw [g1, bnd_some, asB_b, not_true, br_false]
  by_cases h70 : ((sc.length : Nat) : Int) > 70
  · obtain ⟨σ3, g3, _⟩ := awake_spec L k hL σ1
    rw [decide_eq_true h70, br_true, g3, bnd_some, asB_b]; exact ⟨σ3, rfl⟩
  rw [decide_eq_false h70, br_false]
  obtain ⟨N, hN, hN1, hN2⟩ : ∃ N : Nat, mn (IntKind.wrap .i64 (((sc.length : Nat) : Int) + Int.tmod (IntKind.wrap .i64 more) 70)) 70 = (N : Int) ∧ sc.length ≤ N ∧ N ≤ 70 := by
    have e1 : IntKind.wrap .i64 more = more := wrap_in _ (by omega) (by omega)
    have e2 : Int.tmod more 70 = more % 70 := Int.tmod_eq_emod_of_nonneg hm.1
    rw [e1, e2, wrap_in _ (by omega) (by omega)]
    unfold mn
    split
    · exact ⟨70, rfl, by omega, by omega⟩
    · exact ⟨(((sc.length : Nat) : Int) + more % 70).toNat, by omega, by omega, by omega⟩
  rw [hN]
  obtain ⟨d, F, σ2, g2, hD2, s2, hf2⟩ := D.new_spec L (k + 10) σ1 (N : Int)
  have hmx : (mx 0 (mn (N : Int) 1024)).toNat = N := by unfold mx mn; repeat' split <;> omega
  rw [hmx] at hD2
  have hO2 : Owns σ0 σ2 [F] := hO1.more s2 (fun q hq => ⟨hf2 q hq, hD2.lt q hq⟩)
  obtain ⟨a, F2, σ3, g3, hR3, s3, hf3⟩ := D.rnew_spec L (k + 10) (by omega) σ2 N hN2
  have hO3 : Owns σ0 σ3 [F, F2] := (hO2.more s3 (F := F2) (fun q hq => ⟨hf3 q hq, hR3.lt q hq⟩)).flip
  rw [g2, bnd_some, asP_p, g3, bnd_some, asP_p]
  exact opens_loop L k hL (by rw [List.length_replicate]; exact hN1) (by rw [List.length_replicate]; exact hN2) hH L 0 σ3 F F2 [] (by omega) (by omega) (hD2.idle s3) hR3 hO3 (by simp)
end Go.AM.Im
