/-
  Texts laid together: IzDb, IzDc, IzDd.
-/
import Derived.Test.YtgbbeanfncflpaaGreatDoorIzMg
set_option linter.unusedVariables false
set_option linter.unusedSimpArgs false
set_option linter.unusedSectionVars false
/-
  THE DOCUMENT'S IMAGE: Open.
-/
namespace Go.AM.Iz
open Go.Proofs

theorem cS_len (s : ByteArray) : (cS s).length = 1 := rfl
theorem cS_one (s : ByteArray) : (cS s).all oneCell = true := rfl
theorem cS_flat : ∀ l : List ByteArray, l.flatMap cS = strs l
  | [] => rfl
  | s :: l => by rw [List.flatMap_cons, cS_flat l]; rfl

/-- The document's image. -/
structure DI (σ : St) (w a : Nat) (t mk : Int) (bl : List ByteArray) (G : List Nat) : Prop where
  ex : ∃ q ad z, G = w :: q ∧ σ.get w = some (.own [ptr a, .int .i64 t, .int .i64 mk, .slice ad 32 z] 55) ∧ bl.length = 32 ∧ Row cS 1 9 σ ad z q bl ∧ w ∉ q
  lt : ∀ x ∈ G, x < σ.next
theorem DI.same {σ σ' : St} {w a : Nat} {t mk : Int} {bl : List ByteArray} {G X : List Nat} (h : DI σ w a t mk bl G) (hs : Same σ σ' X) (hX : ∀ x ∈ G, x ∉ X) : DI σ' w a t mk bl G := by
  obtain ⟨q, ad, z, rfl, h1, h2, h3, h4⟩ := h.ex
  exact ⟨⟨q, ad, z, rfl, by rw [hs.2 w (h.lt w (by simp)) (hX w (by simp))]; exact h1, h2, h3.same hs (fun x hx => hX x (by simp [hx])), h4⟩, fun x hx => by have := h.lt x hx; have := hs.1; omega⟩

theorem dread31 {σ : St} {a : Nat} {F : List Nat} {S : List D.Sec} {W : List D.Lw} (h : D.Ref σ a F S W) (L k : Nat) (hL : W.length < L) (hW : W.length ≤ 100000) {x : Int} {i : Nat} (hx : x = i) (hi : i < S.length) :
    evCall Tryz.prog env L (k + 1) 31 [ptr a, .int .i64 x] σ = some (.tuple #[.string (str (rdS S W i)), .int .i64 0], σ) ∧ (rdS S W i).length = 64 := by
  subst hx
  rcases D.rread_spec h L k hL hW (i : Int) with ⟨s, _, _, hg, g⟩ | ⟨hno, _⟩
  · rw [Int.toNat_natCast] at hg
    have e : rdS S W i = (D.look i s W).1 := by unfold rdS; rw [hg]
    rw [e]
    exact ⟨g, (D.look i s W).2⟩
  · exact absurd ⟨by omega, by omega⟩ hno

/-- What follows the heads. -/
noncomputable def dtl (L k : Nat) (st : St) (a0 w : Nat) (x0 x1 : ByteArray) : Res := AM.St.ld st w 1 fun v43 => AM.asI IntKind.i64 v43 fun v44 => AM.br (v44 == (0 : Int)) (AM.need (decide (ByteArray.size x0 + ByteArray.size x1 ≤ 4611686018427387904)) (AM.St.row (AM.St.new st (AM.Blk.own (AM.zerosN [Value.int IntKind.u8 (0 : Int)] 128) 5)) (some { block := AM.St.next st, off := 0 }) 128 fun v45 => AM.asBy v45 fun v46 => AM.br (!ByteArray.toList { data := { toList := (ByteArray.data x0).1 ++ (ByteArray.data x1).1 } } == ByteArray.toList { data := List.toArray v46 }) (some (Value.tuple #[Value.pointer none, Value.int IntKind.i64 (4 : Int)], AM.St.new st (AM.Blk.own (AM.zerosN [Value.int IntKind.u8 (0 : Int)] 128) 5))) (some (Value.tuple #[Value.pointer (some { block := w, off := 0 }), Value.int IntKind.i64 (0 : Int)], AM.St.new st (AM.Blk.own (AM.zerosN [Value.int IntKind.u8 (0 : Int)] 128) 5))))) (AM.St.ld st w 3 fun v47 => AM.asSl v47 fun v48 v49 v50 => AM.lpAt Proofs.Tryz.prog AM.Iz.env L k 9 [true, true, true, true, true, true, true, true, true, false, true] [] L [(0, Value.pointer (some { block := a0, off := 0 })), (12, Value.pointer (some { block := w, off := 0 })), (80, Value.int IntKind.i64 (↑v49 : Int)), (81, Value.int IntKind.i64 (0 : Int))] st)

section
variable {a : Nat} {F : List Nat} {S : List D.Sec} {W : List D.Lw} (L k : Nat) (hL : 100000 < L) (hW : W.length ≤ 10000) (hS : 66 ≤ S.length)
include hL hW hS
theorem dopen_loop {σ0 : St} {t : Nat} {mk : Int} (ht : t ≤ top) {w : Nat} (hw0 : σ0.next ≤ w) (hF : ∀ x ∈ F, x < σ0.next) : ∀ (n i : Nat) (σ : St) (cur : List ByteArray) (G : List Nat), i ≤ 32 → 32 - i < n → D.Ref σ a F S W → DI σ w a t mk cur G → (∀ x ∈ G, σ0.next ≤ x) → Same σ0 σ [] → area (rdS S W) t i = some (cur.take i) →
    ∃ σ', Same σ0 σ' [] ∧ ((∃ bl G', area (rdS S W) t 32 = some bl ∧ lpAt Tryz.prog env L (k + 5) 9 [true, true, true, true, true, true, true, true, true, false, true] [] n [(0, ptr a), (12, ptr w), (80, .int .i64 (32 : Nat)), (81, .int .i64 i)] σ = some (.tuple #[ptr w, .int .i64 0], σ') ∧ DI σ' w a t mk bl G' ∧ ∀ x ∈ G', σ0.next ≤ x) ∨
      (area (rdS S W) t 32 = none ∧ lpAt Tryz.prog env L (k + 5) 9 [true, true, true, true, true, true, true, true, true, false, true] [] n [(0, ptr a), (12, ptr w), (80, .int .i64 (32 : Nat)), (81, .int .i64 i)] σ = some (.tuple #[.pointer none, .int .i64 4], σ')))
  | 0, i, σ, cur, G, _, h, _, _, _, _, _ => by omega
  | n + 1, i, σ, cur, G, hi, hn, hR, hI, hG, hs0, ha => by
    obtain ⟨q, ad, z, rfl, h1, h2, h3, h4⟩ := hI.ex
    have hwlt := hI.lt w (by simp)
    rw [f9_l15]
    by_cases hi32 : i = 32
    · subst hi32
      rw [decide_eq_false (by omega), br_false]
      rw [List.take_of_length_le (by omega)] at ha
      exact ⟨σ, hs0, .inl ⟨cur, _, ha, rfl, hI, hG⟩⟩
    have hat : IntKind.wrap .i64 (IntKind.wrap .i64 ((2 : Int) + IntKind.wrap .i64 ((32 : Int) * Int.tmod (t : Int) 2)) + (i : Int)) = ((2 + 32 * (t % 2) + i : Nat) : Int) := by
      rw [tmod2, wrap_in ((32 : Int) * ((t % 2 : Nat) : Int)) (by omega) (by omega), wrap_in ((2 : Int) + _) (by omega) (by omega), wrap_in _ (by omega) (by omega)]; omega
    have hw1 : IntKind.wrap .i64 ((i : Int) + 1) = ((i + 1 : Nat) : Int) := by rw [wrap_in _ (by omega) (by omega)]; omega
    obtain ⟨g1, hlen⟩ := dread31 hR L (k + 4) (by omega) (by omega) hat (by omega)
    rw [decide_eq_true (by omega), br_true, ld_at h1 (0 + 1) _ rfl, asI_i, g1, bnd_some, asT_t, toList2, uncons_c, asS_s, uncons_c, asI_i, endl_n]
    have fail : blk t (rdS S W (2 + 32 * (t % 2) + i)) = none → area (rdS S W) t 32 = none := fun hb => by
      refine area_none (n := i + 1) ?_ 32 (by omega)
      unfold area
      rw [ha, hb]
    have good : ∀ s, blk t (rdS S W (2 + 32 * (t % 2) + i)) = some s → area (rdS S W) t (i + 1) = some ((cur.set i s).take (i + 1)) := fun s hb => by
      unfold area
      rw [ha, hb]
      dsimp only
      rw [List.take_add_one, List.getElem?_set_self (by omega), List.take_set_of_le (by omega)]
      rfl
    generalize rdS S W (2 + 32 * (t % 2) + i) = l at hlen fail good
    obtain ⟨σ2, s2, ho⟩ := ropen_spec L (k + 2) hL σ l (by omega)
    unfold blk at fail good
    rcases ho with ⟨b, ho, g2⟩ | ⟨ho, g2⟩
    rotate_left
    · rw [g2, bnd_some, asT_t, toList2, uncons_c, asS_s, uncons_c, asB_b, endl_n, not_false, br_true]
      rw [ho] at fail
      exact ⟨σ2, hs0.trans s2, .inr ⟨fail rfl, rfl⟩⟩
    have hbl2 := opened_len ho
    rw [g2, bnd_some, asT_t, toList2, uncons_c, asS_s, uncons_c, asB_b, endl_n, not_true, br_false]
    have s3 : Same σ2 (σ2.new (.own [.string (str b), .int .i64 (0 : Nat)] 86)) [] := Same.new _ _ _
    have hD3 : Dd (σ2.new (.own [.string (str b), .int .i64 (0 : Nat)] 86)) σ2.next 0 b := ⟨get_new_same _ _, by simp⟩
    have n3 : (σ2.new (.own [.string (str b), .int .i64 (0 : Nat)] 86)).next = σ2.next + 1 := rfl
    rw [show (σ2.new (Blk.own [Value.string (str b), Value.int .i64 0] 86)) = σ2.new (.own [.string (str b), .int .i64 (0 : Nat)] 86) from rfl]
    generalize σ2.new (.own [.string (str b), .int .i64 (0 : Nat)] 86) = σ3 at s3 hD3 n3
    generalize hr : σ2.next = r at hD3 n3
    have hsr : σ.next ≤ r := by have := s2.1; omega
    obtain ⟨σ4, g4, hD4, s4⟩ := rnumber_spec L (k + 3) hL hD3 (by omega)
    have turn := fun (s : ByteArray) (hb : bsec t s = l) => blk_turn ht ho hb
    have hle := rnum_le 0 b
    rw [ho] at fail good
    dsimp only at fail good
    generalize rnum 0 b = p1 at hD4 hle g4 fail good turn
    obtain ⟨e1, x1, r1⟩ := p1
    dsimp only at hD4 hle g4 fail good turn
    obtain ⟨σ5, g5, hD5, s5⟩ := rtext_read L (k + 2) hL hD4 (by omega) 16
    rw [show ((16 : Nat) : Int) = 16 from rfl] at g5
    have hs16 : (rtext 16 e1 r1).1 = 0 → (str (rtext 16 e1 r1).2.1).size ≤ 16 := by
      intro he
      unfold rtext at he ⊢
      rw [str_size]
      split
      · simp
      split
      · simp
      split
      · simp
      · simp only [List.length_take]; omega
    rw [g4, bnd_some, asI_i, g5, bnd_some, asS_s]
    generalize rtext 16 e1 r1 = p2 at hD5 hs16 fail good
    obtain ⟨e2, x2, r2⟩ := p2
    dsimp only at hD5 hs16 fail good
    rw [ld_at hD5.ex 1 _ rfl, asI_i]
    have s25 : Same σ σ5 [] := ((s2.trans s3).fresh s4 (fun x hx => .inr (by simp at hx; subst hx; omega))).fresh s5 (fun x hx => .inr (by simp at hx; subst hx; omega))
    have s05 := hs0.trans s25
    by_cases he : e2 = 0
    rotate_left
    · rw [show ((e2 : Int) != 0) = true by simp only [bne_iff_ne, ne_eq]; omega, br_true]
      exact ⟨σ5, s05, .inr ⟨fail (if_neg (fun h => he h.1)), rfl⟩⟩
    have h15 : σ5.get w = _ := (s25.2 w hwlt (by simp)).trans h1
    rw [show ((e2 : Int) != 0) = false by rw [he]; rfl, br_false, ld_at h15 (0 + 1) _ rfl, asI_i]
    by_cases hx1 : x1 = t
    rotate_left
    · rw [show ((x1 : Int) != (t : Int)) = true by simp only [bne_iff_ne, ne_eq]; omega, br_true]
      refine ⟨σ5, s05, .inr ⟨fail (if_neg (fun h => hx1 ?_)), rfl⟩⟩
      have := turn _ h.2
      simp only [Prod.mk.injEq] at this
      exact this.2.1
    subst hx1
    obtain ⟨σ6, g6, s6⟩ := rblock_spec L (k + 1) hL σ5 x1 (str x2) (hs16 he)
    rw [show ((x1 : Int) != (x1 : Int)) = false by simp, br_false, g6, bnd_some, asS_s, str_inj]
    have s06 := s25.trans s6
    by_cases heq : bsec x1 (str x2) = l
    rotate_left
    · rw [decide_eq_false heq, not_false, br_true]
      exact ⟨σ6, hs0.trans s06, .inr ⟨fail (if_neg (fun h => heq h.2)), rfl⟩⟩
    rw [decide_eq_true heq, not_true, br_false]
    have hg := good _ (if_pos ⟨he, heq⟩)
    have h16 : σ6.get w = _ := (s6.2 w (by have := s25.1; omega) (by simp)).trans h15
    have h36 := h3.same s06 (by simp)
    obtain ⟨q', σ7, e1', e2', hput, hr7, s7, n7⟩ := h36.put cS_len cS_one (i := i) (by omega) (str x2)
    subst e1' e2'
    have hput' : ∀ K : St → Res, σ6.put q' (0 + Int.toNat (i : Int) * 1) [.string (str x2)] K = K σ7 := fun K => hput _ (by simp) K
    rw [ld_at h16 (0 + 3) _ rfl, asSl_s, need_of (by simp [inRange]; omega), adr_some, hput', hw1]
    have hq' := hG q' (by simp)
    have s07 : Same σ0 σ7 [] := (hs0.trans s06).fresh s7 (fun x hx => .inr (by simp at hx; subst hx; exact hq'))
    have hqw : w ≠ q' := fun h => h4 (by simp [h])
    obtain ⟨σ', hs', hor⟩ := dopen_loop ht hw0 hF n (i + 1) σ7 (cur.set i (str x2)) (w :: [q']) (by omega) (by omega) (((hR.idle s06)).same s7 (fun x hx => by simp; rintro rfl; have := hF x hx; omega))
      ⟨⟨[q'], _, z, rfl, by rw [s7.2 w (by have := s06.1; omega) (by simpa using hqw)]; exact h16, by simpa using h2, hr7, by simpa using hqw⟩, fun x hx => by
        simp at hx
        rcases hx with rfl | rfl
        · have := s06.1; have := s7.1; omega
        · exact hr7.lt _ (by simp)⟩ (fun x hx => hG x (by simpa using hx)) s07 hg
    exact ⟨σ', hs', hor⟩

theorem dtl_ok {σ0 σ : St} {t mk : Nat} (ht : t ≤ top) (hh : headS (rdS S W) = (t, mk)) {w b : Nat} (hs0 : Same σ0 σ []) (hw0 : σ0.next ≤ w) (hb0 : σ0.next ≤ b) (hwb : w ≠ b) (hwl : w < σ.next) (hbl : b < σ.next) (hF : ∀ x ∈ F, x < σ0.next)
    (hw : σ.get w = some (.own [ptr a, .int .i64 (t : Nat), .int .i64 (mk : Nat), .slice (some ⟨b, 0, none⟩) 32 1] 55)) (hb : σ.get b = some (.own (strs noBlocks) 9)) (hR : D.Ref σ a F S W) :
    ∃ σ', Same σ0 σ' [] ∧ ((∃ t mk bl w' G, opn (rdS S W) = some (t, mk, bl) ∧ dtl L (k + 5) σ a w (str (rdS S W 0)) (str (rdS S W 1)) = some (.tuple #[ptr w', .int .i64 0], σ') ∧ DI σ' w' a (t : Nat) (mk : Nat) bl G ∧ ∀ x ∈ G, σ0.next ≤ x) ∨
      (opn (rdS S W) = none ∧ dtl L (k + 5) σ a w (str (rdS S W 0)) (str (rdS S W 1)) = some (.tuple #[.pointer none, .int .i64 4], σ'))) := by
  have hl0 := (dread31 hR L k (by omega) (by omega) (x := 0) (i := 0) rfl (by omega)).2
  have hl1 := (dread31 hR L k (by omega) (by omega) (x := 1) (i := 1) rfl (by omega)).2
  have hI : DI σ w a (t : Nat) (mk : Nat) noBlocks [w, b] := ⟨⟨[b], _, 1, rfl, hw, rfl, ⟨by simpa using hbl, .inr ⟨b, [], rfl, rfl, rfl, by rw [cS_flat, List.append_nil]; exact hb⟩⟩, by simpa using hwb⟩, fun x hx => by simp at hx; rcases hx with rfl | rfl; exact hwl; exact hbl⟩
  unfold dtl opn
  rw [hh]
  dsimp only
  rw [ld_at hw 1 _ rfl, asI_i]
  by_cases h0 : t = 0
  · subst h0
    have hm0 : mk = 0 := by
      have hz2 : ∀ (l : List UInt8) (s : Nat), (hof l s).1 = 0 → (hof l s).2 = 0 := by
        intro l s
        unfold hof
        split
        · exact fun _ => rfl
        · split
          · exact fun _ => rfl
          · rename_i h; intro h0; exact absurd (.inr (.inl (by omega))) h
      unfold headS at hh
      split at hh
      · have := hz2 (rdS S W 1) 1 (by rw [hh]); rw [hh] at this; exact this
      · have := hz2 (rdS S W 0) 0 (by rw [hh]); rw [hh] at this; exact this
    subst hm0
    rw [show (((0 : Nat) : Int) == 0) = true from rfl, br_true, if_neg (by omega), need_of (by rw [decide_eq_true_eq, str_size, str_size]; omega), zeros8]
    have s1 : Same σ (σ.new (.own (by8 (List.replicate 128 0)) 5)) [] := Same.new _ _ _
    have g1 : (σ.new (.own (by8 (List.replicate 128 0)) 5)).get σ.next = some (.own (by8 (List.replicate 128 0)) 5) := get_new_same _ _
    have n1 : (σ.new (.own (by8 (List.replicate 128 0)) 5)).next = σ.next + 1 := rfl
    generalize σ.new (.own (by8 (List.replicate 128 0)) 5) = σ1 at s1 g1 n1
    rw [(Bytes.own g1 (by omega)).row 128 (List.length_replicate).symm, asBy_by8]
    have hcmp : (ByteArray.toList ⟨⟨(ByteArray.data (str (rdS S W 0))).1 ++ (ByteArray.data (str (rdS S W 1))).1⟩⟩ == ByteArray.toList ⟨(List.replicate 128 (0 : UInt8)).toArray⟩) = decide (rdS S W 0 = List.replicate 64 0 ∧ rdS S W 1 = List.replicate 64 0) := by
      have e := str_inj (l := rdS S W 0 ++ rdS S W 1) (m := List.replicate 128 0)
      have e2 : (rdS S W 0 ++ rdS S W 1 = List.replicate 128 0) ↔ (rdS S W 0 = List.replicate 64 0 ∧ rdS S W 1 = List.replicate 64 0) := by
        rw [show (128 : Nat) = 64 + 64 from rfl, ← List.replicate_append_replicate]
        constructor
        · intro h
          exact List.append_inj h (by rw [hl0, List.length_replicate])
        · rintro ⟨h1, h2⟩; rw [h1, h2]
      refine e.trans ?_
      by_cases h : rdS S W 0 ++ rdS S W 1 = List.replicate 128 0
      · rw [decide_eq_true h, decide_eq_true (e2.1 h)]
      · rw [decide_eq_false h, decide_eq_false (fun h' => h (e2.2 h'))]
    rw [hcmp]
    refine ⟨σ1, hs0.trans s1, ?_⟩
    by_cases hz : rdS S W 0 = List.replicate 64 0 ∧ rdS S W 1 = List.replicate 64 0
    · rw [decide_eq_true hz, not_true, br_false, if_pos hz]
      exact .inl ⟨0, 0, noBlocks, w, _, rfl, rfl, hI.same s1 (by simp), fun x hx => by simp at hx; rcases hx with rfl | rfl; exact hw0; exact hb0⟩
    · rw [decide_eq_false hz, not_false, br_true, if_neg hz]
      exact .inr ⟨rfl, rfl⟩
  · rw [show ((t : Int) == 0) = false by rw [beq_eq_false_iff_ne]; omega, br_false, if_pos (by omega), ld_at hw 3 _ rfl, asSl_s]
    obtain ⟨σ', hs', hor⟩ := dopen_loop L k hL hW hS ht (mk := mk) hw0 hF L 0 σ noBlocks [w, b] (by omega) (by omega) hR hI (fun x hx => by simp at hx; rcases hx with rfl | rfl; exact hw0; exact hb0) hs0 rfl
    refine ⟨σ', hs', ?_⟩
    rcases hor with ⟨bl, G', e1, e2, e3, e4⟩ | ⟨e1, e2⟩
    · rw [e1]; exact .inl ⟨t, mk, bl, w, G', rfl, e2, e3, e4⟩
    · rw [e1]; exact .inr ⟨rfl, e2⟩

theorem dopen_spec {σ : St} (hR : D.Ref σ a F S W) : ∃ σ', Same σ σ' [] ∧ ((∃ t mk bl w G, opn (rdS S W) = some (t, mk, bl) ∧ evCall Tryz.prog env L (k + 6) 9 [ptr a] σ = some (.tuple #[ptr w, .int .i64 0], σ') ∧ DI σ' w a (t : Nat) (mk : Nat) bl G ∧ ∀ x ∈ G, σ.next ≤ x) ∨
      (opn (rdS S W) = none ∧ evCall Tryz.prog env L (k + 6) 9 [ptr a] σ = some (.tuple #[.pointer none, .int .i64 4], σ'))) := by
  obtain ⟨q1, q2, ad1, z1, ad2, z2, hFe, h1, _⟩ := hR.ex
  have halt := hR.lt a (by rw [hFe]; simp)
  obtain ⟨g0, hl0⟩ := dread31 hR L (k + 4) (by omega) (by omega) (x := 0) (i := 0) rfl (by omega)
  obtain ⟨g1, hl1⟩ := dread31 hR L (k + 4) (by omega) (by omega) (x := 1) (i := 1) rfl (by omega)
  obtain ⟨σ2, g2, s2⟩ := rheadOf_spec L k hL (σ := σ) (l := rdS S W 0) (by omega) 0
  obtain ⟨σ3, g3, s3⟩ := rheadOf_spec L k hL (σ := σ2) (l := rdS S W 1) (by omega) 1
  rw [f9_eq, ld_at h1 0 _ rfl, asSl_s, decide_eq_false (by omega), br_false, g0, bnd_some, asT_t, toList2, uncons_c, asS_s, uncons_c, asI_i, endl_n, g1, bnd_some, asT_t, toList2, uncons_c, asS_s, uncons_c, asI_i, endl_n]
  have g2' : evCall Tryz.prog env L (k + 5) 32 [.string (str (rdS S W 0)), .int .i64 0] σ = _ := g2
  have g3' : evCall Tryz.prog env L (k + 5) 32 [.string (str (rdS S W 1)), .int .i64 1] σ2 = _ := g3
  rw [g2', bnd_some, asT_t, toList2, uncons_c, asI_i, uncons_c, asI_i, endl_n, g3', bnd_some, asT_t, toList2, uncons_c, asI_i, uncons_c, asI_i, endl_n, need_true, need_true, need_true, lit32]
  have s03 := s2.trans s3
  have s4 : Same σ3 (σ3.new (.own (strs noBlocks) 9)) [] := Same.new _ _ _
  have g4 : (σ3.new (.own (strs noBlocks) 9)).get σ3.next = some (.own (strs noBlocks) 9) := get_new_same _ _
  have n4 : (σ3.new (.own (strs noBlocks) 9)).next = σ3.next + 1 := rfl
  generalize σ3.new (.own (strs noBlocks) 9) = σ4 at s4 g4 n4
  have halt3 : ∀ x ∈ F, x < σ3.next := fun x hx => by have := hR.lt x hx; have := s03.1; omega
  have hle0 := hof_le (l := rdS S W 0) (slot := 0)
  have hle1 := hof_le (l := rdS S W 1) (slot := 1)
  have s5 : ∀ B, Same σ4 (σ4.new B) [] := fun B => Same.new _ _ _
  have s04 := s03.trans s4
  have hn3 : σ.next ≤ σ3.next := s03.1
  by_cases hgt : (hof (rdS S W 1) 1).1 > (hof (rdS S W 0) 0).1
  · have hh : headS (rdS S W) = ((hof (rdS S W 1) 1).1, (hof (rdS S W 1) 1).2) := by unfold headS; rw [if_pos hgt]
    rw [decide_eq_true (by omega), br_true]
    generalize hB : (Blk.own [ptr a, Value.int .i64 ((hof (rdS S W 0) 0).1 : Int), Value.int .i64 ((hof (rdS S W 0) 0).2 : Int), .slice (some ⟨σ3.next, 0, none⟩) 32 1] 55) = B
    have g5 : (σ4.new B).get σ4.next = some (.own [ptr a, Value.int .i64 ((hof (rdS S W 0) 0).1 : Int), Value.int .i64 ((hof (rdS S W 0) 0).2 : Int), .slice (some ⟨σ3.next, 0, none⟩) 32 1] 55) := by rw [hB]; exact get_new_same _ _
    rw [put_int g5 1 _ _ (by simp)]
    have g6 : ((σ4.new B).set σ4.next (.own (List.set [ptr a, Value.int .i64 ((hof (rdS S W 0) 0).1 : Int), Value.int .i64 ((hof (rdS S W 0) 0).2 : Int), .slice (some ⟨σ3.next, 0, none⟩) 32 1] 1 (.int .i64 ((hof (rdS S W 1) 1).1 : Int))) 55)).get σ4.next = _ := get_set_same _ _ _
    have s6 := Same.set (σ4.new B) σ4.next (.own (List.set [ptr a, Value.int .i64 ((hof (rdS S W 0) 0).1 : Int), Value.int .i64 ((hof (rdS S W 0) 0).2 : Int), .slice (some ⟨σ3.next, 0, none⟩) 32 1] 1 (.int .i64 ((hof (rdS S W 1) 1).1 : Int))) 55)
    generalize (σ4.new B).set σ4.next (.own (List.set [ptr a, Value.int .i64 ((hof (rdS S W 0) 0).1 : Int), Value.int .i64 ((hof (rdS S W 0) 0).2 : Int), .slice (some ⟨σ3.next, 0, none⟩) 32 1] 1 (.int .i64 ((hof (rdS S W 1) 1).1 : Int))) 55) = σ6 at g6 s6
    rw [put_int g6 2 _ _ (by simp)]
    have g7 : (σ6.set σ4.next (.own (List.set (List.set [ptr a, Value.int .i64 ((hof (rdS S W 0) 0).1 : Int), Value.int .i64 ((hof (rdS S W 0) 0).2 : Int), .slice (some ⟨σ3.next, 0, none⟩) 32 1] 1 (.int .i64 ((hof (rdS S W 1) 1).1 : Int))) 2 (.int .i64 ((hof (rdS S W 1) 1).2 : Int))) 55)).get σ4.next = _ := get_set_same _ _ _
    have s7 := Same.set σ6 σ4.next (.own (List.set (List.set [ptr a, Value.int .i64 ((hof (rdS S W 0) 0).1 : Int), Value.int .i64 ((hof (rdS S W 0) 0).2 : Int), .slice (some ⟨σ3.next, 0, none⟩) 32 1] 1 (.int .i64 ((hof (rdS S W 1) 1).1 : Int))) 2 (.int .i64 ((hof (rdS S W 1) 1).2 : Int))) 55)
    generalize σ6.set σ4.next (.own (List.set (List.set [ptr a, Value.int .i64 ((hof (rdS S W 0) 0).1 : Int), Value.int .i64 ((hof (rdS S W 0) 0).2 : Int), .slice (some ⟨σ3.next, 0, none⟩) 32 1] 1 (.int .i64 ((hof (rdS S W 1) 1).1 : Int))) 2 (.int .i64 ((hof (rdS S W 1) 1).2 : Int))) 55) = σ7 at g7 s7
    have n5 : (σ4.new B).next = σ4.next + 1 := rfl
    have s67 : Same (σ4.new B) σ7 [σ4.next] := s6.trans s7
    have s47 : Same σ4 σ7 [] := (s5 B).fresh s67 (fun x hx => .inr (by simp at hx; subst hx; exact Nat.le_refl _))
    exact dtl_ok L k hL hW hS hle1 hh (s04.trans s47) (by omega) hn3 (by omega) (by have := s67.1; omega) (by have := s47.1; omega) (fun x hx => hR.lt x hx) g7 ((s47.2 σ3.next (by omega) (by simp)).trans g4) (hR.idle (s04.trans s47))
  · have hh : headS (rdS S W) = ((hof (rdS S W 0) 0).1, (hof (rdS S W 0) 0).2) := by unfold headS; rw [if_neg hgt]
    rw [decide_eq_false (by omega), br_false]
    have g5 : (σ4.new (Blk.own [Value.pointer (some ⟨a, 0, none⟩), Value.int .i64 ((hof (rdS S W 0) 0).1 : Int), Value.int .i64 ((hof (rdS S W 0) 0).2 : Int), .slice (some ⟨σ3.next, 0, none⟩) 32 1] 55)).get σ4.next = _ := get_new_same _ _
    have s45 := s5 (Blk.own [Value.pointer (some ⟨a, 0, none⟩), Value.int .i64 ((hof (rdS S W 0) 0).1 : Int), Value.int .i64 ((hof (rdS S W 0) 0).2 : Int), .slice (some ⟨σ3.next, 0, none⟩) 32 1] 55)
    have n5 : (σ4.new (Blk.own [Value.pointer (some ⟨a, 0, none⟩), Value.int .i64 ((hof (rdS S W 0) 0).1 : Int), Value.int .i64 ((hof (rdS S W 0) 0).2 : Int), .slice (some ⟨σ3.next, 0, none⟩) 32 1] 55)).next = σ4.next + 1 := rfl
    exact dtl_ok L k hL hW hS hle0 hh (s04.trans s45) (by omega) hn3 (by omega) (by omega) (by omega) (fun x hx => hR.lt x hx) g5 ((s45.2 σ3.next (by omega) (by simp)).trans g4) (hR.idle (s04.trans s45))
end
end Go.AM.Iz

/-
  THE DOCUMENT'S IMAGE: Begin, Step; flat, Same, alike.
-/
namespace Go.AM.Iz
open Go.Proofs

/-! flat. -/
theorem flat_inner (L k m0 : Nat) {σ0 : St} {p : Nat} {b : List ByteArray} (hb : b.length = 32) (hp : p < σ0.next) {v : Nat} (hv : v < 4) : ∀ (n j : Nat) (σ : St) (ad : Option Addr) (z : Nat) (q : List Nat), j ≤ 8 → 8 - j < n → σ.get p = some (.own (strs b) 43) → Row cS 1 9 σ ad z q (b.take (8 * v + j)) → (∀ x ∈ q, σ0.next ≤ x) → Same σ0 σ [] →
    ∃ ad' z' q' σ' n', lpAt Tryz.prog env L k 12 [true, true, false, true, false, true, true, false, true, true] [m0] n [(1, ptr p), (3, .slice ad ((8 * v + j : Nat)) z), (4, .int .i64 v), (6, .int .i64 v), (9, .int .i64 j)] σ =
        lpAt Tryz.prog env L k 12 [true, true, false, true] [] n' [(1, ptr p), (3, .slice ad' ((8 * (v + 1) : Nat)) z'), (6, .int .i64 ((v + 1 : Nat) : Int))] σ' ∧ n' = m0 ∧
      σ'.get p = some (.own (strs b) 43) ∧ Row cS 1 9 σ' ad' z' q' (b.take (8 * (v + 1))) ∧ (∀ x ∈ q', σ0.next ≤ x) ∧ Same σ0 σ' []
  | 0, j, σ, ad, z, q, _, h, _, _, _, _ => by omega
  | n + 1, j, σ, ad, z, q, hj, hn, hg, hR, hq, hs => by
    rw [f12_l6]
    have hw : ∀ x : Nat, x < 100 → IntKind.wrap .i64 ((x : Int) + 1) = ((x + 1 : Nat) : Int) := fun x hx => by rw [wrap_in _ (by omega) (by omega)]; omega
    by_cases h8 : j = 8
    · subst h8
      rw [decide_eq_false (by omega), br_false, hw v (by omega)]
      exact ⟨ad, z, q, σ, m0, by rw [show 8 * (v + 1) = 8 * v + 8 by omega], rfl, hg, by rw [show 8 * (v + 1) = 8 * v + 8 by omega]; exact hR, hq, hs⟩
    · have hget : b[8 * v + j]? = some b[8 * v + j] := List.getElem?_eq_getElem (by omega)
      have htk : b.take (8 * v + (j + 1)) = b.take (8 * v + j) ++ [b[8 * v + j]] := by rw [← Nat.add_assoc, List.take_add_one, hget]; rfl
      have hstr := strs_get hget
      generalize b[8 * v + j] = s at hget htk hstr
      rw [decide_eq_true (by omega), br_true, need_of (by simp [inRange]; omega), need_of (by simp [inRange]; omega), ld_at hg _ (.string s) (by simpa [Nat.mul_comm] using hstr), asS_s]
      have s1 : Same σ (σ.new (.own [.string s] 9)) [] := Same.new _ _ _
      have g1 : (σ.new (.own [.string s] 9)).get σ.next = some (.own [.string s] 9) := get_new_same _ _
      generalize σ.new (.own [.string s] 9) = σ1 at s1 g1
      rw [row_one g1]
      have hlen : (b.take (8 * v + j)).length = 8 * v + j := by rw [List.length_take]; omega
      obtain ⟨ad2, z2, q2, σ2, hgrow, hR2, s2, hq2⟩ := grow_row (by_ := 16) (hR.same s1 (by simp)) cS_len cS_one (by omega) [s] [.string s] rfl 1 rfl (by rw [hlen]; unfold roomTop; omega) (by rw [hlen]; unfold sizeTop; omega)
      rw [hlen] at hgrow
      rw [hgrow, hw j (by omega)]
      have s02 : Same σ0 σ2 [] := (hs.trans s1).fresh s2 (fun x hx => .inr (hq x hx))
      obtain ⟨ad', z', q', σ', n', e, r⟩ := flat_inner L k m0 hb hp hv n (j + 1) σ2 ad2 z2 q2 (by omega) (by omega) ((s02.2 p hp (by simp)).trans ((hs.2 p hp (by simp)).symm.trans hg)) (by rw [htk]; exact hR2) (fun x hx => by rcases hq2 x hx with h | h; exact hq x h; have := hs.1; have := s1.1; omega) s02
      exact ⟨ad', z', q', σ', n', e, r⟩
theorem flat_outer (L k : Nat) (hL : 100 < L) {σ0 : St} {p : Nat} {b : List ByteArray} (hb : b.length = 32) (hp : p < σ0.next) : ∀ (n v : Nat) (σ : St) (ad : Option Addr) (z : Nat) (q : List Nat), v ≤ 4 → 4 - v < n → σ.get p = some (.own (strs b) 43) → Row cS 1 9 σ ad z q (b.take (8 * v)) → (∀ x ∈ q, σ0.next ≤ x) → Same σ0 σ [] →
    ∃ ad' z' q' σ', lpAt Tryz.prog env L k 12 [true, true, false, true] [] n [(1, ptr p), (3, .slice ad ((8 * v : Nat)) z), (6, .int .i64 v)] σ = some (.slice ad' 32 z', σ') ∧ Row cS 1 9 σ' ad' z' q' b ∧ (∀ x ∈ q', σ0.next ≤ x) ∧ Same σ0 σ' []
  | 0, v, σ, ad, z, q, _, h, _, _, _, _ => by omega
  | n + 1, v, σ, ad, z, q, hv, hn, hg, hR, hq, hs => by
    rw [f12_l3]
    by_cases h4 : v = 4
    · subst h4
      rw [decide_eq_false (by omega), br_false]
      rw [List.take_of_length_le (by omega)] at hR
      exact ⟨ad, z, q, σ, rfl, hR, hq, hs⟩
    · rw [decide_eq_true (by omega), br_true]
      obtain ⟨ad1, z1, q1, σ1, n', e, rfl, hg1, hR1, hq1, hs1⟩ := flat_inner L k n hb hp (v := v) (by omega) L 0 σ ad z q (by omega) (by omega) hg hR hq hs
      obtain ⟨ad', z', q', σ', e2, r⟩ := flat_outer L k hL hb hp n' (v + 1) σ1 ad1 z1 q1 (by omega) (by omega) hg1 hR1 hq1 hs1
      exact ⟨ad', z', q', σ', e.trans e2, r⟩
theorem flat_spec (L k : Nat) (hL : 100 < L) (σ : St) {b : List ByteArray} (hb : b.length = 32) : ∃ ad z q σ', evCall Tryz.prog env L (k + 1) 12 [.agg (strs b).toArray] σ = some (.slice ad 32 z, σ') ∧ Row cS 1 9 σ' ad z q b ∧ (∀ x ∈ q, σ.next ≤ x) ∧ Same σ σ' [] := by
  rw [f12_eq]
  have s1 : Same σ (σ.new (.own (strs b) 43)) [] := Same.new _ _ _
  have g1 : (σ.new (.own (strs b) 43)).get σ.next = some (.own (strs b) 43) := get_new_same _ _
  have n1 : (σ.new (.own (strs b) 43)).next = σ.next + 1 := rfl
  generalize σ.new (.own (strs b) 43) = σ1 at s1 g1 n1
  obtain ⟨ad', z', q', σ', e, h1, h2, h3⟩ := flat_outer L k hL hb (σ0 := σ1) (p := σ.next) (by omega) L 0 σ1 none 0 [] (by omega) (by omega) g1 (Row.nil _ _ _ _) (by simp) (Same.refl _ _)
  exact ⟨ad', z', q', σ', e, h1, fun x hx => by have := h2 x hx; omega, s1.trans h3⟩

/-! Begin. -/
theorem dbegin_loop (L k : Nat) {σ : St} {w a : Nat} {t km : Int} {bl : List ByteArray} {G : List Nat} (hI : DI σ w a t km bl G) {ad : Option Addr} {z : Nat} {q : List Nat} {b : List ByteArray} (hR : Row cS 1 9 σ ad z q b) (hb : b.length = 32) (mark : Int) : ∀ (n i : Nat), i ≤ 32 → 32 - i < n →
    lpAt Tryz.prog env L k 11 [true, false, true] [] n [(0, ptr w), (1, .slice ad 32 z), (2, .int .i64 mark), (9, .int .i64 (32 : Nat)), (10, .int .i64 i)] σ = some (.int .i64 (if long (b.drop i) = true ∨ mark > 1152921504606846975 then 1 else if mark ≤ km then 10 else 0), σ)
  | 0, i, _, h => by omega
  | n + 1, i, hi, hn => by
    obtain ⟨_, _, _, _, h1, _⟩ := hI.ex
    rw [f11_l2]
    by_cases h32 : i = 32
    · subst h32
      rw [decide_eq_false (by omega), br_false, List.drop_of_length_le (by omega)]
      by_cases hm : mark > 1152921504606846975
      · rw [decide_eq_true hm, br_true, if_pos (.inr hm)]
      · rw [decide_eq_false hm, br_false, ld_at h1 (0 + 2) _ rfl, asI_i, if_neg (by rintro (h | h); cases h; exact hm h)]
        by_cases hk : mark ≤ km
        · rw [decide_eq_true hk, br_true, if_pos hk]
        · rw [decide_eq_false hk, br_false, if_neg hk]
    · have hget : b[i]? = some b[i] := List.getElem?_eq_getElem (by omega)
      have hdrop : b.drop i = b[i] :: b.drop (i + 1) := List.drop_eq_getElem_cons (by omega)
      obtain ⟨q', e, hat⟩ := hR.at cS_len hget
      rw [hdrop]
      generalize b[i] = s at hat
      have hw : IntKind.wrap .i64 ((i : Int) + 1) = ((i + 1 : Nat) : Int) := by rw [wrap_in _ (by omega) (by omega)]; omega
      have hlong : long (s :: b.drop (i + 1)) = (decide (16 < s.size) || long (b.drop (i + 1))) := rfl
      subst e
      rw [decide_eq_true (by omega), br_true, need_of (by simp [inRange]; omega), adr_some, hat 0 (.string s) _ (by omega) rfl (by simp), asS_s, hlong]
      by_cases h16 : s.size > 16
      · rw [decide_eq_true (by omega), br_true, if_pos (.inl (by rw [decide_eq_true (by omega)]; rfl))]
      · rw [decide_eq_false (by omega), br_false, hw, decide_eq_false (by omega), Bool.false_or]
        exact dbegin_loop L k hI hR hb mark n (i + 1) (by omega) (by omega)
theorem dbegin_spec (L k : Nat) (hL : 100 < L) {σ : St} {w a : Nat} {t km : Int} {bl : List ByteArray} {G : List Nat} (hI : DI σ w a t km bl G) {ad : Option Addr} {z : Nat} {q : List Nat} {b : List ByteArray} (hR : Row cS 1 9 σ ad z q b) (hb : b.length = 32) (mark : Int) :
    evCall Tryz.prog env L (k + 1) 11 [ptr w, .slice ad 32 z, .int .i64 mark] σ = some (.int .i64 (if long b = true ∨ mark > 1152921504606846975 then 1 else if mark ≤ km then 10 else 0), σ) := by
  rw [f11_eq]
  exact dbegin_loop L k hI hR hb mark L 0 (by omega) (by omega)

/-! Same. -/
theorem same_loop (L k : Nat) {σ : St} {ad1 ad2 : Option Addr} {z1 z2 : Nat} {q1 q2 : List Nat} {b : List ByteArray} (h1 : Row cS 1 9 σ ad1 z1 q1 b) (h2 : Row cS 1 9 σ ad2 z2 q2 b) (hb : b.length = 32) : ∀ (n i : Nat), i ≤ 32 → 32 - i < n →
    lpAt Tryz.prog env L k 21 [true, true, false, true] [] n [(0, .slice ad1 32 z1), (1, .slice ad2 32 z2), (12, .int .i64 (32 : Nat)), (13, .int .i64 i)] σ = some (.bool true, σ)
  | 0, i, _, h => by omega
  | n + 1, i, hi, hn => by
    rw [f21_l4]
    by_cases h32 : i = 32
    · rw [decide_eq_false (by omega), br_false]
    · have hget : b[i]? = some b[i] := List.getElem?_eq_getElem (by omega)
      obtain ⟨p1, e1, hat1⟩ := h1.at cS_len hget
      obtain ⟨p2, e2, hat2⟩ := h2.at cS_len hget
      generalize b[i] = s at hat1 hat2
      have hw : IntKind.wrap .i64 ((i : Int) + 1) = ((i + 1 : Nat) : Int) := by rw [wrap_in _ (by omega) (by omega)]; omega
      rw [decide_eq_true (by omega), br_true, need_of (by simp [inRange]; omega), e1, adr_some, hat1 0 (.string s) _ (by omega) rfl (by simp), asS_s, need_of (by simp [inRange]; omega), e2, adr_some, hat2 0 (.string s) _ (by omega) rfl (by simp), asS_s, show (ByteArray.toList s == ByteArray.toList s) = true by simp, not_true, br_false, hw, ← e1, ← e2]
      exact same_loop L k h1 h2 hb n (i + 1) (by omega) (by omega)
theorem same_spec (L k : Nat) (hL : 100 < L) {σ : St} {ad1 ad2 : Option Addr} {z1 z2 : Nat} {q1 q2 : List Nat} {b : List ByteArray} (h1 : Row cS 1 9 σ ad1 z1 q1 b) (h2 : Row cS 1 9 σ ad2 z2 q2 b) (hb : b.length = 32) :
    evCall Tryz.prog env L (k + 1) 21 [.slice ad1 32 z1, .slice ad2 32 z2] σ = some (.bool true, σ) := by
  rw [f21_eq, show (((32 : Nat) : Int) != ((32 : Nat) : Int)) = false by simp, br_false]
  exact same_loop L k h1 h2 hb L 0 (by omega) (by omega)

/-! alike. -/
theorem alike_loop (L k : Nat) (hL : 100000 < L) {d a N : Nat} {F F2 : List Nat} {S : List D.Sec} {W : List D.Lw} (hN : S.length = N) (hN1 : N ≤ 1000) (hW : W.length ≤ 10000) {σ0 : St} (hD0 : D.Disk σ0 d F S W) (hR0 : D.Ref σ0 a F2 S W) : ∀ (n i : Nat) (σ : St), i ≤ N → N - i < n → Same σ0 σ [] →
    ∃ σ', lpAt Tryz.prog env L (k + 3) 23 [true, false, true] [] n [(0, ptr d), (1, ptr a), (11, .int .i64 N), (12, .int .i64 i)] σ = some (.bool true, σ') ∧ Same σ0 σ' []
  | 0, i, σ, _, h, _ => by omega
  | n + 1, i, σ, hi, hn, hs => by
    have hD := hD0.idle hs
    have hR := hR0.idle hs
    rw [f23_l2]
    by_cases hiN : i = N
    · obtain ⟨q1, q2, ad1, z1, ad2, z2, _, h1, _⟩ := hR.ex
      have e1 : evCall Tryz.prog env L (k + 3) 50 [ptr d] σ = _ := D.loose_spec hD L (k + 2)
      have e2 : evCall Tryz.prog env L (k + 3) 25 [ptr d] σ = _ := D.len_spec hD L (k + 2)
      rw [decide_eq_false (by omega), br_false, e1, bnd_some, asI_i, ld_at h1 (0 + 1) _ rfl, asSl_s, ld_at h1 (0 + 1) _ rfl, asSl_s, chk_same, show (((W.length : Nat) : Int) == (W.length : Nat)) = true by simp, br_true, e2, bnd_some, asI_i, ld_at h1 (0 + 0) _ rfl, asSl_s, ld_at h1 (0 + 0) _ rfl, asSl_s, chk_same, show (((S.length : Nat) : Int) == (S.length : Nat)) = true by simp]
      exact ⟨σ, rfl, hs⟩
    · obtain ⟨q, σ1, g1, hB, hlen, s1, hq⟩ := dread_spec hD L k (by omega) (by omega) (x := (i : Int)) rfl (by omega)
      obtain ⟨g2, _⟩ := dread31 (hR.idle s1) L (k + 2) (by omega) (by omega) (x := (i : Int)) rfl (by omega)
      have hw : IntKind.wrap .i64 ((i : Int) + 1) = ((i + 1 : Nat) : Int) := by rw [wrap_in _ (by omega) (by omega)]; omega
      rw [decide_eq_true (by omega), br_true, g1, bnd_some, asT_t, toList2, uncons_c, asSl_s, uncons_c, endl_n, g2, bnd_some, asT_t, toList2, uncons_c, asS_s, uncons_c, asI_i, endl_n, hB.row 64 hlen.symm, asBy_by8,
        show (ByteArray.toList ⟨(rdS S W i).toArray⟩ == ByteArray.toList (str (rdS S W i))) = true from by rw [show (⟨(rdS S W i).toArray⟩ : ByteArray) = str (rdS S W i) from rfl]; simp, not_true, br_false, hw]
      exact alike_loop L k hL hN hN1 hW hD0 hR0 n (i + 1) σ1 (by omega) (by omega) (hs.trans s1)
theorem alike_spec (L k : Nat) (hL : 100000 < L) {d a : Nat} {F F2 : List Nat} {S : List D.Sec} {W : List D.Lw} (hN1 : S.length ≤ 1000) (hW : W.length ≤ 10000) {σ : St} (hD : D.Disk σ d F S W) (hR : D.Ref σ a F2 S W) :
    ∃ σ', evCall Tryz.prog env L (k + 4) 23 [ptr d, ptr a] σ = some (.bool true, σ') ∧ Same σ σ' [] := by
  have e2 : evCall Tryz.prog env L (k + 3) 25 [ptr d] σ = _ := D.len_spec hD L (k + 2)
  rw [f23_eq, e2, bnd_some, asI_i]
  exact alike_loop L k hL rfl hN1 hW hD hR L 0 σ (by omega) (by omega) (Same.refl _ _)

/-! Step. -/
section
variable {σ : St} {w a : Nat} {s : IS} {F G : List Nat}
theorem dstep_spec (hR : D.Ref σ a F s.S s.W) (hI : DI σ w a (s.t : Nat) (s.km : Nat) s.bl G) (hd : ∀ x ∈ F, x ∉ G) (L k0 : Nat) (hL : 100000 < L) (hok : s.Ok) {mk' : Nat} {bl' : List ByteArray} {k : Nat} (hw : s.work = some (mk', bl', k)) {ad : Option Addr} {z : Nat} {q : List Nat} (hq : Row cS 1 9 σ ad z q bl') (hqF : ∀ x ∈ q, x ∉ F) :
    ∃ F' G' σ', evCall Tryz.prog env L (k0 + 5) 17 [ptr w, .int .i64 k, .slice ad 32 z, .int .i64 (mk' : Nat)] σ = some (.bool (decide (k = 34)), σ') ∧ D.Ref σ' a F' (stepS s mk' bl' k).S (stepS s mk' bl' k).W ∧
      DI σ' w a ((stepS s mk' bl' k).t : Nat) ((stepS s mk' bl' k).km : Nat) (stepS s mk' bl' k).bl G' ∧ (∃ σ1, Turn σ σ1 F F' ∧ Turn σ1 σ' G G') := by
  obtain ⟨hk34, hlong, hbl, hkm, hmk, hwl⟩ := hok.bw mk' bl' k hw
  have hok1 := hok.sl
  have hok2 := hok.tl
  obtain ⟨gq, gad, gz, rfl, h1, h2, h3, h4⟩ := hI.ex
  have hGlt := hI.lt
  have htw : IntKind.wrap .i64 ((s.t : Int) + 1) = ((s.t + 1 : Nat) : Int) := by rw [wrap_in _ (by omega) (by omega)]; omega
  have hidle : ∀ {σx : St}, Same σ σx [] → DI σx w a (s.t : Nat) (s.km : Nat) s.bl (w :: gq) := fun hs => hI.same hs (by simp)
  rw [f17_eq, ld_at h1 1 _ rfl, asI_i, htw]
  by_cases hk : k < 32
  · have hget : bl'[k]? = some bl'[k] := List.getElem?_eq_getElem (by omega)
    have hgd : bl'.getD k ⟨#[]⟩ = bl'[k] := by rw [List.getD_eq_getElem?_getD, hget]; rfl
    have hs16 := long_at hlong hget
    obtain ⟨qq, e, hat⟩ := hq.at cS_len hget
    have hst : stepS s mk' bl' k = { s with W := s.W ++ [⟨((2 + 32 * ((s.t + 1) % 2) + k : Nat) : Int), mkSec (bsec ((s.t + 1 : Nat) : Int) bl'[k])⟩], work := some (mk', bl', k + 1) } := by unfold stepS; rw [if_pos hk, hgd]
    rw [hst]
    generalize bl'[k] = b at hat hs16
    subst e
    obtain ⟨σ1, g1, s1⟩ := rblock_spec L k0 hL σ ((s.t + 1 : Nat) : Int) b hs16
    have h11 : σ1.get w = _ := (s1.2 w (hGlt w (by simp)) (by simp)).trans h1
    have hatw : IntKind.wrap .i64 (IntKind.wrap .i64 ((2 : Int) + IntKind.wrap .i64 ((32 : Int) * Int.tmod ((s.t + 1 : Nat) : Int) 2)) + (k : Int)) = ((2 + 32 * ((s.t + 1) % 2) + k : Nat) : Int) := by
      rw [tmod2, wrap_in ((32 : Int) * _) (by omega) (by omega), wrap_in ((2 : Int) + _) (by omega) (by omega), wrap_in _ (by omega) (by omega)]; omega
    have hsl := bsec_len ((s.t + 1 : Nat) : Int) b hs16
    rw [decide_eq_true (by omega), br_true, ld_at h1 0 _ rfl, asP_p, need_of (by simp [inRange]; omega), adr_some, hat 0 (.string b) _ (by omega) rfl (by simp), asS_s, g1, bnd_some, asS_s, ld_at h11 0 _ rfl, asP_p, chk_same, hatw]
    obtain ⟨c, σ2, g2, hor⟩ := D.rwrite_spec (hR.idle s1) L (k0 + 3) (by have := hok.wl; omega) ((2 + 32 * ((s.t + 1) % 2) + k : Nat) : Int) (str (bsec ((s.t + 1 : Nat) : Int) b))
    rw [g2, bnd_some, asI_i]
    rcases hor with ⟨F', hl, _, _, _, hR2, hT⟩ | ⟨hno, _⟩ | ⟨_, hno, _⟩
    · have hTT := Turn.before s1 hT hR.lt
      refine ⟨F', w :: gq, σ2, by rw [decide_eq_false (by omega)], ?_, ?_, σ2, hTT, Turn.idle (Same.refl _ _) ?_⟩
      · dsimp only
        rw [mkSec_of hsl]; exact hR2
      · exact (hidle s1).same hT.same (fun x hx hxF => hd x hxF hx)
      · exact ((hidle s1).same hT.same (fun x hx hxF => hd x hxF hx)).lt
    · exact absurd ⟨by omega, by omega⟩ hno
    · exact absurd hsl hno
  rw [decide_eq_false (by omega), br_false]
  by_cases hk2 : k = 32
  · subst hk2
    have hst : stepS s mk' bl' 32 = { s with S := D.lay (fun _ => true) 0 s.S s.W, W := [], work := some (mk', bl', 33) } := rfl
    rw [hst, show (((32 : Nat) : Int) == 32) = true from rfl, br_true, ld_at h1 0 _ rfl, asP_p]
    obtain ⟨F', σ2, g2, hR2, hT⟩ := D.rflush_spec L (k0 + 3) hR (by have := hok.wl; omega) (by have := hok.wl; omega) hok.wr
    rw [g2, bnd_some, asT_t, toList0, endl_n]
    have hI2 := hI.same hT.same (fun x hx hxF => hd x hxF hx)
    exact ⟨F', w :: gq, σ2, by rw [decide_eq_false (by omega)], hR2, hI2, σ2, hT, Turn.idle (Same.refl _ _) hI2.lt⟩
  rw [show ((k : Int) == 32) = false by rw [beq_eq_false_iff_ne]; omega, br_false]
  by_cases hk3 : k = 33
  · subst hk3
    have hst : stepS s mk' bl' 33 = { s with W := s.W ++ [⟨(((s.t + 1) % 2 : Nat) : Int), mkSec (hsec ((s.t + 1 : Nat) : Int) (mk' : Nat))⟩], work := some (mk', bl', 34) } := rfl
    rw [hst, show (((33 : Nat) : Int) == 33) = true from rfl, br_true, ld_at h1 0 _ rfl, asP_p]
    obtain ⟨σ1, g1, s1⟩ := rhead_spec L k0 hL σ ((s.t + 1 : Nat) : Int) (mk' : Nat)
    have h11 : σ1.get w = _ := (s1.2 w (hGlt w (by simp)) (by simp)).trans h1
    have hsl := hsec_len ((s.t + 1 : Nat) : Int) (mk' : Nat)
    rw [g1, bnd_some, asS_s, ld_at h11 0 _ rfl, asP_p, chk_same, tmod2]
    obtain ⟨c, σ2, g2, hor⟩ := D.rwrite_spec (hR.idle s1) L (k0 + 3) (by have := hok.wl; omega) (((s.t + 1) % 2 : Nat) : Int) (str (hsec ((s.t + 1 : Nat) : Int) (mk' : Nat)))
    rw [g2, bnd_some, asI_i]
    rcases hor with ⟨F', hl, _, _, _, hR2, hT⟩ | ⟨hno, _⟩ | ⟨_, hno, _⟩
    · have hTT := Turn.before s1 hT hR.lt
      have hI2 := (hidle s1).same hT.same (fun x hx hxF => hd x hxF hx)
      refine ⟨F', w :: gq, σ2, by rw [decide_eq_false (by omega)], ?_, hI2, σ2, hTT, Turn.idle (Same.refl _ _) hI2.lt⟩
      dsimp only
      rw [mkSec_of hsl]; exact hR2
    · exact absurd ⟨by omega, by omega⟩ hno
    · exact absurd hsl hno
  have hk4 : k = 34 := by omega
  subst hk4
  have hst : stepS s mk' bl' 34 = ⟨D.lay (fun _ => true) 0 s.S s.W, [], s.t + 1, mk', bl', none⟩ := rfl
  rw [hst, show (((34 : Nat) : Int) == 33) = false from rfl, br_false, ld_at h1 0 _ rfl, asP_p]
  obtain ⟨F', σ1, g1, hR1, hT⟩ := D.rflush_spec L (k0 + 3) hR (by have := hok.wl; omega) (by have := hok.wl; omega) hok.wr
  have hwF : w ∉ F := fun h => hd w h (by simp)
  have h11 : σ1.get w = _ := (hT.same.2 w (hGlt w (by simp)) hwF).trans h1
  have n1 := hT.same.1
  have hwl1 : w < σ1.next := by have := hGlt w (by simp); omega
  rw [g1, bnd_some, asT_t, toList0, endl_n]
  have s2 : Same σ1 (σ1.new (.own [] 9)) [] := Same.new _ _ _
  have g2 : (σ1.new (.own [] 9)).get σ1.next = some (.own [] 9) := get_new_same _ _
  have n2 : (σ1.new (.own [] 9)).next = σ1.next + 1 := rfl
  generalize σ1.new (.own [] 9) = σ2 at s2 g2 n2
  have hq2 := (hq.same hT.same hqF).same s2 (by simp)
  rw [hq2.read cS_len (32 * 1) (by omega)]
  have hE : Row cS 1 9 σ2 (some ⟨σ1.next, 0, none⟩) 1 [σ1.next] [] := ⟨by simp; omega, .inr ⟨_, [], rfl, rfl, rfl, g2⟩⟩
  obtain ⟨ad', z', q', σ3, hgrow, hR3, s3, hq3⟩ := grow_row (by_ := 16) hE cS_len cS_one (by omega) bl' (bl'.flatMap cS) rfl 32 hbl.symm (by simp; unfold roomTop; omega) (by simp; unfold sizeTop; omega)
  have hgrow' : ∀ K : Option Addr → Nat → Nat → St → Res, grow 9 1 16 (some ⟨σ1.next, 0, none⟩) 0 1 32 (bl'.flatMap cS) σ2 K = K ad' 32 z' σ3 := fun K => by have := hgrow K; simpa using this
  have s13 : Same σ1 σ3 [] := s2.fresh s3 (fun x hx => .inr (by simp at hx; subst hx; exact Nat.le_refl _))
  have h13 : σ3.get w = _ := (s13.2 w hwl1 (by simp)).trans h11
  have n3 := s13.1
  rw [hgrow', put_int h13 1 _ _ (by simp)]
  have g4 : (σ3.set w (.own (List.set [ptr a, .int .i64 (s.t : Nat), .int .i64 (s.km : Nat), .slice gad 32 gz] 1 (.int .i64 ((s.t + 1 : Nat) : Int))) 55)).get w = some (.own [ptr a, .int .i64 ((s.t + 1 : Nat) : Int), .int .i64 (s.km : Nat), .slice gad 32 gz] 55) := get_set_same _ _ _
  have s4 := Same.set σ3 w (.own (List.set [ptr a, .int .i64 (s.t : Nat), .int .i64 (s.km : Nat), .slice gad 32 gz] 1 (.int .i64 ((s.t + 1 : Nat) : Int))) 55)
  generalize σ3.set w (.own (List.set [ptr a, .int .i64 (s.t : Nat), .int .i64 (s.km : Nat), .slice gad 32 gz] 1 (.int .i64 ((s.t + 1 : Nat) : Int))) 55) = σ4 at g4 s4
  rw [put_int g4 2 _ _ (by simp)]
  have g5 : (σ4.set w (.own (List.set [ptr a, .int .i64 ((s.t + 1 : Nat) : Int), .int .i64 (s.km : Nat), .slice gad 32 gz] 2 (.int .i64 (mk' : Nat))) 55)).get w = some (.own [ptr a, .int .i64 ((s.t + 1 : Nat) : Int), .int .i64 (mk' : Nat), .slice gad 32 gz] 55) := get_set_same _ _ _
  have s5 := Same.set σ4 w (.own (List.set [ptr a, .int .i64 ((s.t + 1 : Nat) : Int), .int .i64 (s.km : Nat), .slice gad 32 gz] 2 (.int .i64 (mk' : Nat))) 55)
  generalize σ4.set w (.own (List.set [ptr a, .int .i64 ((s.t + 1 : Nat) : Int), .int .i64 (s.km : Nat), .slice gad 32 gz] 2 (.int .i64 (mk' : Nat))) 55) = σ5 at g5 s5
  rw [put_sl g5 3 _ _ _ (by simp)]
  have g6 : (σ5.set w (.own (List.set [ptr a, .int .i64 ((s.t + 1 : Nat) : Int), .int .i64 (mk' : Nat), .slice gad 32 gz] 3 (.slice ad' 32 z')) 55)).get w = some (.own [ptr a, .int .i64 ((s.t + 1 : Nat) : Int), .int .i64 (mk' : Nat), .slice ad' 32 z'] 55) := get_set_same _ _ _
  have s6 := Same.set σ5 w (.own (List.set [ptr a, .int .i64 ((s.t + 1 : Nat) : Int), .int .i64 (mk' : Nat), .slice gad 32 gz] 3 (.slice ad' 32 z')) 55)
  generalize σ5.set w (.own (List.set [ptr a, .int .i64 ((s.t + 1 : Nat) : Int), .int .i64 (mk' : Nat), .slice gad 32 gz] 3 (.slice ad' 32 z')) 55) = σ6 at g6 s6
  have s36 : Same σ3 σ6 [w] := (s4.trans s5).trans s6
  have s16 : Same σ1 σ6 [w] := (s13.mono (by simp)).trans s36
  have hfr : ∀ x ∈ q', σ1.next ≤ x := fun x hx => by
    rcases hq3 x hx with h | h
    · simp at h; omega
    · omega
  have hwq : w ∉ q' := fun h => by have := hfr w h; omega
  refine ⟨F', w :: q', σ6, rfl, hR1.same s16 (fun x hx => ?_), ⟨⟨q', ad', z', rfl, g6, hbl, by rw [List.nil_append] at hR3; exact hR3.same s36 (fun x hx => by simp; rintro rfl; exact hwq hx), hwq⟩, fun x hx => ?_⟩, σ1, hT, ⟨s16.mono (by simp), fun x hx => ?_⟩⟩
  · simp
    rintro rfl
    rcases (hT.sub x hx).1 with h | h
    · exact hwF h
    · have := hGlt x (by simp); omega
  · have := s36.1
    rcases List.mem_cons.1 hx with rfl | hx
    · omega
    · have := hR3.lt x hx; omega
  · have := s36.1
    rcases List.mem_cons.1 hx with rfl | hx
    · exact ⟨.inl (by simp), by omega⟩
    · exact ⟨.inr (hfr x hx), by have := hR3.lt x hx; omega⟩
end
end Go.AM.Iz

/-
  ImagePlays.
-/
namespace Go.AM.Iz
open Go.Proofs

structure OpI (σ0 : St) where
  ad : Option Addr
  l : List ByteArray
  mark : Int
  cut : Int
  keep : Nat
  hk : keep < 18446744073709551616
  hs : Holds σ0 1 cS ad l
def c4 {σ0 : St} (o : OpI σ0) : List Value := [.slice o.ad o.l.length 0, .int .i64 o.mark, .int .u8 o.cut, .int .u64 (o.keep : Nat)]
theorem c4_len {σ0 : St} (o : OpI σ0) : (c4 o).length = 4 := rfl
set_option maxRecDepth 20000 in
theorem opOf {ads : List Addr} {W : World} {row : List Value} (h : Go.AM.Img Tryz.prog (stOfD ads W) 40 row) : ∃ o : OpI (stOfD ads W), row = c4 o := by
  obtain ⟨h1, h2⟩ := h.struct_inv Tryz.underlying40
  have hl : row.length = 4 := by rw [h1]; kernel_rfl
  match row, hl with
  | [s, x, y, z], _ =>
    have hs := h2 _ (List.mem_of_getElem? (i := 0) rfl)
    have hx := h2 _ (List.mem_of_getElem? (i := 1) rfl)
    have hy := h2 _ (List.mem_of_getElem? (i := 2) rfl)
    have hz := h2 _ (List.mem_of_getElem? (i := 3) rfl)
    have e3 : Tryz.prog.cellsOf 3 = 1 := by kernel_rfl
    have e22 : Tryz.prog.cellsOf 37 = 1 := by kernel_rfl
    have e5 : Tryz.prog.cellsOf 5 = 1 := by kernel_rfl
    have e54 : Tryz.prog.cellsOf 38 = 1 := by kernel_rfl
    simp only [e22] at hs
    simp only [e3] at hx
    simp only [e5] at hy
    simp only [e54] at hz
    obtain ⟨n0, w0, _⟩ := Go.AM.Img.int_inv Tryz.underlying3 hx
    obtain ⟨n1, w1, _⟩ := Go.AM.Img.int_inv Tryz.underlying5 hy
    obtain ⟨n2, w2, hwf⟩ := Go.AM.Img.int_inv Tryz.underlying38 hz
    have hb := wf_u64 hwf
    obtain ⟨l, ad, w3, _, hH⟩ := Go.AM.Img.holdsD (sz := 1) (α := ByteArray) Tryz.underlying37 (show Go.AM.Img Tryz.prog (stOfD ads W) 37 [s] from hs) cS (fun row hr => strOf hr) (fun _ => rfl) (by kernel_rfl)
    simp at w0 w1 w2 w3
    have e : ((n2.toNat : Nat) : Int) = n2 := by omega
    exact ⟨⟨ad, l, n0, n1, n2.toNat, by omega, hH⟩, by rw [w0, w1, w2, w3]; unfold c4; rw [e]⟩
theorem reads_ops {σ0 σ : St} {ad : Option Addr} {sc : List (OpI σ0)} (hH : Holds σ0 4 c4 ad sc) (hk : Kept' σ0.next σ0 σ) : Reads σ ad (sc.map fun o => (o.ad, 0, o.l)) := by
  intro i p hp
  rw [List.getElem?_map] at hp
  cases ho : sc[i]? with
  | none => rw [ho] at hp; cases hp
  | some o =>
    rw [ho] at hp
    cases hp
    obtain ⟨q, e, hat⟩ := hH.ld hk ho
    refine ⟨q, e, fun K => hat 0 _ (i * 4) (by omega) rfl (by omega) K, fun j s hs => ?_⟩
    obtain ⟨q', e', hat'⟩ := o.hs.ld hk hs
    exact ⟨q', e', fun K => hat' 0 (.string s) j (by omega) rfl (by omega) K⟩

/-! Things whose blocks nobody touched. -/
theorem Row.kept {α : Type} {cells : α → List Value} {sz : Nat} {e : TypeId} {σ σ' : St} {ad : Option Addr} {z : Nat} {qs : List Nat} {l : List α} (h : Row cells sz e σ ad z qs l) (hk : ∀ q ∈ qs, σ'.get q = σ.get q) (hlt : ∀ q ∈ qs, q < σ'.next) : Row cells sz e σ' ad z qs l :=
  ⟨hlt, h.is.imp id (fun ⟨q, rest, e1, a, b, c⟩ => ⟨q, rest, e1, a, b, by rw [hk q (by rw [e1]; simp)]; exact c⟩)⟩
theorem D.Ref.kept {σ σ' : St} {a : Nat} {F : List Nat} {S : List D.Sec} {W : List D.Lw} (h : D.Ref σ a F S W) (hk : ∀ q ∈ F, σ'.get q = σ.get q) (hlt : ∀ q ∈ F, q < σ'.next) : D.Ref σ' a F S W := by
  obtain ⟨q1, q2, ad1, z1, ad2, z2, rfl, h1, h2, h3, h4⟩ := h.ex
  exact ⟨⟨q1, q2, ad1, z1, ad2, z2, rfl, by rw [hk a (by simp)]; exact h1, Row.kept h2 (fun q hq => hk q (by simp [hq])) (fun q hq => hlt q (by simp [hq])), Row.kept h3 (fun q hq => hk q (by simp [hq])) (fun q hq => hlt q (by simp [hq])), h4⟩, hlt⟩
theorem DI.kept {σ σ' : St} {w a : Nat} {t mk : Int} {bl : List ByteArray} {G : List Nat} (h : DI σ w a t mk bl G) (hk : ∀ q ∈ G, σ'.get q = σ.get q) (hlt : ∀ q ∈ G, q < σ'.next) : DI σ' w a t mk bl G := by
  obtain ⟨q, ad, z, rfl, h1, h2, h3, h4⟩ := h.ex
  exact ⟨⟨q, ad, z, rfl, by rw [hk w (by simp)]; exact h1, h2, Row.kept h3 (fun x hx => hk x (by simp [hx])) (fun x hx => hlt x (by simp [hx])), h4⟩, hlt⟩
theorem ImS.turned {σ0 σ σ' : St} {m d : Nat} {s : IS} {R : List (List Nat)} {A B : List Nat} (h : ImS σ0 σ m d s R) (i : Nat) (hi : R[i]? = some A) (hT : Turn σ σ' A B) : ImS σ0 σ' m d s (R.set i B) := by
  obtain ⟨F, G, w, h1, h2, h3, h4, h5⟩ := h.ex
  have hi2 : (F :: G :: R)[i + 2]? = some A := hi
  refine ⟨F, G, w, h1.same hT.same (h3.off 0 (i + 2) (by omega) rfl hi2), h2.same hT.same (h3.off 1 (i + 2) (by omega) rfl hi2 m h4), h3.turned (i + 2) hi2 hT, h4, ?_⟩
  rcases h5 with h5 | ⟨b, mk', bl', done, e1, e2, e3, e4, e5⟩
  · exact .inl h5
  · exact .inr ⟨b, mk', bl', done, e1, e2, e3, e4, by rw [hT.same.2 b (h3.lt 1 rfl b e3) (h3.off 1 (i + 2) (by omega) rfl hi2 b e3)]; exact e5.ex, e5.len⟩
theorem ImS.lt {σ0 σ : St} {m d : Nat} {s : IS} {R : List (List Nat)} (h : ImS σ0 σ m d s R) {H : List Nat} (hH : H ∈ R) : ∀ q ∈ H, q < σ.next := by
  obtain ⟨F, G, w, h1, h2, h3, h4, h5⟩ := h.ex
  exact fun q hq => (h3.own H (by simp [hH]) q hq).2

/-- The program's image and disk, the document's. -/
structure PS (σ0 σ : St) (m d w a : Nat) (s : IS) (R : List (List Nat)) : Prop where
  ex : ∃ F2 G2, ImS σ0 σ m d s (F2 :: G2 :: R) ∧ D.Ref σ a F2 s.S s.W ∧ DI σ w a (s.t : Nat) (s.km : Nat) s.bl G2
theorem PS.idle {σ0 σ σ' : St} {m d w a : Nat} {s : IS} {R : List (List Nat)} (h : PS σ0 σ m d w a s R) (hs : Same σ σ' []) : PS σ0 σ' m d w a s R := by
  obtain ⟨F2, G2, h1, h2, h3⟩ := h.ex
  exact ⟨F2, G2, h1.idle hs, h2.idle hs, h3.same hs (by simp)⟩

/-- What follows the steps; the comparison. -/
noncomputable def tl1 (L k m0 : Nat) (st : St) (s0 : Option Addr) (s0n s0z s3 o3 s4 o4 s5 o5 s7 o7 : Nat) (s10 : Value) (s45 s46 : Int) : Res := AM.asP s10 fun v67 => AM.adr v67 fun v68 v69 => AM.St.ld st v68 (v69 + 2) fun v70 => AM.asI IntKind.u8 v70 fun v71 => AM.br (v71 != (0 : Int)) (AM.asP s10 fun v72 => AM.adr v72 fun v73 v74 => AM.St.ld st v73 (v74 + 3) fun v75 => AM.asI IntKind.u64 v75 fun v76 => AM.bnd (AM.evCall Proofs.Tryz.prog AM.Iz.env L k 18 [Value.pointer (some { block := s3, off := o3 }), Value.int IntKind.u64 v76] st) fun v77 v78 => AM.asT v77 fun v79 => AM.endl v79 (AM.asP s10 fun v80 => AM.adr v80 fun v81 v82 => AM.St.ld v78 v81 (v82 + 3) fun v83 => AM.asI IntKind.u64 v83 fun v84 => AM.bnd (AM.evCall Proofs.Tryz.prog AM.Iz.env L k 19 [Value.pointer (some { block := s4, off := o4 }), Value.int IntKind.u64 v84] v78) fun v85 v86 => AM.asT v85 fun v87 => AM.endl v87 (AM.bnd (AM.evCall Proofs.Tryz.prog AM.Iz.env L k 8 [Value.pointer (some { block := s3, off := o3 })] v86) fun v88 v89 => AM.asT v88 fun v90 => AM.uncons v90 fun v91 v92 => AM.asP v91 fun v93 => AM.uncons v92 fun v94 v95 => AM.endl v95 (AM.bnd (AM.evCall Proofs.Tryz.prog AM.Iz.env L k 9 [Value.pointer (some { block := s4, off := o4 })] v89) fun v96 v97 => AM.asT v96 fun v98 => AM.uncons v98 fun v99 v100 => AM.asP v99 fun v101 => AM.uncons v100 fun v102 v103 => AM.asI IntKind.i64 v102 fun v104 => AM.endl v103 (AM.eqNil v94 fun v105 => AM.br (!v105) (some (Value.bool false, v97)) (AM.br (v104 != (0 : Int)) (some (Value.bool false, v97)) (AM.bnd (AM.evCall Proofs.Tryz.prog AM.Iz.env L k 20 [Value.pointer v93] v97) fun v106 v107 => AM.asI IntKind.i64 v106 fun v108 => AM.adr v101 fun v109 v110 => AM.St.ld v107 v109 (v110 + 2) fun v111 => AM.asI IntKind.i64 v111 fun v112 => AM.St.ld v97 v109 (v110 + 2) fun v113 => AM.asI IntKind.i64 v113 fun v114 => AM.chk (Value.int IntKind.i64 v114) (Value.int IntKind.i64 v112) (AM.br (v108 != v112) (some (Value.bool false, v107)) (AM.bnd (AM.evCall Proofs.Tryz.prog AM.Iz.env L k 22 [Value.pointer v93] v107) fun v115 v116 => AM.asAgL v115 fun v117 => AM.bnd (AM.evCall Proofs.Tryz.prog AM.Iz.env L k 12 [Value.agg (List.toArray v117)] v116) fun v118 v119 => AM.asSl v118 fun v120 v121 v122 => AM.adr v101 fun v123 v124 => AM.St.ld v119 v123 (v124 + 3) fun v125 => AM.asSl v125 fun v126 v127 v128 => AM.St.ld v107 v123 (v124 + 3) fun v129 => AM.asSl v129 fun v130 v131 v132 => AM.chk (Value.slice v130 v131 v132) (Value.slice v126 v127 v128) (AM.St.ld v116 v123 (v124 + 3) fun v133 => AM.asSl v133 fun v134 v135 v136 => AM.chk (Value.slice v134 v135 v136) (Value.slice v126 v127 v128) (AM.bnd (AM.evCall Proofs.Tryz.prog AM.Iz.env L k 21 [Value.slice v120 v121 v122, Value.slice v126 v127 v128] v119) fun v137 v138 => AM.asB v137 fun v139 => AM.br (!v139) (some (Value.bool false, v138)) (AM.bnd (AM.evCall Proofs.Tryz.prog AM.Iz.env L k 23 [Value.pointer (some { block := s3, off := o3 }), Value.pointer (some { block := s4, off := o4 })] v138) fun v140 v141 => AM.asB v140 fun v142 => AM.br (!v142) (some (Value.bool false, v141)) (AM.lpAt Proofs.Tryz.prog AM.Iz.env L k 3 [true, true, true, true, true, true, false, true] [] m0 [(0, Value.slice s0 s0n s0z), (3, Value.pointer (some { block := s3, off := o3 })), (4, Value.pointer (some { block := s4, off := o4 })), (5, Value.pointer v93), (7, Value.pointer v101), (45, Value.int IntKind.i64 s45), (46, Value.int IntKind.i64 (IntKind.wrap IntKind.i64 (s46 + (1 : Int))))] v141))))))))))))) (AM.bnd (AM.evCall Proofs.Tryz.prog AM.Iz.env L k 20 [Value.pointer (some { block := s5, off := o5 })] st) fun v143 v144 => AM.asI IntKind.i64 v143 fun v145 => AM.St.ld v144 s7 (o7 + 2) fun v146 => AM.asI IntKind.i64 v146 fun v147 => AM.St.ld st s7 (o7 + 2) fun v148 => AM.asI IntKind.i64 v148 fun v149 => AM.chk (Value.int IntKind.i64 v149) (Value.int IntKind.i64 v147) (AM.br (v145 != v147) (some (Value.bool false, v144)) (AM.bnd (AM.evCall Proofs.Tryz.prog AM.Iz.env L k 22 [Value.pointer (some { block := s5, off := o5 })] v144) fun v150 v151 => AM.asAgL v150 fun v152 => AM.bnd (AM.evCall Proofs.Tryz.prog AM.Iz.env L k 12 [Value.agg (List.toArray v152)] v151) fun v153 v154 => AM.asSl v153 fun v155 v156 v157 => AM.St.ld v154 s7 (o7 + 3) fun v158 => AM.asSl v158 fun v159 v160 v161 => AM.St.ld v144 s7 (o7 + 3) fun v162 => AM.asSl v162 fun v163 v164 v165 => AM.chk (Value.slice v163 v164 v165) (Value.slice v159 v160 v161) (AM.St.ld v151 s7 (o7 + 3) fun v166 => AM.asSl v166 fun v167 v168 v169 => AM.chk (Value.slice v167 v168 v169) (Value.slice v159 v160 v161) (AM.bnd (AM.evCall Proofs.Tryz.prog AM.Iz.env L k 21 [Value.slice v155 v156 v157, Value.slice v159 v160 v161] v154) fun v170 v171 => AM.asB v170 fun v172 => AM.br (!v172) (some (Value.bool false, v171)) (AM.bnd (AM.evCall Proofs.Tryz.prog AM.Iz.env L k 23 [Value.pointer (some { block := s3, off := o3 }), Value.pointer (some { block := s4, off := o4 })] v171) fun v173 v174 => AM.asB v173 fun v175 => AM.br (!v175) (some (Value.bool false, v174)) (AM.lpAt Proofs.Tryz.prog AM.Iz.env L k 3 [true, true, true, true, true, true, false, true] [] m0 [(0, Value.slice s0 s0n s0z), (3, Value.pointer (some { block := s3, off := o3 })), (4, Value.pointer (some { block := s4, off := o4 })), (5, Value.pointer (some { block := s5, off := o5 })), (7, Value.pointer (some { block := s7, off := o7 })), (45, Value.int IntKind.i64 s45), (46, Value.int IntKind.i64 (IntKind.wrap IntKind.i64 (s46 + (1 : Int))))] v174)))))))
noncomputable def tl2 (L k m0 : Nat) (st : St) (s0 : Option Addr) (s0n s0z s3 o3 s4 o4 s5 o5 s7 o7 : Nat) (s45 s46 : Int) : Res := AM.bnd (AM.evCall Proofs.Tryz.prog AM.Iz.env L k 20 [Value.pointer (some { block := s5, off := o5 })] st) fun v143 v144 => AM.asI IntKind.i64 v143 fun v145 => AM.St.ld v144 s7 (o7 + 2) fun v146 => AM.asI IntKind.i64 v146 fun v147 => AM.St.ld st s7 (o7 + 2) fun v148 => AM.asI IntKind.i64 v148 fun v149 => AM.chk (Value.int IntKind.i64 v149) (Value.int IntKind.i64 v147) (AM.br (v145 != v147) (some (Value.bool false, v144)) (AM.bnd (AM.evCall Proofs.Tryz.prog AM.Iz.env L k 22 [Value.pointer (some { block := s5, off := o5 })] v144) fun v150 v151 => AM.asAgL v150 fun v152 => AM.bnd (AM.evCall Proofs.Tryz.prog AM.Iz.env L k 12 [Value.agg (List.toArray v152)] v151) fun v153 v154 => AM.asSl v153 fun v155 v156 v157 => AM.St.ld v154 s7 (o7 + 3) fun v158 => AM.asSl v158 fun v159 v160 v161 => AM.St.ld v144 s7 (o7 + 3) fun v162 => AM.asSl v162 fun v163 v164 v165 => AM.chk (Value.slice v163 v164 v165) (Value.slice v159 v160 v161) (AM.St.ld v151 s7 (o7 + 3) fun v166 => AM.asSl v166 fun v167 v168 v169 => AM.chk (Value.slice v167 v168 v169) (Value.slice v159 v160 v161) (AM.bnd (AM.evCall Proofs.Tryz.prog AM.Iz.env L k 21 [Value.slice v155 v156 v157, Value.slice v159 v160 v161] v154) fun v170 v171 => AM.asB v170 fun v172 => AM.br (!v172) (some (Value.bool false, v171)) (AM.bnd (AM.evCall Proofs.Tryz.prog AM.Iz.env L k 23 [Value.pointer (some { block := s3, off := o3 }), Value.pointer (some { block := s4, off := o4 })] v171) fun v173 v174 => AM.asB v173 fun v175 => AM.br (!v175) (some (Value.bool false, v174)) (AM.lpAt Proofs.Tryz.prog AM.Iz.env L k 3 [true, true, true, true, true, true, false, true] [] m0 [(0, Value.slice s0 s0n s0z), (3, Value.pointer (some { block := s3, off := o3 })), (4, Value.pointer (some { block := s4, off := o4 })), (5, Value.pointer (some { block := s5, off := o5 })), (7, Value.pointer (some { block := s7, off := o7 })), (45, Value.int IntKind.i64 s45), (46, Value.int IntKind.i64 (IntKind.wrap IntKind.i64 (s46 + (1 : Int))))] v174))))))

section
variable {σ0 : St} {d a : Nat}
theorem tl2_ok (L k m0 : Nat) (hL : 100000 < L) {σ : St} {m w : Nat} {s : IS} (h : PS σ0 σ m d w a s []) (hv : s.Inv) (hw : s.work = none) (s0 : Option Addr) (s0n s0z : Nat) (s45 s46 : Int) :
    ∃ σ', tl2 L (k + 11) m0 σ s0 s0n s0z d 0 a 0 m 0 w 0 s45 s46 = lpAt Tryz.prog env L (k + 11) 3 [true, true, true, true, true, true, false, true] [] m0 [(0, .slice s0 s0n s0z), (3, ptr d), (4, ptr a), (5, ptr m), (7, ptr w), (45, .int .i64 s45), (46, .int .i64 (IntKind.wrap .i64 (s46 + 1)))] σ' ∧ PS σ0 σ' m d w a s [] := by
  obtain ⟨F2, G2, hI, hR, hDI⟩ := h.ex
  have hW : s.W = [] := by have := hv.work; rw [hw] at this; exact this
  have hbl := hI.blen
  have hsl := hv.sl
  obtain ⟨σ1, g1, s1⟩ := blocksS hI L (k + 10)
  obtain ⟨ad, z, q, σ2, g2, hrow, _, s2⟩ := flat_spec L (k + 10) (by omega) σ1 hbl
  have s02 := s1.trans s2
  have hI2 := hI.idle s02
  obtain ⟨F, G, ww, hD2, _⟩ := hI2.ex
  obtain ⟨gq, gad, gz, _, h1, _, hr1, _⟩ := hDI.ex
  obtain ⟨gq1, gad1, gz1, hq1, h11, _, _, _⟩ := (hDI.same s1 (by simp)).ex
  have hDI1 := hDI.same s1 (by simp)
  have hDI2 := hDI.same s02 (by simp)
  have e1 : σ1.get w = _ := (s1.2 w (hDI.lt w (by obtain ⟨q, _, _, e, _⟩ := hDI.ex; rw [e]; simp)) (by simp)).trans h1
  have e2 : σ2.get w = _ := (s02.2 w (hDI.lt w (by obtain ⟨q, _, _, e, _⟩ := hDI.ex; rw [e]; simp)) (by simp)).trans h1
  have hr2 := hr1.same s02 (by simp)
  have gs := same_spec L (k + 10) (by omega) hrow hr2 hbl
  obtain ⟨σ3, g3, s3⟩ := alike_spec L (k + 7) hL (by omega) (by rw [hW]; simp) hD2 (hR.idle s02)
  have ht : ∀ b : List ByteArray, (strs b).toArray.toList = strs b := fun _ => rfl
  unfold tl2
  rw [markS hI L (k + 10), bnd_some, asI_i, ld_at h1 (0 + 2) _ rfl, asI_i, ld_at h1 (0 + 2) _ rfl, asI_i, chk_same, show (((s.km : Nat) : Int) != (s.km : Nat)) = false by simp, br_false, g1, bnd_some, asAgL_a, ht, g2, bnd_some, asSl_s,
    ld_at e2 (0 + 3) _ rfl, asSl_s, ld_at h1 (0 + 3) _ rfl, asSl_s, chk_same, ld_at e1 (0 + 3) _ rfl, asSl_s, chk_same, gs, bnd_some, asB_b, not_true, br_false, g3, bnd_some, asB_b, not_true, br_false]
  exact ⟨σ3, rfl, h.idle (s02.trans s3)⟩

theorem PS.drop2 {σ : St} {m w : Nat} {s : IS} {A B : List Nat} (h : PS σ0 σ m d w a s [A, B]) : PS σ0 σ m d w a s [] := by
  obtain ⟨F2, G2, hI, hR, hDI⟩ := h.ex
  obtain ⟨F, G, x, a1, a2, a3, a4, a5⟩ := hI.ex
  exact ⟨F2, G2, ⟨F, G, x, a1, a2, a3.pick [0, 1, 2, 3] (by decide), a4, a5⟩, hR, hDI⟩

theorem tl1_ok (L k m0 : Nat) (hL : 100000 < L) {σ : St} {m w ob bb : Nat} {s : IS} (h : PS σ0 σ m d w a s [[ob], [bb]]) (hv : s.Inv) (ht : s.t ≤ 899) (o : OpI σ0)
    (ho : σ.get ob = some (.own (c4 o) 40)) (hcw : o.cut = 0 → s.work = none) (s0 : Option Addr) (s0n s0z : Nat) (s45 s46 : Int) :
    ∃ m' w' s' σ', tl1 L (k + 11) m0 σ s0 s0n s0z d 0 a 0 m 0 w 0 (ptr ob) s45 s46 = lpAt Tryz.prog env L (k + 11) 3 [true, true, true, true, true, true, false, true] [] m0 [(0, .slice s0 s0n s0z), (3, ptr d), (4, ptr a), (5, ptr m'), (7, ptr w'), (45, .int .i64 s45), (46, .int .i64 (IntKind.wrap .i64 (s46 + 1)))] σ' ∧
      PS σ0 σ' m' d w' a s' [] ∧ s'.Inv ∧ s'.work = none ∧ (s'.t ≤ s.t ∨ (s'.t ≤ s.t + 1 ∧ s.work ≠ none)) := by
  have r2 : ∀ K : Value → Res, σ.ld ob (0 + 2) K = K (.int .u8 o.cut) := fun K => ld_own K ho rfl
  unfold tl1
  rw [asP_p, adr_some, r2, asI_i]
  by_cases hc : o.cut = 0
  · rw [show (o.cut != 0) = false by rw [hc]; rfl, br_false]
    obtain ⟨σ', e, hP⟩ := tl2_ok L k m0 hL h.drop2 hv (hcw hc) s0 s0n s0z s45 s46
    exact ⟨m, w, s, σ', e, hP, hv, hcw hc, .inl (Nat.le_refl _)⟩
  · obtain ⟨F2, G2, hI, hR, hDI⟩ := h.ex
    have r3 : ∀ K : Value → Res, σ.ld ob (0 + 3) K = K (.int .u64 (o.keep : Nat)) := fun K => ld_own K ho rfl
    obtain ⟨F, σ1, g1, hD1, hO1, k1⟩ := crashS hI hv.ok L (k + 8) hL (o.keep : Nat)
    have hok := hv.ok
    have ho1 : σ1.get ob = _ := (k1 [ob] (by simp) ob (by simp)).trans ho
    have hR1 : D.Ref σ1 a F2 s.S s.W := D.Ref.kept hR (k1 F2 (by simp)) (fun q hq => (hO1.own F2 (by simp) q hq).2)
    obtain ⟨F2', σ2, g2, hR2, hT⟩ := D.rcrash_spec L (k + 10) o.keep o.hk hR1 (by have := hok.wl; omega) (by have := hok.wl; omega) hok.wr
    have hO2 : Owns σ0 σ2 (F :: F2' :: G2 :: [[ob], [bb]]) := hO1.turned 1 rfl hT
    have hD2 := hD1.same hT.same (hO1.off 0 1 (by omega) rfl rfl)
    have hlen : (D.lay (D.bit (o.keep : Nat)) 0 s.S s.W).length = 66 := by rw [D.lay_len]; exact hv.sl
    have key : ∃ t' km' bl', Good (rd (D.lay (D.bit (o.keep : Nat)) 0 s.S s.W)) t' km' bl' ∧ (t' ≤ s.t ∨ (t' ≤ s.t + 1 ∧ s.work ≠ none)) := by
      rcases hv.crash (D.bit (o.keep : Nat)) with hg | ⟨mk', bl', e, _, hg⟩
      · exact ⟨_, _, _, hg, .inl (Nat.le_refl _)⟩
      · exact ⟨_, _, _, hg, .inr ⟨Nat.le_refl _, by rw [e]; simp⟩⟩
    obtain ⟨t', km', bl', hg, htt⟩ := key
    obtain ⟨m', σ3, g3, hI3, k3, hinv⟩ := openGood hD2 hO2 hlen L (k + 1) hL hg (by omega)
    have hR3 : D.Ref σ3 a F2' _ _ := D.Ref.kept hR2 (k3 F2' (by simp)) (hI3.lt (by simp))
    obtain ⟨σ4, s4, hor⟩ := dopen_spec L (k + 5) hL (by simp) (by omega) hR3
    have hopn : opn (rdS (D.lay (D.bit (o.keep : Nat)) 0 s.S s.W) []) = some (t', km', bl') := hg.opn
    rw [show (o.cut != 0) = true by simpa using hc, br_true, asP_p, adr_some, r3, asI_i, g1, bnd_some, asT_t, toList0, endl_n, asP_p, adr_some, ld_at ho1 (0 + 3) (.int .u64 (o.keep : Nat)) rfl, asI_i, g2, bnd_some, asT_t, toList0, endl_n, g3, bnd_some, asT_t, toList2, uncons_c, asP_p, uncons_c, endl_n]
    rcases hor with ⟨t, mk, bl, w', G', e, g4, hDI4, hfr⟩ | ⟨e, _⟩
    rotate_left
    · rw [hopn] at e; cases e
    rw [hopn] at e
    cases e
    rw [g4, bnd_some, asT_t, toList2, uncons_c, asP_p, uncons_c, asI_i, endl_n, eqNil_nil, not_true, br_false, show ((0 : Int) != 0) = false from rfl, br_false]
    simp only [adr_some]
    have hP : PS σ0 σ4 m' d w' a ⟨D.lay (D.bit (o.keep : Nat)) 0 s.S s.W, [], t', km', bl', none⟩ [] := by
      obtain ⟨F, G, x, a1, a2, a3, a4, a5⟩ := hI3.ex
      have hO4 := a3.more s4 (F := G') (fun q hq => ⟨hfr q hq, hDI4.lt q hq⟩)
      refine ⟨F2', G', ⟨F, G, x, a1.idle s4, a2.same s4 (by simp), hO4.pick [1, 2, 3, 0] (by decide), a4, ?_⟩, hR3.idle s4, hDI4⟩
      rcases a5 with a5 | ⟨_, _, _, _, e, _⟩
      · exact .inl a5
      · cases e
    obtain ⟨σ', e, hP'⟩ := tl2_ok L k m0 hL hP hinv rfl s0 s0n s0z s45 s46
    exact ⟨m', w', _, σ', e, hP', hinv, rfl, htt⟩

theorem stepS_busy (s : IS) (mk' : Nat) (bl' : List ByteArray) {k : Nat} (hk : k ≤ 34) : (stepS s mk' bl' k).work.isSome = !decide (k = 34) := by
  unfold stepS
  by_cases h1 : k < 32
  · rw [if_pos h1, decide_eq_false (by omega)]; rfl
  rw [if_neg h1]
  by_cases h2 : k = 32
  · rw [if_pos h2, decide_eq_false (by omega)]; rfl
  rw [if_neg h2]
  by_cases h3 : k = 33
  · rw [if_pos h3, decide_eq_false (by omega)]; rfl
  rw [if_neg h3, decide_eq_true (by omega)]; rfl

/-- One step of both. -/
theorem one_step (L k : Nat) (hL : 100000 < L) {m w ob bb : Nat} (o : OpI σ0) {bl0 : List ByteArray} {t0 km0 M j : Nat} (ht0 : t0 ≤ 899) (hM : (M : Int) = o.mark) {σ : St} {s : IS} (hj : j < 35) (hP : PS σ0 σ m d w a s [[ob], [bb]]) (hF : Phase s t0 km0 bl0 M (made o.l) j) (ho : σ.get ob = some (.own (c4 o) 40)) (hb : σ.get bb = some (.own (strs (made o.l)) 43)) :
    ∃ σ1 σ2 σ3 ad z, evCall Tryz.prog env L (k + 11) 16 [ptr m] σ = some (.tuple #[.bool (decide (j = 34)), .nilIface], σ1) ∧ σ1.get bb = some (.own (strs (made o.l)) 43) ∧ evCall Tryz.prog env L (k + 11) 12 [.agg (strs (made o.l)).toArray] σ1 = some (.slice ad 32 z, σ2) ∧ σ1.get ob = some (.own (c4 o) 40) ∧ σ2.get ob = some (.own (c4 o) 40) ∧
      evCall Tryz.prog env L (k + 11) 17 [ptr w, .int .i64 j, .slice ad 32 z, .int .i64 o.mark] σ2 = some (.bool (decide (j = 34)), σ3) ∧ evCall Tryz.prog env L (k + 11) 15 [ptr m] σ3 = some (.bool (!decide (j = 34)), σ3) ∧
      PS σ0 σ3 m d w a (stepS s M (made o.l) j) [[ob], [bb]] ∧ Phase (stepS s M (made o.l) j) t0 km0 bl0 M (made o.l) (j + 1) ∧ σ3.get ob = some (.own (c4 o) 40) ∧ σ3.get bb = some (.own (strs (made o.l)) 43) := by
  obtain ⟨h1, h2, h3, h4⟩ := hF.mid hj
  obtain ⟨F2, G2, hI, hR, hDI⟩ := hP.ex
  have hml : (made o.l).length = 32 := madeUp_len _ _
  obtain ⟨v1, σ1, g1, k1, hor⟩ := step_spec hI L (k + 3) hL hF.inv.ok
  rcases hor with ⟨e, _⟩ | ⟨mk', bl', k', e, rfl, hI1⟩
  · rw [h1] at e; cases e
  rw [h1] at e; cases e
  have ho1 : σ1.get ob = _ := (k1 [ob] (by simp) ob (by simp)).trans ho
  have hb1 : σ1.get bb = _ := (k1 [bb] (by simp) bb (by simp)).trans hb
  have hR1 := D.Ref.kept hR (k1 F2 (by simp)) (hI1.lt (by simp))
  have hDI1 := DI.kept hDI (k1 G2 (by simp)) (hI1.lt (by simp))
  obtain ⟨ad, z, q, σ2, g2, hrow, hfr, s2⟩ := flat_spec L (k + 10) (by omega) σ1 hml
  have hI2 := hI1.idle s2
  have ho2 : σ2.get ob = _ := (hI1.keep s2 [ob] (by simp) ob (by simp)).trans ho1
  have hb2 : σ2.get bb = _ := (hI1.keep s2 [bb] (by simp) bb (by simp)).trans hb1
  have hdis : ∀ x ∈ F2, x ∉ G2 := by
    obtain ⟨F, G, x, a1, a2, a3, _⟩ := hI1.ex
    exact a3.off 2 3 (by omega) rfl rfl
  obtain ⟨F2', G2', σ3, g3, hR3, hDI3, σx, hT1, hT2⟩ := dstep_spec (hR1.idle s2) (hDI1.same s2 (by simp)) hdis L (k + 6) hL hF.inv.ok h1 hrow (fun x hx hxF => by have := hfr x hx; have := hI1.lt (H := F2) (by simp) x hxF; omega)
  rw [hM] at g3
  have hI3 := (hI2.turned 0 rfl hT1).turned 1 rfl hT2
  have keep3 : ∀ (i : Nat) (x : Nat), (F2 :: G2 :: [[ob], [bb]])[i + 2]? = some [x] → σ3.get x = σ2.get x := fun i x hx => by
    have hi1 := hI2.turned 0 rfl hT1
    obtain ⟨F, G, y, _, _, b3, _⟩ := hI2.ex
    obtain ⟨F', G', y', _, _, b3', _⟩ := hi1.ex
    have hx4 : (F :: G :: F2 :: G2 :: [[ob], [bb]])[i + 4]? = some [x] := hx
    have hx4' : (F' :: G' :: F2' :: G2 :: [[ob], [bb]])[i + 4]? = some [x] := hx
    rw [hT2.same.2 x (b3'.lt (i + 4) hx4' x (by simp)) (b3'.off (i + 4) 3 (by omega) hx4' rfl x (by simp)), hT1.same.2 x (b3.lt (i + 4) hx4 x (by simp)) (b3.off (i + 4) 2 (by omega) hx4 rfl x (by simp))]
  refine ⟨σ1, σ2, σ3, ad, z, g1, hb1, g2, ho1, ho2, g3, ?_, ⟨F2', G2', hI3, hR3, hDI3⟩, hF.step hj ht0, (keep3 0 ob rfl).trans ho2, (keep3 1 bb rfl).trans hb2⟩
  have := busyI_spec hI3 L (k + 10)
  rw [stepS_busy s M (made o.l) (by omega)] at this
  exact this

theorem inner (L k m0 : Nat) (hL : 100000 < L) {m w ob bb : Nat} (o : OpI σ0) {bl0 : List ByteArray} {t0 km0 M : Nat} (ht0 : t0 ≤ 899) (hM : (M : Int) = o.mark) (s0 : Option Addr) (s0n s0z : Nat) (s45 s46 : Int) :
    ∀ (n j : Nat) (σ : St) (s : IS), j ≤ 35 → 35 - j < n → PS σ0 σ m d w a s [[ob], [bb]] → Phase s t0 km0 bl0 M (made o.l) j → σ.get ob = some (.own (c4 o) 40) → σ.get bb = some (.own (strs (made o.l)) 43) →
    ∃ j' σ' s', lpAt Tryz.prog env L (k + 11) 3 [true, true, true, true, true, true, false, true, false, true, true, false, true, true, true, true, true, false, true] [m0] n [(0, .slice s0 s0n s0z), (3, ptr d), (4, ptr a), (5, ptr m), (7, ptr w), (10, ptr ob), (11, ptr bb), (12, .int .i64 0), (13, .int .i64 j), (45, .int .i64 s45), (46, .int .i64 s46)] σ =
        tl1 L (k + 11) m0 σ' s0 s0n s0z d 0 a 0 m 0 w 0 (ptr ob) s45 s46 ∧ (o.cut = 0 → j' = 35) ∧
      PS σ0 σ' m d w a s' [[ob], [bb]] ∧ Phase s' t0 km0 bl0 M (made o.l) j' ∧ σ'.get ob = some (.own (c4 o) 40)
  | 0, j, σ, s, _, h, _, _, _, _ => by omega
  | n + 1, j, σ, s, hj, hn, hP, hF, ho, hb => by
    rw [f3_l17]
    have r2 : ∀ K : Value → Res, σ.ld ob (0 + 2) K = K (.int .u8 o.cut) := fun K => ld_own K ho rfl
    rw [show ((0 : Int) == 0) = true from rfl, br_true]
    by_cases h35 : j = 35
    · rw [decide_eq_false (p := (j : Int) < 35) (by omega), br_false]
      exact ⟨j, σ, s, rfl, fun _ => h35, hP, hF, ho⟩
    · have hml : (made o.l).length = 32 := madeUp_len _ _
      obtain ⟨σ1, σ2, σ3, ad, z, g1, hb1, g2, ho1, ho2, g3, g4, hP3, hF3, ho3, hb3⟩ := one_step L k hL o ht0 hM (by omega) hP hF ho hb
      have hw : IntKind.wrap .i64 ((j : Int) + 1) = ((j + 1 : Nat) : Int) := by rw [wrap_in _ (by omega) (by omega)]; omega
      have next := inner L k m0 hL (m := m) (w := w) (ob := ob) (bb := bb) o (bl0 := bl0) (km0 := km0) (M := M) ht0 hM s0 s0n s0z s45 s46 n (j + 1) σ3 _ (by omega) (by omega) hP3 hF3 ho3 hb3
      have rm : ∀ {σx : St}, σx.get ob = some (.own (c4 o) 40) → ∀ K : Value → Res, σx.ld ob (0 + 1) K = K (.int .i64 o.mark) := fun h K => ld_own K h rfl
      have hn32 : (32 : Nat) = (strs (made o.l)).length := by rw [strs_len, hml]
      have hbb : ((!decide (j = 34)) == decide (j = 34)) = false := by cases decide (j = 34) <;> rfl
      have hee : (!(decide (j = 34) == decide (j = 34))) = false := by cases decide (j = 34) <;> rfl
      rw [decide_eq_true (p := (j : Int) < 35) (by omega), br_true, asP_p, adr_some, r2, asI_i]
      by_cases hc : o.cut = 0
      · rw [show (o.cut == 0) = true by rw [hc]; rfl, br_true, g1, bnd_some, asT_t, toList2, uncons_c, asB_b, uncons_c, endl_n, lds_all hb1 hn32, g2, bnd_some, asSl_s, asP_p, adr_some, rm ho2, asI_i, rm ho1, asI_i, chk_same, g3, bnd_some, asB_b, hee, br_false, eqNil_nil, not_true, br_false, g4, bnd_some, asB_b, hbb, br_false, hw]
        exact next
      · rw [show (o.cut == 0) = false by simpa using hc, br_false, asP_p, adr_some, r2, asI_i]
        by_cases hlt : IntKind.wrap .i64 ((j : Int) + 1) < IntKind.wrap .i64 o.cut
        · rw [decide_eq_true hlt, br_true, g1, bnd_some, asT_t, toList2, uncons_c, asB_b, uncons_c, endl_n, lds_all hb1 hn32, g2, bnd_some, asSl_s, asP_p, adr_some, rm ho2, asI_i, rm ho1, asI_i, chk_same, g3, bnd_some, asB_b, hee, br_false, eqNil_nil, not_true, br_false, g4, bnd_some, asB_b, hbb, br_false, hw]
          exact next
        · rw [decide_eq_false hlt, br_false]
          exact ⟨j, σ, s, rfl, fun h => absurd h hc, hP, hF, ho⟩

theorem outer (L k : Nat) (hL : 100000 < L) {sc : List (OpI σ0)} (hlen : sc.length ≤ 20) (hfew : ∀ o ∈ sc, o.l.length ≤ 40) {ad0 : Option Addr} (hH : Holds σ0 4 c4 ad0 sc) : ∀ (n i : Nat) (σ : St) (m w : Nat) (s : IS), i ≤ sc.length → sc.length - i < n → PS σ0 σ m d w a s [] → s.Inv → s.work = none → s.t ≤ i →
    ∃ σ', lpAt Tryz.prog env L (k + 11) 3 [true, true, true, true, true, true, false, true] [] n [(0, .slice ad0 sc.length 0), (3, ptr d), (4, ptr a), (5, ptr m), (7, ptr w), (45, .int .i64 sc.length), (46, .int .i64 i)] σ = some (.bool true, σ')
  | 0, i, σ, m, w, s, _, h, _, _, _, _ => by omega
  | n + 1, i, σ, m, w, s, hi, hn, hPS, hv, hw0, hti => by
    rw [f3_l9]
    obtain ⟨F2, G2, hI, hR, hDI⟩ := hPS.ex
    by_cases hie : i = sc.length
    · obtain ⟨q, σ1, g1, hE, _, _, s1⟩ := step_none hI hw0 L (k + 8)
      obtain ⟨σ2, g2, _⟩ := place_ok L (k + 7) (by omega) (.inr ⟨hE, by decide⟩)
      rw [decide_eq_false (by omega), br_false, g1, bnd_some, asT_t, toList2, uncons_c, asB_b, uncons_c, endl_n, g2, bnd_some, asB_b]
      exact ⟨σ2, rfl⟩
    have hget : sc[i]? = some sc[i] := List.getElem?_eq_getElem (by omega)
    have hl40 := hfew _ (List.mem_of_getElem? hget)
    obtain ⟨q0, e0, rd0⟩ := hH.lds hI.kept (fun _ => rfl) hget
    generalize sc[i] = o at rd0 hl40
    subst e0
    have hw : IntKind.wrap .i64 ((i : Int) + 1) = ((i + 1 : Nat) : Int) := by rw [wrap_in _ (by omega) (by omega)]; omega
    have ht : ∀ b : List ByteArray, (strs b).toArray.toList = strs b := fun _ => rfl
    have hml : (made o.l).length = 32 := madeUp_len _ _
    have hn32 : (32 : Nat) = (strs (made o.l)).length := by rw [strs_len, hml]
    rw [decide_eq_true (by omega), br_true, need_of (by simp [inRange]; omega), adr_some, rd0 0 4 _ (by omega) (by simp), show ((c4 o).drop 0).take 4 = c4 o from rfl]
    show ∃ σ', (uncons (c4 o) _) = _
    unfold c4
    rw [uncons_c, asSl_s, uncons_c, asI_i, uncons_c, asI_i, uncons_c, asI_i, endl_n, tmp_put2 σ [.slice none 0 0, .int .i64 0, .int .u8 0, .int .u64 0] [.slice o.ad o.l.length 0, .int .i64 o.mark, .int .u8 o.cut, .int .u64 (o.keep : Nat)] 40 rfl rfl]
    have s1 : Same σ (σ.new (.own (c4 o) 40)) [] := Same.new _ _ _
    have g1 : (σ.new (.own (c4 o) 40)).get σ.next = some (.own (c4 o) 40) := get_new_same _ _
    have n1 : (σ.new (.own (c4 o) 40)).next = σ.next + 1 := rfl
    rw [show σ.new (.own [.slice o.ad o.l.length 0, .int .i64 o.mark, .int .u8 o.cut, .int .u64 (o.keep : Nat)] 40) = σ.new (.own (c4 o) 40) from rfl]
    have hI1 : ImS σ0 (σ.new (.own (c4 o) 40)) m d s [F2, G2, [σ.next]] := by
      obtain ⟨F, G, w, a1, a2, a3, a4, a5⟩ := hI.ex
      have hO2 := a3.more s1 (F := [σ.next]) (by simp [n1])
      refine ⟨F, G, w, a1.idle s1, a2.same s1 (by simp), hO2.pick [1, 2, 3, 4, 0] (by decide), a4, ?_⟩
      rcases a5 with a5 | ⟨_, _, _, _, e, _⟩
      · exact .inl a5
      · rw [hw0] at e; cases e
    have hR1 := hR.idle s1
    have hDI1 := hDI.same s1 (by simp)
    generalize σ.new (.own (c4 o) 40) = σ1 at s1 g1 n1 hI1 hR1 hDI1
    generalize hob : σ.next = ob at hI1 g1
    obtain ⟨σ2, e2, s2⟩ := made_spec L (k + 10) (by omega) (l := o.l) ⟨by omega, by omega⟩ o.hs hI1.kept 0
    have hI2 := hI1.idle s2
    have ho2 : σ2.get ob = _ := (hI1.keep s2 [ob] (by simp) ob (by simp)).trans g1
    have r0 : ∀ K : Value → Res, σ1.ld ob 0 K = K (.slice o.ad o.l.length 0) := fun K => ld_own K g1 rfl
    rw [r0, asSl_s, e2, bnd_some, asAgL_a, ht, need_of (by rw [strs_len, hml]; rfl), lit32, tmp_put2 σ2 (strs noBlocks) (strs (made o.l)) 43 (by rw [strs_len, strs_len, hml]; rfl) (strs_one _)]
    have s3 : Same σ2 (σ2.new (.own (strs (made o.l)) 43)) [] := Same.new _ _ _
    have g3 : (σ2.new (.own (strs (made o.l)) 43)).get σ2.next = some (.own (strs (made o.l)) 43) := get_new_same _ _
    have n3 : (σ2.new (.own (strs (made o.l)) 43)).next = σ2.next + 1 := rfl
    have hI3 : ImS σ0 (σ2.new (.own (strs (made o.l)) 43)) m d s [F2, G2, [ob], [σ2.next]] := by
      obtain ⟨F, G, w, a1, a2, a3, a4, a5⟩ := hI2.ex
      have hO2 := a3.more s3 (F := [σ2.next]) (by simp [n3])
      refine ⟨F, G, w, a1.idle s3, a2.same s3 (by simp), hO2.pick [1, 2, 3, 4, 5, 0] (by decide), a4, ?_⟩
      rcases a5 with a5 | ⟨_, _, _, _, e, _⟩
      · exact .inl a5
      · rw [hw0] at e; cases e
    have ho3 : (σ2.new (.own (strs (made o.l)) 43)).get ob = _ := (hI2.keep s3 [ob] (by simp) ob (by simp)).trans ho2
    have hR3 := (hR1.idle s2).idle s3
    have hDI3 := (hDI1.same s2 (by simp)).same s3 (by simp)
    generalize σ2.new (.own (strs (made o.l)) 43) = σ3 at s3 g3 n3 hI3 ho3 hR3 hDI3
    generalize hbb : σ2.next = bb at hI3 g3
    obtain ⟨fad, fz, fq, σ4, e4, hrow, hfr, s4⟩ := flat_spec L (k + 10) (by omega) σ3 hml
    have hI4 := hI3.idle s4
    have ho4 : σ4.get ob = _ := (hI3.keep s4 [ob] (by simp) ob (by simp)).trans ho3
    have hb4 : σ4.get bb = _ := (hI3.keep s4 [bb] (by simp) bb (by simp)).trans g3
    have hR4 := hR3.idle s4
    have hDI4 := hDI3.same s4 (by simp)
    have gb := dbegin_spec L (k + 10) (by omega) hDI4 hrow hml o.mark
    obtain ⟨v5, σ5, g5, k5, hor⟩ := begin_spec hI4 L (k + 7) hL hv.ok hml o.mark
    have ho5 : σ5.get ob = _ := (k5 [ob] (by simp) ob (by simp)).trans ho4
    have hb5 : σ5.get bb = _ := (k5 [bb] (by simp) bb (by simp)).trans hb4
    have r1 : ∀ {σx : St}, σx.get ob = some (.own (c4 o) 40) → ∀ K : Value → Res, σx.ld ob 1 K = K (.int .i64 o.mark) := fun h K => ld_own K h rfl
    rw [lds_all g3 hn32, e4, bnd_some, asSl_s, r1 ho4, asI_i, r1 ho3, asI_i, chk_same, gb, bnd_some, asI_i, lds_all hb4 hn32, r1 ho4, asI_i, g5, bnd_some, r1 ho5, asI_i, r1 ho4, asI_i, chk_same]
    have top_eq : top = 1152921504606846975 := rfl
    -- what follows, for each answer
    have fin : ∀ {σ6 : St} {s6 : IS}, PS σ0 σ6 m d w a s6 [[ob], [bb]] → s6.Inv → s6.t ≤ i + 1 → (o.cut = 0 → s6.work = none) → (s6.work = none ∨ s6.t ≤ i) → σ6.get ob = some (.own (c4 o) 40) →
        ∃ σ', tl1 L (k + 11) n σ6 (some ⟨q0, 0, none⟩) sc.length 0 d 0 a 0 m 0 w 0 (ptr ob) sc.length i = some (.bool true, σ') := by
      intro σ6 s6 hP6 hv6 ht6 hcw hwt ho6
      obtain ⟨m', w', s7, σ7, e7, hP7, hv7, hw7, ht7⟩ := tl1_ok L k n hL hP6 hv6 (by omega) o ho6 hcw (some ⟨q0, 0, none⟩) sc.length 0 sc.length i
      rw [hw] at e7
      have hti7 : s7.t ≤ i + 1 := by
        rcases ht7 with h | ⟨h, h'⟩
        · omega
        · rcases hwt with hx | hx
          · exact absurd hx h'
          · omega
      obtain ⟨σ', e8⟩ := outer L k hL hlen hfew hH n (i + 1) σ7 m' w' s7 (by omega) (by omega) hP7 hv7 hw7 hti7
      exact ⟨σ', e7.trans e8⟩
    have refused : ∀ {c : Int}, c ≠ 0 → Err σ5 v5 c o.mark → ImS σ0 σ5 m d s [F2, G2, [ob], [bb]] → ∃ σ', (bnd (evCall Tryz.prog env L (k + 11) 13 [v5, .int .i64 o.mark, .int .i64 c] σ5) fun v49 v50 => asB v49 fun v51 => br (!v51) (some (Value.bool false, v50)) (bnd (evCall Tryz.prog env L (k + 11) 15 [ptr m] v50) fun v52 v53 => asB v52 fun v54 => br (!(v54 == (c == 0))) (some (Value.bool false, v53))
        (lpAt Tryz.prog env L (k + 11) 3 [true, true, true, true, true, true, false, true, false, true, true, false, true, true, true, true, true, false, true] [n] L [(0, .slice (some ⟨q0, 0, none⟩) sc.length 0), (3, ptr d), (4, ptr a), (5, ptr m), (7, ptr w), (10, ptr ob), (11, ptr bb), (12, .int .i64 c), (13, .int .i64 0), (45, .int .i64 sc.length), (46, .int .i64 i)] v53))) = some (.bool true, σ') := by
      intro c hc hE hI5
      obtain ⟨σ6, g6, s6⟩ := place_ok L (k + 7) (by omega) (.inr ⟨hE, hc⟩)
      have hb := busyI_spec (hI5.idle s6) L (k + 10)
      rw [hw0] at hb
      rw [g6, bnd_some, asB_b, not_true, br_false, hb, bnd_some, asB_b, show (c == 0) = false by simpa using hc, show (!((none : Option (Nat × List ByteArray × Nat)).isSome == false)) = false from rfl, br_false]
      obtain ⟨L', rfl⟩ : ∃ L', L = L' + 1 := ⟨L - 1, by omega⟩
      rw [f3_l17, show (c == 0) = false by simpa using hc, br_false]
      have hP6 : PS σ0 σ6 m d w a s [[ob], [bb]] := ⟨F2, G2, hI5.idle s6, (D.Ref.kept hR4 (k5 F2 (by simp)) (hI5.lt (by simp))).idle s6, (DI.kept hDI4 (k5 G2 (by simp)) (hI5.lt (by simp))).same s6 (by simp)⟩
      exact fin hP6 hv (by omega) (fun _ => hw0) (.inl hw0) ((hI5.keep s6 [ob] (by simp) ob (by simp)).trans ho5)
    rcases hor with ⟨e, _⟩ | ⟨_, hbad, hE, hI5⟩ | ⟨_, b1, b2, b3, hE, hI5⟩ | ⟨_, b1, b2, b3, rfl, hI5⟩
    · exact absurd hw0 e
    · rw [if_pos (hbad.imp id (fun h => by rw [top_eq] at h; omega))]
      exact refused (by decide) hE hI5
    · rw [if_neg (by rw [b1]; rintro (h | h); cases h; have : o.mark ≤ (top : Nat) := b2; rw [top_eq] at this; omega), if_pos b3]
      exact refused (by decide) hE hI5
    · rw [if_neg (by rw [b1]; rintro (h | h); cases h; have : o.mark ≤ (top : Nat) := b2; rw [top_eq] at this; omega), if_neg (by omega)]
      have hP := Phase.start hv hw0 hml b1 b2 b3
      have hM : ((o.mark.toNat : Nat) : Int) = o.mark := by have : (s.km : Int) < o.mark := b3; omega
      obtain ⟨σ6, g6, s6⟩ := place_ok L (k + 7) (by omega) (σ := σ5) (v := .nilIface) (c := 0) (a := o.mark) (.inl ⟨rfl, rfl⟩)
      have hb := busyI_spec (hI5.idle s6) L (k + 10)
      have hP6 : PS σ0 σ6 m d w a { s with work := some (o.mark.toNat, made o.l, 0) } [[ob], [bb]] := ⟨F2, G2, hI5.idle s6, (D.Ref.kept hR4 (k5 F2 (by simp)) (hI5.lt (by simp))).idle s6, (DI.kept hDI4 (k5 G2 (by simp)) (hI5.lt (by simp))).same s6 (by simp)⟩
      rw [g6, bnd_some, asB_b, not_true, br_false, hb, bnd_some, asB_b, show ((0 : Int) == 0) = true from rfl, show (!((some (o.mark.toNat, made o.l, 0) : Option (Nat × List ByteArray × Nat)).isSome == true)) = false from rfl, br_false]
      obtain ⟨j', σ7, s7, e7, hj7, hP7, hF7, ho7⟩ := inner L k n hL (m := m) (w := w) (ob := ob) (bb := bb) o (t0 := s.t) (by omega) hM (some ⟨q0, 0, none⟩) sc.length 0 sc.length i L 0 σ6 _ (by omega) (by omega) hP6 hP ((hI5.keep s6 [ob] (by simp) ob (by simp)).trans ho5) ((hI5.keep s6 [bb] (by simp) bb (by simp)).trans hb5)
      have hle := hF7.le
      have ht7 : s7.t ≤ i + 1 ∧ (s7.work = none ∨ s7.t ≤ i) ∧ (o.cut = 0 → s7.work = none) := by
        by_cases h35 : j' = 35
        · obtain ⟨h1, h2, h3, h4⟩ := hF7.fin h35
          exact ⟨by omega, .inl h1, fun _ => h1⟩
        · obtain ⟨h1, h2, h3, h4⟩ := hF7.mid (by omega)
          exact ⟨by omega, .inr (by omega), fun h => absurd (hj7 h) h35⟩
      obtain ⟨σ', e8⟩ := fin hP7 hF7.inv ht7.1 ht7.2.2 ht7.2.1 ho7
      exact ⟨σ', e7.trans e8⟩
end

theorem plays_holds (L k : Nat) (hL : 100000 < L) {σ0 : St} {ad0 : Option Addr} {sc : List (OpI σ0)} (hH : Holds σ0 4 c4 ad0 sc) : ∃ σ', evCall Tryz.prog env L (k + 12) 3 [.slice ad0 sc.length 0] σ0 = some (.bool true, σ') := by
  rw [f3_eq]
  have hend : ∀ σ2, ∃ σ', (bnd (evCall Tryz.prog env L (k + 11) 4 [] σ2) fun v10 v11 => asB v10 fun v12 => some (Value.bool v12, v11)) = some (.bool true, σ') := by
    intro σ2
    obtain ⟨σ3, g3, _⟩ := awake_spec L k hL σ2
    rw [g3, bnd_some, asB_b]; exact ⟨σ3, rfl⟩
  obtain ⟨σ1, g1, s1⟩ := awake_spec L k hL σ0
  have hO1 := (Owns.start σ0).idle s1
  rw [g1, bnd_some, asB_b, not_true, br_false]
  obtain ⟨b, g2, hb⟩ := few_spec L (k + 10) (by omega) (z := 0) (reads_ops hH hO1.kept)
  rw [List.length_map] at g2
  rw [g2, bnd_some, asB_b]
  cases b with
  | false => rw [not_false, br_true]; exact hend σ1
  | true =>
  obtain ⟨h20, hall⟩ := hb rfl
  rw [List.length_map] at h20
  rw [not_true, br_false]
  obtain ⟨d, F, σ2, g3, hD2, hO2, _⟩ := new66 L (k + 10) hO1
  obtain ⟨a, F2, σ3, g4, hR3, s3, hf3⟩ := D.rnew_spec L (k + 10) (by omega) σ2 66 (by omega)
  have hO3 : Owns σ0 σ3 (F :: F2 :: []) := (hO2.more s3 (F := F2) (fun q hq => ⟨hf3 q hq, hR3.lt q hq⟩)).flip
  obtain ⟨m, σ4, g5, hI4, k4, hinv⟩ := openGood (hD2.idle s3) hO3 (by unfold fresh66; simp) L (k + 1) hL good66 (by omega)
  have hR4 : D.Ref σ4 a F2 fresh66 [] := D.Ref.kept hR3 (k4 F2 (by simp)) (hI4.lt (by simp))
  obtain ⟨σ5, s5, hor⟩ := dopen_spec L (k + 5) hL (by simp) (by unfold fresh66; simp) hR4
  have hopn : opn (rdS fresh66 []) = some (0, 0, noBlocks) := good66.opn
  have g4' : evCall Tryz.prog env L (k + 11) 7 [.int .i64 66] σ2 = _ := g4
  rw [g3, bnd_some, asP_p, g4', bnd_some, asP_p, g5, bnd_some, asT_t, toList2, uncons_c, asP_p, uncons_c, endl_n]
  rcases hor with ⟨t, mk, bl, w, G', e, g6, hDI5, hfr⟩ | ⟨e, _⟩
  rotate_left
  · rw [hopn] at e; cases e
  rw [hopn] at e
  cases e
  rw [g6, bnd_some, asT_t, toList2, uncons_c, asP_p, uncons_c, asI_i, endl_n, eqNil_nil, not_true, br_false, show ((0 : Int) != 0) = false from rfl, br_false]
  have hP : PS σ0 σ5 m d w a ⟨fresh66, [], 0, 0, noBlocks, none⟩ [] := by
    obtain ⟨F, G, x, a1, a2, a3, a4, a5⟩ := hI4.ex
    have hO5 := a3.more s5 (F := G') (fun q hq => ⟨hfr q hq, hDI5.lt q hq⟩)
    refine ⟨F2, G', ⟨F, G, x, a1.idle s5, a2.same s5 (by simp), hO5.pick [1, 2, 3, 0] (by decide), a4, ?_⟩, hR4.idle s5, hDI5⟩
    rcases a5 with a5 | ⟨_, _, _, _, e, _⟩
    · exact .inl a5
    · cases e
  exact outer L k hL h20 (fun o ho => (hall (o.ad, 0, o.l) (List.mem_map.2 ⟨o, ho, rfl⟩)).1) hH L 0 _ m w _ (by omega) (by omega) hP hinv rfl (by simp)
end Go.AM.Iz
