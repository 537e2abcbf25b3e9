/-
  DiskPlays, in plain words.
-/
import Derived.Test.YtkgpnhkildoeoaaDoorDkF
set_option linter.unusedVariables false
set_option linter.unusedSimpArgs false
set_option linter.unusedSectionVars false
namespace Go.AM.Dk
open Go.Proofs

abbrev P8 : List Bool := [true, true, true, true, true, false, true]
abbrev P30 : List Bool := [true, true, true, true, true, true, false, true]

def Ans (σ : St) (v : Value) (c : Int) : Prop := (c = 0 ∧ v = .nilIface) ∨ ∃ at_, Err σ v c at_
theorem Ans.same {σ σ' : St} {v : Value} {c : Int} {S : List Nat} (h : Ans σ v c) (hs : Same σ σ' S) (hS : S = [] := by rfl) : Ans σ' v c := h.imp id (fun ⟨a, h⟩ => ⟨a, h.same hs hS⟩)
theorem code_ans (L k : Nat) {σ : St} {v : Value} {c : Int} (h : Ans σ v c) : ∃ σ', evCall Tryd.prog env L (k + 2) 19 [v] σ = some (.int .i64 c, σ') ∧ Same σ σ' [] := by
  rcases h with ⟨rfl, rfl⟩ | ⟨a, h⟩
  · exact code_nil L k σ
  · exact code_spec L k h

/-- All sectors, read at the end. -/
theorem l30 (L k : Nat) (hL : 400 < L) {a b N : Nat} {F G : List Nat} {S : List Sec} {W : List Lw} {σs : St} (hS : S.length = N) (hN : N ≤ 20) (hW : W.length ≤ 150) (hD : Disk σs a F S W) (hR : Ref σs b G S W) :
    ∀ (n j : Nat) (σ : St), j ≤ N → N - j < n → Same σs σ [] →
    ∃ σ9, lpAt Tryd.prog env L (k + 4) 5 P30 [] n [(6, ptr a), (7, ptr b), (121, .int .i64 (N : Nat)), (122, .int .i64 j)] σ = some (.bool true, σ9)
  | 0, j, σ, _, h, _ => by omega
  | n + 1, j, σ, hj, h, hs => by
    rw [f5_l30]
    by_cases hje : j = N
    · rw [decide_eq_false (by omega), br_false]
      exact ⟨σ, rfl⟩
    · have hsj : S[j]? = some (S[j]'(by omega)) := List.getElem?_eq_getElem (by omega)
      generalize S[j]'(by omega) = s at hsj
      obtain ⟨t1, σ1, g1, h1, ht1, ht1', s1⟩ := read_ok L (k + 1) (hD.idle hs) (by omega) (by omega) hsj
      rcases rread_spec ((hR.idle hs).idle s1) L (k + 3) (by omega) (by omega) (j : Nat) with ⟨s', _, _, e', g2⟩ | ⟨hx, _⟩
      rotate_left
      · exact absurd ⟨by omega, by omega⟩ hx
      rw [Int.toNat_natCast, hsj] at e'
      cases e'
      have hw : IntKind.wrap .i64 ((j : Int) + 1) = ((j + 1 : Nat) : Int) := by rw [wrap_in _ (by omega) (by omega)]; omega
      rw [decide_eq_true (by omega), br_true, g1, bnd_some, asT_t, toList2, uncons_c, asSl_s, uncons_c, endl_n, g2, bnd_some, asT_t, toList2, uncons_c, asS_s, uncons_c, asI_i, endl_n, (Bytes.own h1 ht1').row 64 (look (j : Nat) s W).2.symm, asBy_by8, show str (look (j : Nat) s W) = ⟨(look (j : Nat) s W).1.toArray⟩ from rfl, beq_self_eq_true, not_true, br_false, hw]
      exact l30 L k hL hS hN hW hD hR n (j + 1) σ1 (by omega) (by omega) (hs.trans s1)

set_option maxRecDepth 20000 in
theorem plays (L k : Nat) (hL : 400 < L) {σ0 : St} {ad : Option Addr} {sp : List Op} (hlen : sp.length ≤ 150) (hsz : ∀ o ∈ sp, o.b.size ≤ 300) (hkp : ∀ o ∈ sp, 0 ≤ o.keep ∧ o.keep ≤ 18446744073709551615) (hH : Holds σ0 4 c4 ad sp) {a b N : Nat} (hN : N ≤ 20) : ∀ (n i : Nat) (σ : St) (F G : List Nat) (S : List Sec) (W : List Lw),
    i ≤ sp.length → sp.length - i < n → Disk σ a F S W → Ref σ b G S W → Owns σ0 σ [F, G] → S.length = N → W.length ≤ i → InR N W →
    ∃ σ9, lpAt Tryd.prog env L (k + 4) 5 P8 [] n [(1, .slice ad sp.length 0), (5, .int .i64 (N : Nat)), (6, ptr a), (7, ptr b), (43, .int .i64 sp.length), (44, .int .i64 i)] σ = some (.bool true, σ9)
  | 0, i, σ, F, G, S, W, _, h, _, _, _, _, _, _ => by omega
  | n + 1, i, σ, F, G, S, W, hi, h, hD, hR, hO, hS, hW, hin => by
    rw [f5_l8]
    by_cases hie : i = sp.length
    · rw [decide_eq_false (by omega), br_false]
      exact l30 L k hL hS hN (by omega) hD hR L 0 σ (by omega) (by omega) (Same.refl _ _)
    · have hget : sp[i]? = some sp[i] := List.getElem?_eq_getElem (by omega)
      obtain ⟨q0, e0, hlds⟩ := hH.lds hO.kept c4_len hget
      have hosz := hsz _ (List.mem_of_getElem? hget)
      have hokp := hkp _ (List.mem_of_getElem? hget)
      generalize sp[i] = o at hlds hosz hokp
      have hw : IntKind.wrap .i64 ((i : Int) + 1) = ((i + 1 : Nat) : Int) := by rw [wrap_in _ (by omega) (by omega)]; omega
      rw [decide_eq_true (by omega), br_true, need_of (by simp [inRange]; omega), e0, adr_some, hlds 0 4 (0 + (i : Int).toNat * 4) (by omega) (by simp), show ((c4 o).drop 0).take 4 = [.int .i64 o.kind, .int .i64 o.i, .int .u64 o.keep, .string o.b] from rfl,
        uncons_c, asI_i, uncons_c, asI_i, uncons_c, asI_i, uncons_c, asS_s, endl_n, tmp_put2 _ [.int .i64 0, .int .i64 0, .int .u64 0, .string ⟨#[]⟩] [.int .i64 o.kind, .int .i64 o.i, .int .u64 o.keep, .string o.b] _ rfl rfl, ← e0, hw]
      generalize hσ1 : σ.new (.own [.int .i64 o.kind, .int .i64 o.i, .int .u64 o.keep, .string o.b] 30) = σ1
      have ht1 : σ1.get σ.next = some (.own [.int .i64 o.kind, .int .i64 o.i, .int .u64 o.keep, .string o.b] 30) := by rw [← hσ1, get_new_same]
      have s1 : Same σ σ1 [] := by rw [← hσ1]; exact Same.new _ _ _
      have n1 : σ1.next = σ.next + 1 := by rw [← hσ1]; rfl
      have hO1 : Owns σ0 σ1 [F, G, [σ.next]] := (hO.more s1 (F := [σ.next]) (fun q hq => by simp at hq; subst hq; omega)).pick [1, 2, 0] (by decide)
      have hD1 := hD.idle s1
      have hR1 := hR.idle s1
      have tmp : ∀ {σ' : St} {S : List Nat}, Same σ1 σ' S → σ.next ∉ S → σ'.get σ.next = some (.own [.int .i64 o.kind, .int .i64 o.i, .int .u64 o.keep, .string o.b] 30) := fun hs hS => by rw [hs.2 _ (by omega) hS]; exact ht1
      have ne1 : σ.next ∉ F := fun hx => by have := hD.lt _ hx; omega
      have ne2 : σ.next ∉ G := fun hx => by have := hR.lt _ hx; omega
      have bb : ∀ x : Int, (x != x) = false := fun x => by simp
      have go : ∀ (σ2 : St) (F' G' : List Nat) (S' : List Sec) (W' : List Lw), Disk σ2 a F' S' W' → Ref σ2 b G' S' W' → Owns σ0 σ2 [F', G', [σ.next]] → S'.length = N → W'.length ≤ i + 1 → InR N W' →
          evCall Tryd.prog env L (k + 4) 24 [ptr a] σ2 = some (.int .i64 W'.length, σ2) ∧ (∃ ad z, ∀ K : Value → Res, σ2.ld b (0 + 1) K = K (.slice ad W'.length z)) ∧
          ∃ σ9, lpAt Tryd.prog env L (k + 4) 5 P8 [] n [(1, .slice ad sp.length 0), (5, .int .i64 (N : Nat)), (6, ptr a), (7, ptr b), (43, .int .i64 sp.length), (44, .int .i64 (i + 1 : Nat))] σ2 = some (.bool true, σ9) := fun σ2 F' G' S' W' h1 h2 h3 h4 h5 h6 => by
        refine ⟨loose_spec h1 L (k + 3), ?_, plays L k hL hlen hsz hkp hH hN n (i + 1) σ2 F' G' S' W' (by omega) (by omega) h1 h2 (h3.pick [0, 1] (by decide)) h4 h5 h6⟩
        obtain ⟨q1, q2, ad1, z1, ad2, z2, _, hg, _⟩ := h2.ex
        exact ⟨ad2, z2, fun K => ld_at hg (0 + 1) _ rfl K⟩
      rw [ld_at ht1 0 _ rfl, asI_i]
      by_cases k1 : o.kind = 1
      · -- Write
        rw [k1, show ((1 : Int) == 1) = true from rfl, br_true, ld_at ht1 1 _ rfl, asI_i, ld_at ht1 3 _ rfl, asS_s, need_of (by simp; omega), byteCells_by8]
        generalize hσ2 : σ1.new (.ro (by8 o.b.data.toList)) = σ2
        have g2 : σ2.get σ1.next = some (.ro (by8 o.b.data.toList)) := by rw [← hσ2, get_new_same]
        have s2 : Same σ1 σ2 [] := by rw [← hσ2]; exact Same.new _ _ _
        have n2 : σ2.next = σ1.next + 1 := by rw [← hσ2]; rfl
        have B2 := Bytes.ro g2 (by omega)
        have hO2 := hO1.idle s2
        have hD2 := hD1.idle s2
        have hR2 := hR1.idle s2
        have ht2 := tmp s2 (by simp)
        have hbs : o.b.size = o.b.data.toList.length := by rw [Array.length_toList]; rfl
        obtain ⟨v, σ3, g3, h3⟩ := write_spec hD2 L (k + 1) (z := 0) B2 (by omega) o.i
        rw [← hbs] at g3
        have main : ∃ (c : Int) (F3 : List Nat) (W3 : List Lw), Ans σ3 v c ∧ Disk σ3 a F3 S W3 ∧ Owns σ0 σ3 [F3, G, [σ.next]] ∧ Same σ2 σ3 F ∧ W3.length ≤ i + 1 ∧ InR N W3 ∧
            (∀ σ4, Ref σ4 b G S W → ∃ G5 σ5, evCall Tryd.prog env L (k + 4) 20 [ptr b, .int .i64 o.i, .string o.b] σ4 = some (.int .i64 c, σ5) ∧ Ref σ5 b G5 S W3 ∧ Turn σ4 σ5 G G5) := by
          rcases h3 with ⟨F', hl, i0, i1, rfl, hD3, hT3⟩ | ⟨hx, he, hs3⟩ | ⟨hx, hl, he, hs3⟩
          · refine ⟨0, F', _, .inl ⟨rfl, rfl⟩, hD3, hO2.turned 0 rfl hT3, hT3.same, by simp; omega, hin.snoc i0 (by omega) _, fun σ4 hR4 => ?_⟩
            obtain ⟨c, σ5, g, h4⟩ := rwrite_spec hR4 L (k + 3) (by omega) o.i o.b
            rcases h4 with ⟨G', hl', rfl, _, _, hR5, hT5⟩ | ⟨hx, _⟩ | ⟨_, hx, _⟩
            · exact ⟨G', σ5, g, hR5, hT5⟩
            · exact absurd ⟨i0, i1⟩ hx
            · exact absurd hl hx
          · refine ⟨5, F, W, .inr ⟨_, he⟩, hD2.idle hs3, hO2.idle hs3, hs3.mono (by simp), by omega, hin, fun σ4 hR4 => ?_⟩
            obtain ⟨c, σ5, g, h4⟩ := rwrite_spec hR4 L (k + 3) (by omega) o.i o.b
            rcases h4 with ⟨G', hl', rfl, i0, i1, _⟩ | ⟨_, rfl, rfl⟩ | ⟨i0, _⟩
            · exact absurd ⟨i0, i1⟩ hx
            · exact ⟨G, σ5, g, hR4, .idle (Same.refl _ _) hR4.lt⟩
            · exact absurd i0 hx
          · refine ⟨1, F, W, .inr ⟨_, he⟩, hD2.idle hs3, hO2.idle hs3, hs3.mono (by simp), by omega, hin, fun σ4 hR4 => ?_⟩
            obtain ⟨c, σ5, g, h4⟩ := rwrite_spec hR4 L (k + 3) (by omega) o.i o.b
            rcases h4 with ⟨G', hl', _⟩ | ⟨i0, _⟩ | ⟨_, _, rfl, rfl⟩
            · exact absurd hl' hl
            · exact absurd hx i0
            · exact ⟨G, σ5, g, hR4, .idle (Same.refl _ _) hR4.lt⟩
        clear h3
        obtain ⟨c, F3, W3, e3, hD3, hO3, s3, hW3, hin3, hr⟩ := main
        have ht3 : σ3.get σ.next = _ := (s3.2 _ (by omega) ne1).trans ht2
        have hR3 := hR2.same s3 (hO2.off 1 0 (by omega) rfl rfl)
        obtain ⟨σ4, g4, s4⟩ := code_ans L (k + 2) e3
        have ht4 : σ4.get σ.next = _ := (s4.2 _ (by have := s3.1; omega) (by simp)).trans ht3
        obtain ⟨G5, σ5, g5, hR5, hT5⟩ := hr σ4 (hR3.idle s4)
        have hO5 := (hO3.idle s4).turned 1 rfl hT5
        have hD5 := (hD3.idle s4).same hT5.same ((hO3.idle s4).off 0 1 (by omega) rfl rfl)
        obtain ⟨t1, ⟨ad9, z9, t2⟩, σ9, t3⟩ := go σ5 F3 G5 S W3 hD5 hR5 hO5 hS hW3 hin3
        simp only [ld_at ht1 1 _ rfl, ld_at ht1 3 _ rfl, ld_at ht2 1 _ rfl, ld_at ht2 3 _ rfl, ld_at ht3 1 _ rfl, ld_at ht3 3 _ rfl, ld_at ht4 1 _ rfl, ld_at ht4 3 _ rfl, asI_i, asS_s, chk_same, g3, g4, g5, bnd_some, bb, br_false, t1, t2, asSl_s]
        exact ⟨σ9, t3⟩
      · rw [show (o.kind == 1) = false by simpa using k1, br_false]
        by_cases k2 : o.kind = 2
        · -- Read
          rw [k2, show ((2 : Int) == 2) = true from rfl, br_true, ld_at ht1 1 _ rfl, asI_i]
          obtain ⟨v, σ2, g2, s2, h2⟩ := read_spec hD1 L (k + 1) (by omega) (by omega) o.i
          have ht2 := tmp s2 (by simp)
          have hD2 := hD1.idle s2
          have hR2 := hR1.idle s2
          have hO2 := hO1.idle s2
          rcases h2 with ⟨s, t, i0, i1, hs, rfl, ht, hn1, hn2⟩ | ⟨v', hx, rfl, he⟩
          · rcases rread_spec hR2 L (k + 3) (by omega) (by omega) o.i with ⟨s', _, _, e', g3⟩ | ⟨hx, _⟩
            rotate_left
            · exact absurd ⟨i0, i1⟩ hx
            rw [hs] at e'
            cases e'
            obtain ⟨σ4, g4, s4⟩ := code_nil L (k + 2) σ2
            obtain ⟨t1, ⟨ad9, z9, t2⟩, σ9, t3⟩ := go σ4 F G S W (hD2.idle s4) (hR2.idle s4) (hO2.idle s4) hS (by omega) hin
            rw [g2, bnd_some, asT_t, toList2, uncons_c, asSl_s, uncons_c, endl_n, ld_at ht2 1 _ rfl, asI_i, g3, bnd_some, asT_t, toList2, uncons_c, asS_s, uncons_c, asI_i, endl_n, (Bytes.own ht hn2).row 64 (look o.i s W).2.symm, asBy_by8, show str (look o.i s W) = ⟨(look o.i s W).1.toArray⟩ from rfl, beq_self_eq_true, not_true, br_false, g4, bnd_some, asI_i, bb, br_false, t1, bnd_some, asI_i, t2, asSl_s, t2, asSl_s, chk_same, bb, br_false]
            exact ⟨σ9, t3⟩
          · rcases rread_spec hR2 L (k + 3) (by omega) (by omega) o.i with ⟨s', i0, i1, _⟩ | ⟨_, g3⟩
            · exact absurd ⟨i0, i1⟩ hx
            obtain ⟨σ4, g4, s4⟩ := code_spec L (k + 2) he
            obtain ⟨t1, ⟨ad9, z9, t2⟩, σ9, t3⟩ := go σ4 F G S W (hD2.idle s4) (hR2.idle s4) (hO2.idle s4) hS (by omega) hin
            have hrow : ∀ K : List Value → Res, σ2.row none 0 K = K [] := fun K => rfl
            have hby : ∀ K : List UInt8 → Res, asBy [] K = K [] := fun K => rfl
            rw [g2, bnd_some, asT_t, toList2, uncons_c, asSl_s, uncons_c, endl_n, ld_at ht2 1 _ rfl, asI_i, g3, bnd_some, asT_t, toList2, uncons_c, asS_s, uncons_c, asI_i, endl_n, hrow, hby, show (⟨([] : List UInt8).toArray⟩ : ByteArray) = ⟨#[]⟩ from rfl, beq_self_eq_true, not_true, br_false, g4, bnd_some, asI_i, bb, br_false, t1, bnd_some, asI_i, t2, asSl_s, t2, asSl_s, chk_same, bb, br_false]
            exact ⟨σ9, t3⟩
        · rw [show (o.kind == 2) = false by simpa using k2, br_false]
          by_cases k3 : o.kind = 3
          · -- Flush
            obtain ⟨F2, σ2, g2, hD2, hT2⟩ := flush_spec L (k + 1) hD1 (by omega) (by omega) (by rw [hS]; exact hin)
            have hO2 := hO1.turned 0 rfl hT2
            obtain ⟨G3, σ3, g3, hR3, hT3⟩ := rflush_spec L (k + 3) (hR1.same hT2.same (hO1.off 1 0 (by omega) rfl rfl)) (by omega) (by omega) (by rw [hS]; exact hin)
            have hO3 := hO2.turned 1 rfl hT3
            obtain ⟨t1, ⟨ad9, z9, t2⟩, σ9, t3⟩ := go σ3 F2 G3 _ _ (hD2.same hT3.same (hO2.off 0 1 (by omega) rfl rfl)) hR3 hO3 (by rw [lay_len]; exact hS) (by simp) (InR.nil _)
            rw [k3, show ((3 : Int) == 3) = true from rfl, br_true, g2, bnd_some, asT_t, toList0, endl_n, g3, bnd_some, asT_t, toList0, endl_n, t1, bnd_some, asI_i, t2, asSl_s, t2, asSl_s, chk_same, bb, br_false]
            exact ⟨σ9, t3⟩
          · rw [show (o.kind == 3) = false by simpa using k3, br_false]
            by_cases k4 : o.kind = 4
            · -- Crash
              obtain ⟨x, hx⟩ := Int.eq_ofNat_of_zero_le hokp.1
              obtain ⟨F2, σ2, g2, hD2, hT2⟩ := crash_spec L (k + 1) hD1 (by omega) (by omega) (by rw [hS]; exact hin) o.keep
              have hO2 := hO1.turned 0 rfl hT2
              have ht2 := tmp hT2.same ne1
              obtain ⟨G3, σ3, g3, hR3, hT3⟩ := rcrash_spec L (k + 3) x (by omega) (hR1.same hT2.same (hO1.off 1 0 (by omega) rfl rfl)) (by omega) (by omega) (by rw [hS]; exact hin)
              have hO3 := hO2.turned 1 rfl hT3
              rw [hx] at hD2 ht1 ht2
              rw [hx] at g2
              obtain ⟨t1, ⟨ad9, z9, t2⟩, σ9, t3⟩ := go σ3 F2 G3 _ _ (hD2.same hT3.same (hO2.off 0 1 (by omega) rfl rfl)) hR3 hO3 (by rw [lay_len]; exact hS) (by simp) (InR.nil _)
              rw [k4, show ((4 : Int) == 4) = true from rfl, br_true, ld_at ht1 2 _ rfl, asI_i, g2, bnd_some, asT_t, toList0, endl_n, ld_at ht2 2 _ rfl, asI_i, g3, bnd_some, asT_t, toList0, endl_n, t1, bnd_some, asI_i, t2, asSl_s, t2, asSl_s, chk_same, bb, br_false]
              exact ⟨σ9, t3⟩
            · rw [show (o.kind == 4) = false by simpa using k4, br_false]
              obtain ⟨t1, ⟨ad9, z9, t2⟩, σ9, t3⟩ := go σ1 F G S W hD1 hR1 hO1 hS (by omega) hin
              rw [t1, bnd_some, asI_i, t2, asSl_s, t2, asSl_s, chk_same, bb, br_false]
              exact ⟨σ9, t3⟩

theorem holds_map {α β : Type} {σ : St} {sz : Nat} {cells : β → List Value} (f : α → β) {ad : Option Addr} {l : List α} (h : Holds σ sz (fun a => cells (f a)) ad l) : Holds σ sz cells ad (l.map f) := by
  intro hne
  obtain ⟨q, vs, e, hc, hq, hl, hg⟩ := h (fun e => hne (by rw [e]; rfl))
  refine ⟨q, vs, e, hc, hq, by rw [List.length_map]; exact hl, fun i b hi j v hj hv => ?_⟩
  rw [List.getElem?_map] at hi
  cases hx : l[i]? with
  | none => rw [hx] at hi; cases hi
  | some a =>
    rw [hx] at hi
    cases hi
    exact hg i a hx j v hj hv

/-- A call whose bits are few. -/
abbrev OpU := { o : Op // 0 ≤ o.keep ∧ o.keep ≤ 18446744073709551615 }
def c4u (o : OpU) : List Value := c4 o.1
set_option maxRecDepth 20000 in
theorem opuOf {σ : St} {row : List Value} (h : Img Tryd.prog σ 30 row) : ∃ o : OpU, row = c4u o := by
  obtain ⟨h1, h2⟩ := h.struct_inv Tryd.underlying30
  have hl : row.length = 4 := by rw [h1]; kernel_rfl
  match row, hl with
  | [x, y, z, s], _ =>
    have hx := h2 _ (List.mem_of_getElem? (i := 0) rfl)
    have hy := h2 _ (List.mem_of_getElem? (i := 1) rfl)
    have hz := h2 _ (List.mem_of_getElem? (i := 2) rfl)
    have hs := h2 _ (List.mem_of_getElem? (i := 3) rfl)
    have e3 : Tryd.prog.cellsOf 3 = 1 := by kernel_rfl
    have e28 : Tryd.prog.cellsOf 28 = 1 := by kernel_rfl
    have e9 : Tryd.prog.cellsOf 9 = 1 := by kernel_rfl
    simp only [e3] at hx hy
    simp only [e28] at hz
    simp only [e9] at hs
    obtain ⟨n, w1, v1⟩ := Img.int_inv Tryd.underlying3 hx
    obtain ⟨m, w2, v2⟩ := Img.int_inv Tryd.underlying3 hy
    obtain ⟨u, w3, v3⟩ := Img.int_inv Tryd.underlying28 hz
    obtain ⟨t, w4, v4⟩ := Img.str_inv Tryd.underlying9 hs
    simp at w1 w2 w3 w4
    exact ⟨⟨⟨n, m, u, t⟩, wf_u64 v3⟩, by rw [w1, w2, w3, w4]; rfl⟩

theorem plays_holds (L k : Nat) (hL : 400 < L) {σ : St} {ad : Option Addr} {spu : List OpU} (hHu : Holds σ 4 c4u ad spu) (a0 : Int) (h0 : 0 ≤ a0 ∧ a0 ≤ 255) :
    ∃ σ9, evCall Tryd.prog env L (k + 5) 5 [.int .u8 a0, .slice ad spu.length 0] σ = some (.bool true, σ9) := by
  have hH : Holds σ 4 c4 ad (spu.map Subtype.val) := holds_map Subtype.val hHu
  have hkp : ∀ o ∈ spu.map Subtype.val, 0 ≤ o.keep ∧ o.keep ≤ 18446744073709551615 := fun o ho => by
    obtain ⟨x, _, rfl⟩ := List.mem_map.1 ho
    exact x.2
  rw [show spu.length = (spu.map Subtype.val).length by simp]
  generalize spu.map Subtype.val = sp at hH hkp
  rw [f5_eq]
  have hk0 : Kept' σ.next σ σ := ⟨Nat.le_refl _, fun _ _ => rfl⟩
  obtain ⟨σ1, g1, s1⟩ := awake_spec L k (by omega) σ
  have hk1 := hk0.step s1 (by simp)
  rw [g1, bnd_some, asB_b, not_true, br_false]
  obtain ⟨b, hb, hb2⟩ := few_spec L (k + 3) (z := 0) (by omega) hH hk1
  rw [hb, bnd_some, asB_b]
  cases b with
  | false =>
    obtain ⟨σ2, g2, _⟩ := awake_spec L k (by omega) σ1
    rw [not_false, br_true, g2, bnd_some, asB_b]
    exact ⟨σ2, rfl⟩
  | true =>
    obtain ⟨hlen, hsz⟩ := hb2 rfl
    obtain ⟨m, rfl⟩ := Int.eq_ofNat_of_zero_le h0.1
    have hN : Int.tmod (IntKind.wrap .i64 (m : Int)) 20 = ((m % 20 : Nat) : Int) := by
      rw [wrap_in (m : Int) (by omega) (by omega)]; rfl
    rw [not_true, br_false, hN]
    obtain ⟨N, hNN⟩ : ∃ N, N = m % 20 := ⟨_, rfl⟩
    rw [← hNN]
    have hN1 : N ≤ 20 := by omega
    have hmx : (mx 0 (mn ((N : Nat) : Int) 1024)).toNat = N := by unfold mx mn; repeat' split <;> omega
    obtain ⟨a, F, σ2, g2, hD2, s2, hF2⟩ := new_spec L (k + 3) σ1 (N : Nat)
    rw [hmx] at hD2
    obtain ⟨b, G, σ3, g3, hR3, s3, hG3⟩ := rnew_spec L (k + 3) (by omega) σ2 N hN1
    have hO1 : Owns σ σ1 [] := ⟨hk1, by simp, by simp⟩
    have hO2 : Owns σ σ2 [F] := hO1.more s2 (fun q hq => ⟨hF2 q hq, hD2.lt q hq⟩)
    have hO3 : Owns σ σ3 [G, F] := hO2.more s3 (fun q hq => ⟨hG3 q hq, hR3.lt q hq⟩)
    rw [g2, bnd_some, asP_p, g3, bnd_some, asP_p, show (some (⟨a, 0, none⟩ : Addr)).isNone = false from rfl, br_false, len_spec (hD2.idle s3), bnd_some, asI_i, List.length_replicate, show (((N : Nat) : Int) != (N : Nat)) = false by simp, br_false]
    exact plays L k hL hlen hsz hkp hH hN1 L 0 σ3 F G _ [] (by omega) (by omega) (hD2.idle s3) hR3 (hO3.pick [1, 0] (by decide)) (by simp) (by simp) (InR.nil _)

end Go.AM.Dk
