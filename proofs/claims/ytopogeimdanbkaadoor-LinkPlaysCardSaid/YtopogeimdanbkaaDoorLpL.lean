/-
  LinkPlays, in plain words.
-/
import Derived.Test.YtopogeimdanbkaaDoorLpT
import Derived.Test.YtopogeimdanbkaaDoorAm17
set_option linter.unusedVariables false
set_option linter.unusedSimpArgs false
set_option linter.unusedSectionVars false
namespace Go.AM.Lp
open Go.Proofs

structure Op where
  kind : Int
  i : Int
  s : ByteArray
  on : Bool
def c4 (o : Op) : List Value := [.int .i64 o.kind, .int .i64 o.i, .string o.s, .bool o.on]
theorem c4_len (o : Op) : (c4 o).length = 4 := rfl

set_option maxRecDepth 20000 in
theorem opOf {σ : St} {row : List Value} (h : Img Tryd.prog σ 48 row) : ∃ o : Op, row = c4 o := by
  obtain ⟨h1, h2⟩ := h.struct_inv Tryd.underlying48
  have hl : row.length = 4 := by rw [h1]; kernel_rfl
  match row, hl with
  | [x, y, s, b], _ =>
    have hx := h2 _ (List.mem_of_getElem? (i := 0) rfl)
    have hy := h2 _ (List.mem_of_getElem? (i := 1) rfl)
    have hs := h2 _ (List.mem_of_getElem? (i := 2) rfl)
    have hb := h2 _ (List.mem_of_getElem? (i := 3) rfl)
    have e3 : Tryd.prog.cellsOf 3 = 1 := by kernel_rfl
    have e9 : Tryd.prog.cellsOf 9 = 1 := by kernel_rfl
    have e4 : Tryd.prog.cellsOf 4 = 1 := by kernel_rfl
    simp only [e3] at hx hy
    simp only [e9] at hs
    simp only [e4] at hb
    obtain ⟨n, w1, v1⟩ := Img.int_inv Tryd.underlying3 hx
    obtain ⟨m, w2, v2⟩ := Img.int_inv Tryd.underlying3 hy
    obtain ⟨t, w3, v3⟩ := Img.str_inv Tryd.underlying9 hs
    obtain ⟨c, w4⟩ := Img.bool_inv Tryd.underlying4 hb
    simp at w1 w2 w3 w4
    exact ⟨⟨n, m, t, c⟩, by rw [w1, w2, w3, w4]; rfl⟩

theorem few_loop (L k : Nat) {σ0 σ : St} {ad : Option Addr} {l : List Op} (hl : l.length ≤ 300) (hH : Holds σ0 4 c4 ad l) (hK : Kept' σ0.next σ0 σ) : ∀ (n i : Nat), i ≤ l.length → l.length - i < n →
    ∃ b, lpAt Tryd.prog env L k 21 [true, true, false, true] [] n [(0, .slice ad l.length 0), (8, .int .i64 l.length), (9, .int .i64 i)] σ = some (.bool b, σ)
  | 0, i, _, h => by omega
  | n + 1, i, hi, h => by
    rw [f21_l4]
    by_cases hil : i = l.length
    · rw [decide_eq_false (by omega), br_false]; exact ⟨true, rfl⟩
    · have hget : l[i]? = some l[i] := List.getElem?_eq_getElem (by omega)
      obtain ⟨q, e, hat⟩ := hH.ld hK hget
      generalize l[i] = o at hat
      obtain ⟨b, hb⟩ := few_loop L k hl hH hK n (i + 1) (by omega) (by omega)
      rw [decide_eq_true (by omega), br_true, need_of (by simp [inRange]; omega), e, adr_some, hat 2 (.string o.s) _ (by omega) rfl (by simp), asS_s, wrap_in ((i : Int) + 1) (by omega) (by omega), ← e]
      by_cases hs : ((o.s.size : Nat) : Int) > 100
      · rw [decide_eq_true hs, br_true]; exact ⟨false, rfl⟩
      · rw [decide_eq_false hs, br_false]
        exact ⟨b, by rw [← hb]; rfl⟩

theorem few_spec (L k : Nat) (hL : 400 < L) {σ0 σ : St} {ad : Option Addr} {l : List Op} (hH : Holds σ0 4 c4 ad l) (hK : Kept' σ0.next σ0 σ) :
    ∃ b, evCall Tryd.prog env L (k + 1) 21 [.slice ad l.length 0] σ = some (.bool b, σ) ∧ (b = true → l.length ≤ 300) := by
  rw [f21_eq]
  by_cases hl : l.length > 300
  · rw [decide_eq_true (by omega), br_true]; exact ⟨false, rfl, by simp⟩
  · rw [decide_eq_false (by omega), br_false]
    obtain ⟨b, hb⟩ := few_loop L k (by omega) hH hK L 0 (by omega) (by omega)
    exact ⟨b, hb, fun _ => by omega⟩

theorem plays (L k : Nat) (hL : 400 < L) {σ0 : St} {ad : Option Addr} {sc : List Op} (hlen : sc.length ≤ 300) (hH : Holds σ0 4 c4 ad sc) {a b : Nat} {room : Int} : ∀ (n i : Nat) (σ : St) (l : Strs) (cut : Bool) (qs rs : List Nat),
    i ≤ sc.length → sc.length - i < n → l.length ≤ i → S.Link σ a qs l room cut → Ref σ b rs l room cut → Owns σ0 σ [a :: qs, b :: rs] →
    ∃ σ9, lpAt Tryd.prog env L (k + 6) 6 [true, true, true, true, false, true] [] n [(1, .slice ad sc.length 0), (5, .pointer (some ⟨a, 0, none⟩)), (6, .pointer (some ⟨b, 0, none⟩)), (33, .int .i64 sc.length), (34, .int .i64 i)] σ = some (.bool true, σ9)
  | 0, i, σ, l, cut, qs, rs, _, h, _, _, _, _ => by omega
  | n + 1, i, σ, l, cut, qs, rs, hi, h, hll, hA, hR, hO => by
    rw [f6_l7]
    by_cases hie : i = sc.length
    · rw [decide_eq_false (by omega), br_false]
      exact ⟨σ, rfl⟩
    · have hget : sc[i]? = some sc[i] := List.getElem?_eq_getElem (by omega)
      obtain ⟨q0, e0, hlds⟩ := hH.lds hO.kept c4_len hget
      generalize sc[i] = o at hlds
      have hw : IntKind.wrap .i64 ((i : Int) + 1) = ((i + 1 : Nat) : Int) := by rw [wrap_in _ (by omega) (by omega)]; omega
      rw [decide_eq_true (by omega), br_true, need_of (by simp [inRange]; omega), e0, adr_some, hlds 0 4 (0 + (i : Int).toNat * 4) (by omega) (by simp), show ((c4 o).drop 0).take 4 = [.int .i64 o.kind, .int .i64 o.i, .string o.s, .bool o.on] from rfl,
        uncons_c, asI_i, uncons_c, asI_i, uncons_c, asS_s, uncons_c, asB_b, endl_n]
      obtain ⟨σ1, hput, ht1, hs1, hn1⟩ := tmp_put σ [Value.int IntKind.i64 0, Value.int IntKind.i64 0, Value.string { data := #[] }, Value.bool false] [Value.int IntKind.i64 o.kind, Value.int IntKind.i64 o.i, Value.string o.s, Value.bool o.on] 48 rfl rfl
      rw [hput]
      have hO1 : Owns σ0 σ1 [[σ.next], a :: qs, b :: rs] := hO.more hs1 (fun q hq => by simp at hq; subst hq; omega)
      have hT : Two σ0 σ1 a b σ.next (Blk.own [Value.int IntKind.i64 o.kind, Value.int IntKind.i64 o.i, Value.string o.s, Value.bool o.on] 48) l l room cut cut :=
        ⟨qs, rs, hA.idle hs1, hR.same hs1 (by simp), hO1.pick [1, 2, 0] (by decide), ht1⟩
      generalize hB : Blk.own [Value.int IntKind.i64 o.kind, Value.int IntKind.i64 o.i, Value.string o.s, Value.bool o.on] 48 = B at hT ht1
      -- the reads of the call's own
      have r0 : ∀ {σ' : St}, σ'.get σ.next = some B → ∀ K : Value → Res, σ'.ld σ.next 0 K = K (.int .i64 o.kind) := fun h K => by rw [← hB] at h; exact ld_own K h rfl
      have r1 : ∀ {σ' : St}, σ'.get σ.next = some B → ∀ K : Value → Res, σ'.ld σ.next 1 K = K (.int .i64 o.i) := fun h K => by rw [← hB] at h; exact ld_own K h rfl
      have r2 : ∀ {σ' : St}, σ'.get σ.next = some B → ∀ K : Value → Res, σ'.ld σ.next 2 K = K (.string o.s) := fun h K => by rw [← hB] at h; exact ld_own K h rfl
      have r3 : ∀ {σ' : St}, σ'.get σ.next = some B → ∀ K : Value → Res, σ'.ld σ.next 3 K = K (.bool o.on) := fun h K => by rw [← hB] at h; exact ld_own K h rfl
      -- what follows
      have go : ∀ (E : Value) (f at_ : Int) (σ2 : St) (l' : Strs) (cut' : Bool), Two σ0 σ2 a b σ.next B l' l' room cut' cut' → Ans σ2 E f at_ → l'.length ≤ l.length + 1 →
          ∃ σ9, tl L (k + 6) n E σ2 f at_ (some ⟨q0, 0, none⟩) sc.length 0 a 0 b 0 sc.length i = some (.bool true, σ9) := by
        intro E f at_ σ2 l' cut' h1 h2 h3
        obtain ⟨σ3, h4, h5⟩ := tl_ok L k n (by omega) h1 h2 (some ⟨q0, 0, none⟩) sc.length 0 sc.length i
        obtain ⟨qs', rs', g1, g2, g3, _⟩ := h4.ex
        rw [h5, hw, ← e0]
        exact plays L k hL hlen hH n (i + 1) σ3 l' cut' qs' rs' (by omega) (by omega) (by omega) g1 g2 (g3.pick [0, 1] (by decide))
      rw [r1 ht1, asI_i, r0 ht1, asI_i]
      by_cases k1 : o.kind = 1
      · obtain ⟨ad9, z9, hld⟩ := hT.ldb
        obtain ⟨E, f, l', σ2, σ3, g1, g2, g3, g4, g5, g6⟩ := hT.send L (k + 2) (by omega) o.s
        rw [k1, show ((1 : Int) == 1) = true from rfl, br_true, hld, asSl_s, r2 ht1, asS_s, g1, bnd_some, r2 g3, asS_s, r2 ht1, asS_s, chk_same, g2, bnd_some, asI_i]
        exact go E f l.length σ3 l' cut g4 g5 g6
      · rw [show (o.kind == 1) = false by simpa using k1, br_false]
        by_cases k2 : o.kind = 2
        · obtain ⟨x, E, f, l', σ2, σ3, g1, g2, g3, g4, g5, g6⟩ := hT.deliver L (k + 1) (by omega) o.i
          rw [k2, show ((2 : Int) == 2) = true from rfl, br_true, r1 ht1, asI_i, g1, bnd_some, asT_t, toList2, uncons_c, asS_s, uncons_c, endl_n, r1 g3, asI_i, g2, bnd_some, asT_t, toList2, uncons_c, asS_s, uncons_c, asI_i, endl_n, beq_self_eq_true, not_true, br_false]
          exact go E f o.i σ3 l' cut g4 g5 g6
        · rw [show (o.kind == 2) = false by simpa using k2, br_false]
          by_cases k3 : o.kind = 3
          · obtain ⟨E, f, l', σ2, σ3, g1, g2, g3, g4, g5, g6⟩ := hT.double L (k + 2) (by omega) o.i
            rw [k3, show ((3 : Int) == 3) = true from rfl, br_true, r1 ht1, asI_i, g1, bnd_some, r1 g3, asI_i, r1 ht1, asI_i, chk_same, g2, bnd_some, asI_i]
            exact go E f o.i σ3 l' cut g4 g5 g6
          · rw [show (o.kind == 3) = false by simpa using k3, br_false]
            by_cases k4 : o.kind = 4
            · obtain ⟨E, f, l', σ2, σ3, g1, g2, g3, g4, g5, g6⟩ := hT.drop L (k + 2) (by omega) o.i
              rw [k4, show ((4 : Int) == 4) = true from rfl, br_true, r1 ht1, asI_i, g1, bnd_some, r1 g3, asI_i, r1 ht1, asI_i, chk_same, g2, bnd_some, asI_i]
              exact go E f o.i σ3 l' cut g4 g5 g6
            · rw [show (o.kind == 4) = false by simpa using k4, br_false]
              by_cases k5 : o.kind = 5
              · obtain ⟨σ2, σ3, g1, g2, g3, g4⟩ := hT.setcut L (k + 5) o.on
                rw [k5, show ((5 : Int) == 5) = true from rfl, br_true, r3 ht1, asB_b, g1, bnd_some, asT_t, toList0, endl_n, r3 g2, asB_b, g3]
                exact go .nilIface 0 o.i σ3 l o.on g4 (.inl ⟨rfl, rfl⟩) (by omega)
              · rw [show (o.kind == 5) = false by simpa using k5, br_false]
                exact go .nilIface 0 o.i σ1 l cut hT (.inl ⟨rfl, rfl⟩) (by omega)

theorem plays_holds (L k : Nat) (hL : 400 < L) {σ : St} {ad : Option Addr} {sc : List Op} (hH : Holds σ 4 c4 ad sc) (room : Int) :
    ∃ σ9, evCall Tryd.prog env L (k + 7) 6 [.int .i64 room, .slice ad sc.length 0] σ = some (.bool true, σ9) := by
  rw [f6_eq]
  obtain ⟨σ1, g1, hk1⟩ := awake_spec L k σ
  rw [g1, bnd_some, asB_b, not_true, br_false]
  obtain ⟨b, hb, hb2⟩ := few_spec L (k + 5) hL hH hk1
  rw [hb, bnd_some, asB_b]
  cases b with
  | false =>
    obtain ⟨σ2, g2, _⟩ := awake_spec L k σ1
    rw [not_false, br_true, g2, bnd_some, asB_b]
    exact ⟨σ2, rfl⟩
  | true =>
    have hlen := hb2 rfl
    obtain ⟨σ2, g2, hA2, hs2⟩ := S.new_spec L (k + 5) σ1 room
    obtain ⟨σ3, g3, hR3, hs3, hn3⟩ := ref_new L (k + 5) σ2 room
    rw [not_true, br_false, g2, bnd_some, asP_p, g3, bnd_some, asP_p, show (some (⟨σ1.next, 0, none⟩ : Addr)).isNone = false from rfl, br_false]
    have hO1 : Owns σ σ1 [] := ⟨hk1, by simp, by simp⟩
    have hO2 : Owns σ σ2 [[σ1.next]] := hO1.more hs2 (fun q hq => by simp at hq; subst hq; exact ⟨Nat.le_refl _, hA2.lt⟩)
    have hO3 : Owns σ σ3 [[σ2.next], [σ1.next]] := hO2.more hs3 (fun q hq => by simp at hq; subst hq; exact ⟨Nat.le_refl _, by omega⟩)
    exact plays L k hL hlen hH L 0 σ3 [] false [] [] (by omega) (by omega) (by simp) (hA2.idle hs3) hR3 (hO3.pick [1, 0] (by decide))

end Go.AM.Lp
