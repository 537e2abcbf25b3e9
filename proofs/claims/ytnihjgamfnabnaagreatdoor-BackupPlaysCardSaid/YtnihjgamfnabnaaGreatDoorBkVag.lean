/-
  Texts laid together: BkVa, BkVb, BkZh, BkZi, BkSF, BkDa, BkDb, BkDc, BkVc, BkVd.
-/
import Derived.Test.YtnihjgamfnabnaaGreatDoorBkZcg
import Derived.Test.YtnihjgamfnabnaaGreatDoorEqBk2
import Derived.Test.YtnihjgamfnabnaaGreatDoorAm13g
import Derived.Test.YtnihjgamfnabnaaGreatDoorBkNg
set_option linter.unusedVariables false
set_option linter.unusedSimpArgs false
set_option linter.unusedSectionVars false
namespace Go.AM.Bk
open Go.Proofs
def bi (b : Bool) : Value := .int .i64 (if b then 1 else 0)
abbrev iv (s : Nat → Bool) : List Value := [bi (s 0), bi (s 1), bi (s 2), bi (s 3)]
structure DG (σ : St) (g : Nat) (G : List Nat) (gs : GS) : Prop where
  ex : ∃ ad z q, G = g :: q ∧ g ∉ q ∧ σ.get g = some (.own (iv gs.f ++ [.slice ad gs.ch.length z]) 149) ∧ Row c3 3 161 σ ad z q gs.ch
  lt : ∀ x ∈ G, x < σ.next
  vols : ∀ c ∈ gs.ch, c.vol < 4
  len : gs.ch.length ≤ 100
  up : gs.ch.Pairwise fun a b => a.mark < b.mark
section
variable {σ σ' : St} {g : Nat} {G : List Nat} {gs : GS}
theorem DG.moved (h : DG σ g G gs) (hs : ∀ q ∈ G, σ'.get q = σ.get q) (hl : ∀ q ∈ G, q < σ'.next) : DG σ' g G gs := by
  obtain ⟨ad, z, q, rfl, h1, h2, h3⟩ := h.ex
  exact ⟨⟨ad, z, q, rfl, h1, by rw [hs g (by simp)]; exact h2, h3.moved (fun x hx => hs x (by simp [hx])) (fun x hx => hl x (by simp [hx]))⟩, hl, h.vols, h.len, h.up⟩
theorem DG.same {S : List Nat} (h : DG σ g G gs) (hs : Same σ σ' S) (hG : ∀ q ∈ G, q ∉ S) : DG σ' g G gs :=
  h.moved (fun q hq => hs.2 q (h.lt q hq) (hG q hq)) (fun q hq => by have := h.lt q hq; have := hs.1; omega)
theorem DG.idle (h : DG σ g G gs) (hs : Same σ σ' []) : DG σ' g G gs := h.same hs (by simp)
end
def hasF (m : Int) (v : Nat) (ok : Bool) (c : Chg) : Bool := if c.vol = v ∧ c.mark ≤ m then !c.gone else ok
theorem hasF_idle (m : Int) (v : Nat) : ∀ (l : List Chg) (ok : Bool), (∀ c ∈ l, ¬ c.mark ≤ m) → l.foldl (hasF m v) ok = ok
  | [], ok, _ => rfl
  | c :: l, ok, h => by
    rw [List.foldl_cons, hasF, if_neg (fun hx => h c (by simp) hx.2)]
    exact hasF_idle m v l ok (fun x hx => h x (List.mem_cons_of_mem _ hx))
theorem behOne_at (s : Nat → Bool) (c : Chg) (v : Nat) : behOne s c v = if c.vol = v then !c.gone else s v := by
  unfold behOne
  by_cases h : c.vol = v
  · rw [if_pos h, if_pos h.symm]
  · rw [if_neg h, if_neg (fun hx => h hx.symm)]
theorem beh_has (m : Int) (v : Nat) : ∀ (l : List Chg) (s : Nat → Bool), l.Pairwise (fun a b => a.mark < b.mark) → beh s (l.take (l.takeWhile fun c => decide (c.mark ≤ m)).length) v = l.foldl (hasF m v) (s v)
  | [], s, _ => rfl
  | c :: l, s, h => by
    obtain ⟨h1, h2⟩ := List.pairwise_cons.1 h
    by_cases hc : c.mark ≤ m
    · rw [List.takeWhile_cons, if_pos (by simpa using hc), List.length_cons, List.take_succ_cons, List.foldl_cons]
      have ih := beh_has m v l (behOne s c) h2
      rw [behOne_at] at ih
      unfold beh at ih ⊢
      rw [List.foldl_cons, ih]
      congr 1
      unfold hasF
      by_cases hv : c.vol = v
      · rw [if_pos hv, if_pos ⟨hv, hc⟩]
      · rw [if_neg hv, if_neg (fun hx => hv hx.1)]
    · rw [List.takeWhile_cons, if_neg (by simpa using hc)]
      rw [hasF_idle m v (c :: l) (s v) (fun x hx => by
        rcases List.mem_cons.1 hx with rfl | hx
        · exact hc
        · have := h1 x hx; omega)]
      rfl
theorem beh_all (m : Int) (v : Nat) : ∀ (l : List Chg) (s : Nat → Bool), (∀ c ∈ l, c.mark ≤ m) → beh s l v = l.foldl (hasF m v) (s v)
  | [], s, _ => rfl
  | c :: l, s, h => by
    have ih := beh_all m v l (behOne s c) (fun x hx => h x (List.mem_cons_of_mem _ hx))
    rw [behOne_at] at ih
    unfold beh at ih ⊢
    rw [List.foldl_cons, List.foldl_cons, ih]
    congr 1
    unfold hasF
    have hc := h c (by simp)
    by_cases hv : c.vol = v
    · rw [if_pos hv, if_pos ⟨hv, hc⟩]
    · rw [if_neg hv, if_neg (fun hx => hv hx.1)]
theorem last_snoc {gs : GS} {l : List Chg} {x : Chg} (h : gs.ch = l ++ [x]) : gs.last = x.mark := by
  unfold GS.last
  rw [h, List.getLast?_concat]
theorem up_last {gs : GS} (h : gs.ch.Pairwise fun a b => a.mark < b.mark) : ∀ c ∈ gs.ch, c.mark ≤ gs.last := by
  rcases List.eq_nil_or_concat gs.ch with e | ⟨l, x, e⟩
  · rw [e]; simp
  · rw [List.concat_eq_append] at e
    rw [last_snoc e]
    rw [e] at h ⊢
    intro c hc
    rw [List.pairwise_append] at h
    rcases List.mem_append.1 hc with hc | hc
    · have := h.2.2 c hc x (by simp); omega
    · simp at hc; subst hc; omega
theorem putE_zero {gs : GS} {m v : Int} {gone : Bool} (h : putE gs m v gone = 0) : (0 ≤ v ∧ v < 4) ∧ gs.last < m ∧ gs.ch.length < 100 := by
  unfold putE at h
  split at h
  · cases h
  · rename_i h1
    split at h
    · cases h
    · split at h
      · cases h
      · split at h
        · cases h
        · split at h
          · cases h
          · exact ⟨by omega, by omega, by omega⟩
theorem up_add {gs : GS} (h : gs.ch.Pairwise fun a b => a.mark < b.mark) {m v : Int} {gone : Bool} (hm : gs.last < m) : (gs.add m v gone).ch.Pairwise fun a b => a.mark < b.mark := by
  unfold GS.add
  dsimp only
  rw [List.pairwise_append]
  refine ⟨h, List.pairwise_singleton _ _, fun a ha b hb => ?_⟩
  simp at hb
  subst hb
  have := up_last h a ha
  dsimp only
  omega
theorem bi_eq (b : Bool) : ((if b then (1 : Int) else 0) == 1) = b := by cases b <;> rfl
theorem iv_get (s : Nat → Bool) (x : Value) (v : Nat) (h : v < 4) : (iv s ++ [x])[0 + Int.toNat (v : Int) * 1]? = some (bi (s v)) := by
  rcases (by omega : v = 0 ∨ v = 1 ∨ v = 2 ∨ v = 3) with rfl | rfl | rfl | rfl <;> rfl
section
variable {σ : St} {g : Nat} {G : List Nat} {gs : GS}
theorem has_loop (L k : Nat) (h : DG σ g G gs) (m : Int) (v : Nat) : ∀ (n i : Nat) (ok : Bool), i ≤ gs.ch.length → gs.ch.length - i < n →
    lpAt Tryz.prog env L k 82 [true, true, false, true] [] n [(0, ptr g), (1, .int .i64 v), (2, .int .i64 m), (7, .bool ok), (20, .int .i64 gs.ch.length), (21, .int .i64 i)] σ = some (.bool ((gs.ch.drop i).foldl (hasF m v) ok), σ)
  | 0, i, ok, _, hn => by omega
  | n + 1, i, ok, hi, hn => by
    have h100 := h.len
    obtain ⟨ad, z, q, hG, hgq, hg, hR⟩ := h.ex
    rw [f82_l3]
    by_cases hie : i = gs.ch.length
    · subst hie
      rw [decide_eq_false (by omega), br_false, List.drop_length]; rfl
    have hget : gs.ch[i]? = some gs.ch[i] := List.getElem?_eq_getElem (by omega)
    have hd : gs.ch.drop i = gs.ch[i] :: gs.ch.drop (i + 1) := List.drop_eq_getElem_cons (by omega)
    obtain ⟨p, e, hat⟩ := hR.at (fun _ => rfl) hget
    have ih := fun ok' => has_loop L k h m v n (i + 1) ok' (by omega) (by omega)
    generalize gs.ch[i] = c at *
    subst e
    have hw : IntKind.wrap .i64 ((i : Int) + 1) = ((i + 1 : Nat) : Int) := by rw [wrap_in _ (by omega) (by omega)]; omega
    have hsl : (iv gs.f ++ [Value.slice (some ⟨p, 0, none⟩) gs.ch.length z])[0 + 4]? = some (.slice (some ⟨p, 0, none⟩) gs.ch.length z) := rfl
    rw [decide_eq_true (by omega), br_true, ld_at hg (0 + 4) _ hsl, asSl_s, need_of (by simp [inRange]; omega), adr_some, hat 1 (.int .i64 c.vol) _ (by omega) rfl (by simp), asI_i, hw, hd, List.foldl_cons]
    by_cases hv : c.vol = v
    · rw [show (((c.vol : Nat) : Int) == (v : Int)) = true by rw [hv]; exact beq_self_eq_true _, br_true, ld_at hg (0 + 4) _ hsl, asSl_s, need_of (by simp [inRange]; omega), adr_some, hat 0 (.int .i64 c.mark) _ (by omega) rfl (by simp), asI_i]
      by_cases hm : c.mark ≤ m
      · rw [decide_eq_true hm, br_true, ld_at hg (0 + 4) _ hsl, asSl_s, need_of (by simp [inRange]; omega), adr_some, hat 2 (.bool c.gone) _ (by omega) rfl (by simp), asB_b, ih, hasF, if_pos ⟨hv, hm⟩]
      · rw [decide_eq_false hm, br_false, ih, hasF, if_neg (fun hx => hm hx.2)]
    · rw [show (((c.vol : Nat) : Int) == (v : Int)) = false from beq_false_of_ne (by omega), br_false, ih, hasF, if_neg (fun hx => hv hx.1)]
theorem has_spec (L k : Nat) (hL : 200 < L) (h : DG σ g G gs) (m : Int) (v : Nat) (hv : v < 4) : evCall Tryz.prog env L (k + 1) 82 [ptr g, .int .i64 v, .int .i64 m] σ = some (.bool (gs.ch.foldl (hasF m v) (gs.f v)), σ) := by
  have h100 := h.len
  have e := has_loop L k h m v L 0 (gs.f v) (by omega) (by omega)
  obtain ⟨ad, z, q, hG, hgq, hg, hR⟩ := h.ex
  rw [f82_eq, need_of (by simp [inRange]; omega), ld_at hg _ _ (iv_get gs.f _ v hv)]
  unfold bi
  rw [asI_i, ld_at hg 4 (.slice ad gs.ch.length z) rfl, asSl_s, bi_eq]
  exact e
theorem dhas_at (L k : Nat) (hL : 200 < L) (h : DG σ g G gs) (m : Int) (v : Nat) (hv : v < 4) : evCall Tryz.prog env L (k + 1) 82 [ptr g, .int .i64 v, .int .i64 m] σ = some (.bool (gs.has m v), σ) := by
  rw [has_spec L k hL h m v hv]
  unfold GS.has GS.many
  rw [beh_has m v gs.ch gs.f h.up]
theorem dat_loop (L k : Nat) (hL : 200 < L) {σ0 : St} {m : Int} (h0 : DG σ0 g G gs) : ∀ (n i : Nat) (σ : St) (ad : Option Addr) (z : Nat) (q : List Nat), i ≤ 4 → 4 - i < n → Row c1 1 3 σ ad z q (ints ((List.range i).filter (gs.has m))) → Same σ0 σ [] → (∀ x ∈ q, σ0.next ≤ x) →
    ∃ ad' z' q' σ', lpAt Tryz.prog env L (k + 1) 74 [true, true, false, true] [] n [(0, ptr g), (1, .int .i64 m), (5, .slice ad ((List.range i).filter (gs.has m)).length z), (6, .int .i64 i)] σ = some (.slice ad' (gs.at_ m).length z', σ') ∧ Row c1 1 3 σ' ad' z' q' (ints (gs.at_ m)) ∧ Same σ0 σ' [] ∧ (∀ x ∈ q', σ0.next ≤ x)
  | 0, i, σ, ad, z, q, _, hn, _, _, _ => by omega
  | n + 1, i, σ, ad, z, q, hi, hn, hR, hs, hq => by
    rw [f74_l3]
    by_cases hie : i = 4
    · subst hie
      rw [decide_eq_false (by decide), br_false]
      exact ⟨ad, z, q, σ, rfl, hR, hs, hq⟩
    have hw : IntKind.wrap .i64 ((i : Int) + 1) = ((i + 1 : Nat) : Int) := by rw [wrap_in _ (by omega) (by omega)]; omega
    have hfs := filt_succ (gs.has m) i
    have hfl := filt_len (gs.has m) i
    rw [decide_eq_true (by omega), br_true, dhas_at L k hL (h0.idle hs) m i (by omega), bnd_some, asB_b, hw]
    cases hsi : gs.has m i with
    | false =>
      rw [if_neg (by rw [hsi]; decide), List.append_nil] at hfs
      rw [br_false, ← hfs]
      exact dat_loop L k hL h0 n (i + 1) σ ad z q (by omega) (by omega) (by rw [hfs]; exact hR) hs hq
    | true =>
      rw [if_pos hsi] at hfs
      rw [br_true]
      have s5 : Same σ (σ.new (.own [.int .i64 i] 3)) [] := Same.new _ _ _
      have g5 : (σ.new (.own [.int .i64 i] 3)).get σ.next = some (.own [.int .i64 i] 3) := get_new_same _ _
      generalize σ.new (.own [.int .i64 i] 3) = σ5 at s5 g5
      have hlen : (ints ((List.range i).filter (gs.has m))).length = ((List.range i).filter (gs.has m)).length := by simp [ints]
      obtain ⟨ad', z', q', σ6, hgrow, hR6, s6, hq6⟩ := grow_row (by_ := 8) (hR.same s5 (by simp)) (fun _ => rfl) (fun _ => rfl) (by omega) [(i : Int)] [.int .i64 i] rfl 1 rfl (by rw [hlen]; unfold roomTop; omega) (by rw [hlen]; unfold sizeTop; omega)
      rw [hlen] at hgrow
      rw [row_one g5, hgrow]
      have hl2 : ((List.range i).filter (gs.has m)).length + 1 = ((List.range (i + 1)).filter (gs.has m)).length := by rw [hfs]; simp
      have hR6' : Row c1 1 3 σ6 ad' z' q' (ints ((List.range (i + 1)).filter (gs.has m))) := by rw [hfs]; simpa [ints] using hR6
      rw [hl2]
      have n0 := hs.1
      have n5 := s5.1
      have s06 : Same σ0 σ6 [] := (hs.trans s5).fresh s6 (fun x hx => .inr (hq x hx))
      exact dat_loop L k hL h0 n (i + 1) σ6 ad' z' q' (by omega) (by omega) hR6' s06 (fun x hx => by
        rcases hq6 x hx with h | h
        · exact hq x h
        · omega)
theorem dat_spec (L k : Nat) (hL : 200 < L) (h : DG σ g G gs) (m : Int) :
    ∃ ad z q σ', evCall Tryz.prog env L (k + 2) 74 [ptr g, .int .i64 m] σ = some (.slice ad (gs.at_ m).length z, σ') ∧ Row c1 1 3 σ' ad z q (ints (gs.at_ m)) ∧ Same σ σ' [] ∧ (∀ x ∈ q, σ.next ≤ x) := by
  rw [f74_eq]
  obtain ⟨ad, z, q, σ', e, h1, h2, h3⟩ := dat_loop L k hL h (m := m) L 0 σ none 0 [] (by omega) (by omega) (Row.nil c1 1 3 σ) (Same.refl _ _) (by simp)
  exact ⟨ad, z, q, σ', e, h1, h2, h3⟩
theorem in71 (L k : Nat) (σ : St) (v : Int) : evCall Tryz.prog env L (k + 1) 71 [.int .i64 v] σ = some (.bool (decide (0 ≤ v ∧ v < 4)), σ) := by
  rw [f71_eq]
  by_cases h : v ≥ 0
  · rw [decide_eq_true h, br_true]
    by_cases h4 : v < 4
    · rw [decide_eq_true (by omega : v ≤ 3), decide_eq_true ⟨h, h4⟩]
    · rw [decide_eq_false (by omega : ¬ v ≤ 3), decide_eq_false (fun hx => h4 hx.2)]
  · rw [decide_eq_false h, br_false, decide_eq_false (fun hx => h hx.1)]
theorem dlast_spec (L k : Nat) (h : DG σ g G gs) : evCall Tryz.prog env L (k + 1) 81 [ptr g] σ = some (.int .i64 gs.last, σ) := by
  have h100 := h.len
  obtain ⟨ad, z, q, rfl, hgq, hg, hR⟩ := h.ex
  have hsl : (iv gs.f ++ [Value.slice ad gs.ch.length z])[4]? = some (.slice ad gs.ch.length z) := rfl
  rw [f81_eq, ld_at hg 4 _ hsl, asSl_s]
  unfold GS.last
  by_cases h0 : gs.ch = []
  · rw [h0]; rfl
  · have hlen : 0 < gs.ch.length := List.length_pos_iff.2 h0
    have hget : gs.ch[gs.ch.length - 1]? = some (gs.ch.getLast h0) := by rw [List.getLast_eq_getElem]; exact List.getElem?_eq_getElem (by omega)
    obtain ⟨p, e, hat⟩ := hR.at (fun _ => rfl) hget
    subst e
    have hw : IntKind.wrap .i64 ((gs.ch.length : Int) - 1) = ((gs.ch.length - 1 : Nat) : Int) := by rw [wrap_in _ (by omega) (by omega)]; omega
    rw [show (((gs.ch.length : Nat) : Int) == 0) = false by simpa using h0, br_false, ld_at hg 4 _ hsl, asSl_s, ld_at hg 4 _ hsl, asSl_s, hw, need_of (by simp [inRange]; omega), adr_some, hat 0 (.int .i64 (gs.ch.getLast h0).mark) _ (by omega) rfl (by simp), asI_i, List.getLast?_eq_some_getLast h0]
end
theorem dchange (L k : Nat) (hL : 100000 < L) {σ : St} {g : Nat} {G : List Nat} {gs : GS} (h : DG σ g G gs) (m v : Int) (gone : Bool) :
    ∃ G' σ', evCall Tryz.prog env L (k + 2) 36 [ptr g, .int .i64 v, .int .i64 m, .bool gone] σ = some (.int .i64 (putE gs m v gone), σ') ∧ Turn σ σ' G G' ∧ DG σ' g G' (if putE gs m v gone = 0 then gs.add m v gone else gs) := by
  have h100 := h.len
  have err : ∀ {e : Int}, e ≠ 0 → putE gs m v gone = e → ∃ G' σ', (some (Value.int .i64 e, σ) : Res) = some (.int .i64 (putE gs m v gone), σ') ∧ Turn σ σ' G G' ∧ DG σ' g G' (if putE gs m v gone = 0 then gs.add m v gone else gs) := by
    intro e he hE
    exact ⟨G, σ, by rw [hE], Turn.idle (Same.refl _ _) h.lt, by rw [if_neg (by rw [hE]; exact he)]; exact h⟩
  rw [f36_eq, in71 L k, bnd_some, asB_b]
  by_cases hv : 0 ≤ v ∧ v < 4
  rotate_left
  · rw [decide_eq_false hv, not_false, br_true]
    exact err (by decide) (by unfold putE; rw [if_pos hv])
  rw [decide_eq_true hv, not_true, br_false, dlast_spec L k h, bnd_some, asI_i]
  by_cases hm : m ≤ gs.last
  · rw [decide_eq_true hm, br_true]
    exact err (by decide) (by unfold putE; rw [if_neg (by simpa using hv), if_pos hm])
  rw [decide_eq_false hm, br_false]
  by_cases hm2 : m > 1152921504606846975
  · rw [decide_eq_true hm2, br_true]
    exact err (by decide) (by unfold putE; rw [if_neg (by simpa using hv), if_neg hm, if_pos hm2])
  obtain ⟨u, rfl⟩ : ∃ u : Nat, v = u := ⟨v.toNat, by omega⟩
  have hu4 : u < 4 := by omega
  have hun : (u : Int).toNat = u := rfl
  have hbeh : gs.ch.foldl (hasF gs.last u) (gs.f u) = beh gs.f gs.ch u := (beh_all gs.last u gs.ch gs.f (up_last h.up)).symm
  rw [decide_eq_false hm2, br_false, dlast_spec L k h, bnd_some, asI_i, has_spec L k (by omega) h gs.last u hu4, bnd_some, asB_b, hbeh]
  have hxor : (!beh gs.f gs.ch u == gone) = (beh gs.f gs.ch u != gone) := by cases beh gs.f gs.ch u <;> cases gone <;> rfl
  rw [hxor]
  by_cases hb : (beh gs.f gs.ch u != gone) = true
  · rw [hb, br_true]
    exact err (by decide) (by unfold putE; rw [if_neg (by simpa using hv), if_neg hm, if_neg hm2, hun, if_pos hb])
  obtain ⟨ad, z, q, hG, hgq, hg, hR⟩ := h.ex
  have hgl := h.lt g (by rw [hG]; simp)
  have hsl : (iv gs.f ++ [Value.slice ad gs.ch.length z])[4]? = some (.slice ad gs.ch.length z) := rfl
  rw [show (beh gs.f gs.ch u != gone) = false by simpa using hb, br_false, ld_at hg 4 _ hsl, asSl_s]
  by_cases hw : gs.ch.length = 100
  · rw [show (((gs.ch.length : Nat) : Int) == 100) = true by simp [hw], br_true]
    exact err (by decide) (by unfold putE; rw [if_neg (by simpa using hv), if_neg hm, if_neg hm2, hun, if_neg hb, if_pos (by omega)])
  have hE0 : putE gs m (u : Int) gone = 0 := by unfold putE; rw [if_neg (by simpa using hv), if_neg hm, if_neg hm2, hun, if_neg hb, if_neg (by omega)]
  have s3 : Same σ (σ.new (.own [.int .i64 m, .int .i64 u, .bool gone] 161)) [] := Same.new _ _ _
  have g3 : (σ.new (.own [.int .i64 m, .int .i64 u, .bool gone] 161)).get σ.next = some (.own [.int .i64 m, .int .i64 u, .bool gone] 161) := get_new_same _ _
  rw [show (((gs.ch.length : Nat) : Int) == 100) = false by simp; omega, br_false, ld_at hg 4 _ hsl, asSl_s, need_true, need_true, need_true, need_true]
  generalize σ.new (.own [.int .i64 m, .int .i64 u, .bool gone] 161) = σ3 at s3 g3
  have n3 := s3.1
  have hg3 : σ3.get g = _ := (s3.2 g (by omega) (by simp)).trans hg
  obtain ⟨ad', z', q', σ4, hgrow, hR4, s4, hq4⟩ := grow_row (by_ := 24) (hR.same s3 (by simp)) c3_len c3_one (by omega) [⟨m, u, gone⟩] (c3 ⟨m, u, gone⟩) (by simp) 1 rfl (by unfold roomTop; omega) (by unfold sizeTop; omega)
  have hgrow' : ∀ K, grow 161 3 24 ad gs.ch.length z 1 [.int .i64 m, .int .i64 u, .bool gone] σ3 K = K ad' (gs.ch.length + 1) z' σ4 := hgrow
  have hg4 : σ4.get g = _ := (s4.2 g (by omega) hgq).trans hg3
  have n4 := s4.1
  rw [row_all (n := 3) g3 rfl (by omega), hgrow', put_sl hg4 4 _ _ _ (by simp)]
  have s5 := Same.set σ4 g (.own (List.set (iv gs.f ++ [Value.slice ad gs.ch.length z]) 4 (.slice ad' (gs.ch.length + 1) z')) 149)
  have hgq' : g ∉ q' := fun hx => by
    rcases hq4 g hx with h1 | h1
    · exact hgq h1
    · omega
  have hq1 := hR.lt
  refine ⟨g :: q', _, by rw [hE0], ⟨⟨by simp; omega, fun x hx hxG => ?_⟩, fun x hx => ?_⟩, ?_⟩
  · rw [hG] at hxG
    simp only [List.mem_cons, not_or] at hxG
    rw [s5.2 x (by omega) (by simpa using hxG.1), s4.2 x (by omega) hxG.2, s3.2 x (by omega) (by simp)]
  · rcases List.mem_cons.1 hx with rfl | hx
    · exact ⟨.inl (by rw [hG]; simp), by simp; omega⟩
    · refine ⟨?_, by have := hR4.lt x hx; simpa using this⟩
      rcases hq4 x hx with h1 | h1
      · exact .inl (by rw [hG]; simp [h1])
      · exact .inr (by omega)
  rw [if_pos hE0]
  refine ⟨⟨ad', z', q', rfl, hgq', ?_, ?_⟩, fun x hx => ?_, fun c hc => ?_, ?_, up_add h.up (putE_zero hE0).2.1⟩
  · rw [get_set_same]; unfold GS.add; dsimp only; rw [List.length_append]; rfl
  · exact hR4.same s5 (fun x hx => by simp; rintro rfl; exact hgq' hx)
  · rcases List.mem_cons.1 hx with rfl | hx
    · simp; omega
    · have := hR4.lt x hx; simpa using this
  · unfold GS.add at hc
    rcases List.mem_append.1 hc with hc | hc
    · exact h.vols c hc
    · simp at hc; subst hc; exact hu4
  · unfold GS.add; dsimp only; rw [List.length_append, List.length_singleton]; omega
end Go.AM.Bk

namespace Go.AM.Bk
open Go.Proofs
theorem dgnew_loop (L k : Nat) {σ0 σ1 : St} {ad : Option Addr} {l : List Int} {z : Nat} (hl : l.length ≤ 1000) (hH : Holds σ0 1 c1 ad l) (h01 : σ0.next ≤ σ1.next) {g : Nat} (hg0 : σ1.next ≤ g) : ∀ (n i : Nat) (σ : St), i ≤ l.length → l.length - i < n → Same σ1 σ [] → Kept' σ0.next σ0 σ → σ.get g = some (.own (iv (gOf (l.take i)).f ++ [.slice none 0 0]) 149) → g < σ.next → OkG (l.take i) →
    (∃ x y σ', ¬ OkG l ∧ lpAt Tryz.prog env L (k + 1) 28 [true, true, false, true] [] n [(0, .slice ad l.length z), (5, ptr g), (10, .int .i64 l.length), (11, .int .i64 i)] σ = some (.tuple #[.pointer none, .int .i64 x, .int .i64 y], σ') ∧ Same σ1 σ' []) ∨
    (∃ σ', OkG l ∧ lpAt Tryz.prog env L (k + 1) 28 [true, true, false, true] [] n [(0, .slice ad l.length z), (5, ptr g), (10, .int .i64 l.length), (11, .int .i64 i)] σ = some (.tuple #[ptr g, .int .i64 0, .int .i64 0], σ') ∧ σ'.get g = some (.own (iv (gOf l).f ++ [.slice none 0 0]) 149) ∧ Same σ1 σ' [] ∧ g < σ'.next)
  | 0, i, σ, _, hn, _, _, _, _, _ => by omega
  | n + 1, i, σ, hi, hn, hs, hk, hg, hgl, hok => by
    rw [f28_l3]
    by_cases hie : i = l.length
    · subst hie
      rw [List.take_length] at hg hok
      rw [decide_eq_false (by omega), br_false]
      exact .inr ⟨σ, hok, rfl, hg, hs, hgl⟩
    have hget : l[i]? = some l[i] := List.getElem?_eq_getElem (by omega)
    have htk : l.take (i + 1) = l.take i ++ [l[i]] := by rw [List.take_add_one, hget]; rfl
    have hdr : l = l.take i ++ l[i] :: l.drop (i + 1) := by rw [← List.drop_eq_getElem_cons (by omega), List.take_append_drop]
    obtain ⟨q, e, hat⟩ := hH.ld hk hget
    generalize l[i] = v at *
    have hw : IntKind.wrap .i64 ((i : Int) + 1) = ((i + 1 : Nat) : Int) := by rw [wrap_in _ (by omega) (by omega)]; omega
    have hld : ∀ K : Value → Res, σ.ld q (0 + Int.toNat (i : Int) * 1) K = K (.int .i64 v) := fun K => hat 0 (.int .i64 v) _ (by omega) rfl (by simp) K
    have hin : inRange (i : Int) (l.length : Nat) = true := by simp [inRange]; omega
    subst e
    rw [decide_eq_true (by omega), br_true, need_of hin, adr_some, hld, asI_i, in71 L k, bnd_some, asB_b]
    by_cases hv : 0 ≤ v ∧ v < 4
    rotate_left
    · rw [decide_eq_false hv, not_false, br_true, need_of hin, adr_some, hld, asI_i]
      exact .inl ⟨v, 5, σ, fun h => hv (h.1 v (by rw [hdr]; simp)), rfl, hs⟩
    obtain ⟨u, hu⟩ : ∃ u : Nat, v = u := ⟨v.toNat, by omega⟩
    subst hu
    have hu4 : u < 4 := by omega
    rw [decide_eq_true hv, not_true, br_false, need_of hin, adr_some, hld, asI_i, need_of (by simp [inRange]; omega), ld_at hg (0 + 0 + Int.toNat (u : Int) * 1) (bi (decide ((u : Int) ∈ l.take i))) (by
      rcases (by omega : u = 0 ∨ u = 1 ∨ u = 2 ∨ u = 3) with rfl | rfl | rfl | rfl <;> rfl)]
    unfold bi
    rw [asI_i, bi_eq]
    by_cases hm : (u : Int) ∈ l.take i
    · rw [decide_eq_true hm, br_true, need_of hin, adr_some, hld, asI_i]
      refine .inl ⟨_, 1, σ, fun h => ?_, rfl, hs⟩
      have hn := h.2
      rw [hdr, List.nodup_append] at hn
      exact hn.2.2 _ hm _ (by simp) rfl
    · rw [decide_eq_false hm, br_false, need_of hin, adr_some, hld, asI_i, need_of (by simp [inRange]; omega), put_int hg _ _ _ (by simp; omega), hw]
      have hset : (iv (gOf (l.take i)).f ++ [Value.slice none 0 0]).set (0 + 0 + Int.toNat (u : Int) * 1) (.int .i64 1) = iv (gOf (l.take (i + 1))).f ++ [.slice none 0 0] := by
        rw [htk]
        unfold gOf iv
        dsimp only
        have hd : ∀ x : Nat, decide ((x : Int) ∈ l.take i ++ [(u : Int)]) = if x = u then true else decide ((x : Int) ∈ l.take i) := fun x => by
          by_cases hx : x = u
          · subst hx; simp
          · have : ¬ (x : Int) = (u : Int) := by omega
            simp [hx, this]
        rw [hd, hd, hd, hd]
        rcases (by omega : u = 0 ∨ u = 1 ∨ u = 2 ∨ u = 3) with rfl | rfl | rfl | rfl <;> rfl
      have s2 := Same.set σ g (.own ((iv (gOf (l.take i)).f ++ [Value.slice none 0 0]).set (0 + 0 + Int.toNat (u : Int) * 1) (.int .i64 1)) 149)
      have g2 : (σ.set g (.own ((iv (gOf (l.take i)).f ++ [Value.slice none 0 0]).set (0 + 0 + Int.toNat (u : Int) * 1) (.int .i64 1)) 149)).get g = some (.own (iv (gOf (l.take (i + 1))).f ++ [.slice none 0 0]) 149) := by rw [get_set_same, hset]
      have n2 : (σ.set g (.own ((iv (gOf (l.take i)).f ++ [Value.slice none 0 0]).set (0 + 0 + Int.toNat (u : Int) * 1) (.int .i64 1)) 149)).next = σ.next := rfl
      have hok' : OkG (l.take (i + 1)) := by
        rw [htk]
        refine ⟨fun x hx => ?_, ?_⟩
        · rcases List.mem_append.1 hx with hx | hx
          · exact hok.1 x hx
          · simp at hx; subst hx; exact hv
        · rw [List.nodup_append]
          exact ⟨hok.2, by simp, fun a ha b hb => by simp at hb; subst hb; rintro rfl; exact hm ha⟩
      have hs2 : Same σ1 (σ.set g (.own ((iv (gOf (l.take i)).f ++ [Value.slice none 0 0]).set (0 + 0 + Int.toNat (u : Int) * 1) (.int .i64 1)) 149)) [] := hs.fresh s2 (fun x hx => .inr (by simp at hx; omega))
      have hk2 : Kept' σ0.next σ0 (σ.set g (.own ((iv (gOf (l.take i)).f ++ [Value.slice none 0 0]).set (0 + 0 + Int.toNat (u : Int) * 1) (.int .i64 1)) 149)) := hk.step s2 (fun x hx => by simp at hx; omega)
      generalize σ.set g (.own ((iv (gOf (l.take i)).f ++ [Value.slice none 0 0]).set (0 + 0 + Int.toNat (u : Int) * 1) (.int .i64 1)) 149) = σ2 at s2 g2 n2 hs2 hk2
      exact dgnew_loop L k hl hH h01 hg0 n (i + 1) σ2 (by omega) (by omega) hs2 hk2 g2 (by omega) hok'
theorem dgnew_spec (L k : Nat) (hL : 100000 < L) {σ0 σ : St} (hk : Kept' σ0.next σ0 σ) {ad : Option Addr} {l : List Int} (z : Nat) (hl : l.length ≤ 1000) (hH : Holds σ0 1 c1 ad l) :
    (∃ x y σ', ¬ OkG l ∧ evCall Tryz.prog env L (k + 2) 28 [.slice ad l.length z] σ = some (.tuple #[.pointer none, .int .i64 x, .int .i64 y], σ') ∧ Same σ σ' []) ∨
    (∃ g σ', OkG l ∧ evCall Tryz.prog env L (k + 2) 28 [.slice ad l.length z] σ = some (.tuple #[ptr g, .int .i64 0, .int .i64 0], σ') ∧ DG σ' g [g] (gOf l) ∧ Same σ σ' [] ∧ σ.next ≤ g) := by
  rw [f28_eq]
  have s1 : Same σ (σ.new (.own [.int .i64 0, .int .i64 0, .int .i64 0, .int .i64 0, .slice none 0 0] 149)) [] := Same.new _ _ _
  have g1 : (σ.new (.own [.int .i64 0, .int .i64 0, .int .i64 0, .int .i64 0, .slice none 0 0] 149)).get σ.next = some (.own [.int .i64 0, .int .i64 0, .int .i64 0, .int .i64 0, .slice none 0 0] 149) := get_new_same _ _
  have n1 : (σ.new (.own [.int .i64 0, .int .i64 0, .int .i64 0, .int .i64 0, .slice none 0 0] 149)).next = σ.next + 1 := rfl
  generalize σ.new (.own [.int .i64 0, .int .i64 0, .int .i64 0, .int .i64 0, .slice none 0 0] 149) = σ1 at s1 g1 n1
  have hk1 := hk.step s1 (by simp)
  have h0 := hk.1
  rcases dgnew_loop L k hl hH (σ1 := σ) (by omega) (g := σ.next) (Nat.le_refl _) (z := z) L 0 σ1 (by omega) (by omega) s1 hk1 (by rw [g1, List.take_zero]; rfl) (by omega) ⟨by simp, by simp⟩ with ⟨x, y, σ', h, e, s⟩ | ⟨σ', h, e, hg, s, hlt⟩
  · exact .inl ⟨x, y, σ', h, e, s⟩
  · refine .inr ⟨σ.next, σ', h, e, ⟨⟨none, 0, [], rfl, by simp, hg, Row.nil _ _ _ _⟩, by simpa using hlt, by simp [gOf], by simp [gOf], by simp [gOf]⟩, s, Nat.le_refl _⟩
end Go.AM.Bk

namespace Go.AM.Bk
open Go.Proofs
end Go.AM.Bk

namespace Go.AM.Bk
open Go.Proofs
structure OpB where
  kind : Int
  v : Int
  n : Int
  r : S.Rec
  keep : Int
  next : Bool
def c10 (o : OpB) : List Value := [.int .i64 o.kind, .int .i64 o.v, .int .i64 o.n, .int .i64 o.r.seq, .int .i64 o.r.kind, .int .i64 o.r.block, .string o.r.data, .int .i64 o.r.number, .int .u64 o.keep, .bool o.next]
theorem c10_len (o : OpB) : (c10 o).length = 10 := rfl
theorem few_loop (L k : Nat) {σ0 σ : St} (hk : Kept' σ0.next σ0 σ) {ad : Option Addr} {l : List OpB} (z : Nat) (hl : l.length ≤ 1000) (hH : Holds σ0 10 c10 ad l) : ∀ (n i : Nat), i ≤ l.length → l.length - i < n →
    ∃ b, lpAt Tryz.prog env L k 20 [true, true, false, true] [] n [(0, .slice ad l.length z), (8, .int .i64 l.length), (9, .int .i64 i)] σ = some (.bool b, σ)
  | 0, i, _, hn => by omega
  | n + 1, i, hi, hn => by
    rw [f20_l4]
    by_cases hie : i = l.length
    · rw [decide_eq_false (by omega), br_false]; exact ⟨true, rfl⟩
    have hget : l[i]? = some l[i] := List.getElem?_eq_getElem (by omega)
    obtain ⟨q, e, hat⟩ := hH.ld hk hget
    subst e
    have hw : IntKind.wrap .i64 ((i : Int) + 1) = ((i + 1 : Nat) : Int) := by rw [wrap_in _ (by omega) (by omega)]; omega
    rw [decide_eq_true (by omega), br_true, need_of (by simp [inRange]; omega), adr_some, hat 6 (.string l[i].r.data) _ (by omega) rfl (by simp), asS_s, hw]
    by_cases h : ((l[i].r.data.size : Nat) : Int) > 100
    · rw [decide_eq_true h, br_true]; exact ⟨false, rfl⟩
    · rw [decide_eq_false h, br_false]; exact few_loop L k hk z hl hH n (i + 1) (by omega) (by omega)
theorem few_spec80 (L k : Nat) (hL : 100000 < L) {σ0 σ : St} (hk : Kept' σ0.next σ0 σ) {ad : Option Addr} {l : List OpB} (z : Nat) (hH : Holds σ0 10 c10 ad l) :
    ∃ b, evCall Tryz.prog env L (k + 1) 20 [.slice ad l.length z] σ = some (.bool b, σ) ∧ (b = true → l.length ≤ 80) := by
  rw [f20_eq]
  by_cases h : ((l.length : Nat) : Int) > 80
  · rw [decide_eq_true h, br_true]; exact ⟨false, rfl, fun h => by cases h⟩
  · rw [decide_eq_false h, br_false]
    obtain ⟨b, e⟩ := few_loop L k hk z (by omega) hH L 0 (by omega) (by omega)
    exact ⟨b, e, fun _ => by omega⟩
end Go.AM.Bk

namespace Go.AM.Bk.S
open Go.Proofs
set_option maxRecDepth 4000 in
theorem rright_is (L k : Nat) (σ : St) (r : Rec) : Ends (fun v σ' => v = .bool (decide (Can r)) ∧ Same σ σ' []) (evCall Tryz.prog env L (k + 1) 120 [r.agg] σ) := by
  unfold Rec.agg
  rw [f120_eq]
  generalize hσ1 : σ.new (Blk.own [Value.int IntKind.i64 r.seq, Value.int IntKind.i64 r.kind, Value.int IntKind.i64 r.block, Value.string r.data, Value.int IntKind.i64 r.number] 58) = σ1
  have hn : σ1.get σ.next = some (Blk.own [Value.int IntKind.i64 r.seq, Value.int IntKind.i64 r.kind, Value.int IntKind.i64 r.block, Value.string r.data, Value.int IntKind.i64 r.number] 58) := by rw [← hσ1, get_new_same]
  have hs1 : Same σ σ1 [] := by rw [← hσ1]; exact Same.new _ _ _
  have a0 := fun K => ld_at hn 0 _ rfl K
  have a1 := fun K => ld_at hn 1 _ rfl K
  have a2 := fun K => ld_at hn 2 _ rfl K
  have a3 := fun K => ld_at hn 3 _ rfl K
  have a4 := fun K => ld_at hn 4 _ rfl K
  simp only [a0, a1, a2, a3, a4, asI_i, asS_s, bnd_some, asB_b, empty_eq, bq]
  repeat' first
    | refine can_leaf ?_ hs1
    | refine Ends.br (fun h => ?_) (fun h => ?_)
  all_goals
    simp only [decide_eq_true_eq, decide_eq_false_iff_not, Bool.and_eq_true, Bool.and_eq_false_iff, Bool.false_eq_true, false_iff, true_iff, Can] at *
  all_goals first | omega | (exfalso; rename_i h; exact h trivial)
structure Ref (σ : St) (a : Nat) (F : List Nat) (first : Int) (rs : List Rec) (fast : Nat) (mark : Int) : Prop where
  ex : ∃ qs ad z, F = a :: qs ∧ a ∉ qs ∧ σ.get a = some (.own [.int .i64 first, .int .i64 fast, .int .i64 mark, .slice ad rs.length z] 152) ∧ Row c5 5 58 σ ad z qs rs
  lt : ∀ q ∈ F, q < σ.next
theorem Ref.same {σ σ' : St} {a : Nat} {F S : List Nat} {first mark : Int} {rs : List Rec} {fast : Nat} (h : Ref σ a F first rs fast mark) (hs : Same σ σ' S) (hF : ∀ q ∈ F, q ∉ S) : Ref σ' a F first rs fast mark := by
  obtain ⟨qs, ad, z, rfl, h1, h2, h3⟩ := h.ex
  exact ⟨⟨qs, ad, z, rfl, h1, by rw [hs.2 a (h.lt a (by simp)) (hF a (by simp))]; exact h2, h3.same hs (fun q hq => hF q (by simp [hq]))⟩, fun q hq => by have := h.lt q hq; have := hs.1; omega⟩
theorem Ref.idle {σ σ' : St} {a : Nat} {F : List Nat} {first mark : Int} {rs : List Rec} {fast : Nat} (h : Ref σ a F first rs fast mark) (hs : Same σ σ' []) : Ref σ' a F first rs fast mark := h.same hs (by simp)
def Small (first : Int) (n : Nat) : Prop := 1 ≤ first ∧ first ≤ 1152921504607846976 ∧ n ≤ 1000
section
variable {σ : St} {a : Nat} {F : List Nat} {first mark : Int} {rs : List Rec} {fast : Nat} (h : Ref σ a F first rs fast mark) (L k : Nat) (hb : Small first rs.length)
include h
include hb in
theorem taken_spec : evCall Tryz.prog env L (k + 1) 30 [.pointer (some ⟨a, 0, none⟩)] σ = some (.int .i64 (first + rs.length - 1), σ) := by
  obtain ⟨qs, ad, z, rfl, hne, hg, hrow⟩ := h.ex
  obtain ⟨h0, h1, h2⟩ := hb
  rw [f30_eq, ld_at hg 0 _ rfl, asI_i, ld_at hg 3 _ rfl, asSl_s, wrap_in (first + (rs.length : Int)) (by omega) (by omega), wrap_in _ (by omega) (by omega)]
include hb in
theorem rtake_spec (hl9 : rs.length ≤ 999) (r : Rec) : ∃ (rs' : List Rec) (F' : List Nat) (σ' : St), evCall Tryz.prog env L (k + 2) 73 [.pointer (some ⟨a, 0, none⟩), r.agg] σ = some (.int .i64 (first + rs'.length - 1), σ') ∧ Ref σ' a F' first rs' fast mark ∧ Turn σ σ' F F' ∧ rs' = if Can r ∧ r.seq = first + rs.length then rs ++ [r] else rs := by
  have hb' := hb
  obtain ⟨h0, h1, hl⟩ := hb
  have hagg : r.agg = .agg [.int .i64 r.seq, .int .i64 r.kind, .int .i64 r.block, .string r.data, .int .i64 r.number].toArray := rfl
  rw [hagg, f73_eq]
  generalize hσ1 : σ.new (Blk.own [Value.int IntKind.i64 r.seq, Value.int IntKind.i64 r.kind, Value.int IntKind.i64 r.block, Value.string r.data, Value.int IntKind.i64 r.number] 58) = σ1
  have hn1 : σ1.get σ.next = some (Blk.own [Value.int IntKind.i64 r.seq, Value.int IntKind.i64 r.kind, Value.int IntKind.i64 r.block, Value.string r.data, Value.int IntKind.i64 r.number] 58) := by rw [← hσ1, get_new_same]
  have hs1 : Same σ σ1 [] := by rw [← hσ1]; exact Same.new _ _ _
  have hx1 : σ1.next = σ.next + 1 := by rw [← hσ1]; rfl
  obtain ⟨v, σ2, g2, rfl, hs2⟩ := rright_is L k σ1 r
  have hs12 := hs1.trans hs2
  have hn2 : σ2.get σ.next = some (Blk.own [Value.int IntKind.i64 r.seq, Value.int IntKind.i64 r.kind, Value.int IntKind.i64 r.block, Value.string r.data, Value.int IntKind.i64 r.number] 58) := by rw [hs2.2 _ (by omega) (by simp)]; exact hn1
  have h2 := h.idle hs12
  rw [lds_all (n := 5) hn1 rfl, uncons_c, asI_i, uncons_c, asI_i, uncons_c, asI_i, uncons_c, asS_s, uncons_c, asI_i, endl_n, show Value.agg #[Value.int .i64 r.seq, .int .i64 r.kind, .int .i64 r.block, .string r.data, .int .i64 r.number] = r.agg from rfl, g2, bnd_some, asB_b]
  by_cases hc : Can r
  rotate_left
  · rw [decide_eq_false hc, br_false, taken_spec h2 L k hb', bnd_some, asI_i, if_neg (fun hh => hc hh.1)]
    exact ⟨rs, F, σ2, rfl, h2, .idle hs12 h.lt, rfl⟩
  have hq1 : r.seq ≤ 1152921504606846975 := hc.1.2
  rw [decide_eq_true hc, br_true, ld_at hn2 0 _ rfl, asI_i, taken_spec h2 L k hb', bnd_some, asI_i, ld_at hn2 0 _ rfl, asI_i, chk_same, wrap_in (first + (rs.length : Int) - 1 + 1) (by omega) (by omega)]
  by_cases hq : r.seq = first + rs.length
  rotate_left
  · rw [show (r.seq == first + (rs.length : Int) - 1 + 1) = false by rw [bq]; exact decide_eq_false (by omega), br_false, taken_spec h2 L k hb', bnd_some, asI_i, if_neg (fun hh => hq hh.2)]
    exact ⟨rs, F, σ2, rfl, h2, .idle hs12 h.lt, rfl⟩
  obtain ⟨qs, ad, z, rfl, hne, hg, hrow⟩ := h.ex
  have hlt := h.lt
  have hal := hlt a (by simp)
  have hg2 : σ2.get a = _ := (hs12.2 a hal (by simp)).trans hg
  rw [show (r.seq == first + (rs.length : Int) - 1 + 1) = true by rw [bq]; exact decide_eq_true (by omega), br_true, ld_at hg2 3 _ rfl, asSl_s, lds_all (n := 5) hn2 rfl, uncons_c, asI_i, uncons_c, asI_i, uncons_c, asI_i, uncons_c, asS_s, uncons_c, asI_i, endl_n]
  generalize hσ3 : σ2.new (Blk.own [Value.int IntKind.i64 r.seq, Value.int IntKind.i64 r.kind, Value.int IntKind.i64 r.block, Value.string r.data, Value.int IntKind.i64 r.number] 58) = σ3
  have hn3 : σ3.get σ2.next = some (Blk.own [Value.int IntKind.i64 r.seq, Value.int IntKind.i64 r.kind, Value.int IntKind.i64 r.block, Value.string r.data, Value.int IntKind.i64 r.number] 58) := by rw [← hσ3, get_new_same]
  have hs3 : Same σ2 σ3 [] := by rw [← hσ3]; exact Same.new _ _ _
  have hs13 := hs12.trans hs3
  have h3n := hs13.1
  have h3n' := hs3.1
  have hg3 : σ3.get a = _ := (hs13.2 a hal (by simp)).trans hg
  have hrow3 := hrow.same hs13 (fun _ _ => by simp)
  rw [ld_at hg3 3 _ rfl, asSl_s, chk_same, row_all (n := 5) hn3 rfl (by omega)]
  obtain ⟨ad', z', qs', σ4, hgrow, hrow4, hs4, hq4⟩ := grow_row (by_ := 48) hrow3 c5_len c5_one (by omega) [r] (c5 r) (by simp) 1 rfl (by unfold roomTop; omega) (by unfold sizeTop; omega)
  have hgr := hgrow
  rw [show c5 r = [Value.int IntKind.i64 r.seq, Value.int IntKind.i64 r.kind, Value.int IntKind.i64 r.block, Value.string r.data, Value.int IntKind.i64 r.number] from rfl] at hgr
  rw [hgr]
  have hg4 : σ4.get a = _ := (hs4.2 a (by omega) hne).trans hg3
  have h4n := hs4.1
  rw [put_sl hg4 3 _ _ _ (by simp)]
  have hs5 := Same.set σ4 a (.own (List.set [Value.int .i64 first, .int .i64 fast, .int .i64 mark, .slice ad rs.length z] 3 (.slice ad' (rs.length + 1) z')) 152)
  have hne' : a ∉ qs' := fun hx => by
    rcases hq4 a hx with hx | hx
    · exact hne hx
    · omega
  have hR5 : Ref (σ4.set a (.own (List.set [Value.int .i64 first, .int .i64 fast, .int .i64 mark, .slice ad rs.length z] 3 (.slice ad' (rs.length + 1) z')) 152)) a (a :: qs') first (rs ++ [r]) fast mark :=
    ⟨⟨qs', ad', z', rfl, hne', by rw [get_set_same, List.length_append]; rfl, hrow4.same hs5 (fun q hq => by simp; rintro rfl; exact hne' hq)⟩, fun q hq => by
      rcases List.mem_cons.1 hq with rfl | hq
      · simp; omega
      · have := hrow4.lt q hq; simpa using this⟩
  rw [taken_spec hR5 L k ⟨h0, h1, by simp; omega⟩, bnd_some, asI_i, if_pos ⟨hc, hq⟩]
  refine ⟨rs ++ [r], a :: qs', _, rfl, hR5, ⟨⟨by simp; omega, fun j hj hS => ?_⟩, fun q hq => ?_⟩, rfl⟩
  · simp only [List.mem_cons, not_or] at hS
    rw [hs5.2 j (by omega) (by simp; exact hS.1), hs4.2 j (by omega) hS.2, hs13.2 j hj (by simp)]
  · refine ⟨?_, hR5.lt q hq⟩
    rcases List.mem_cons.1 hq with rfl | hq
    · exact .inl (by simp)
    · rcases hq4 q hq with hq | hq
      · exact .inl (by simp [hq])
      · exact .inr (by omega)
theorem rupto_loop (hf : fast ≤ rs.length) (hl : rs.length ≤ 1000) (m : Int) : ∀ (n i : Nat), i ≤ fast → fast - i < n → (∀ j r, j < i → rs[j]? = some r → ¬ Hit m r) →
    (∃ (j : Nat) (r : Rec), lpAt Tryz.prog env L k 76 [true, false, true] [] n [(0, .pointer (some ⟨a, 0, none⟩)), (1, .int .i64 m), (5, .int .i64 i)] σ = some (.int .i64 (j + 1 : Nat), σ) ∧ j < fast ∧ rs[j]? = some r ∧ Hit m r ∧ ∀ j' r', j' < j → rs[j']? = some r' → ¬ Hit m r') ∨
    (lpAt Tryz.prog env L k 76 [true, false, true] [] n [(0, .pointer (some ⟨a, 0, none⟩)), (1, .int .i64 m), (5, .int .i64 i)] σ = some (.int .i64 (-1), σ) ∧ ∀ j r, j < fast → rs[j]? = some r → ¬ Hit m r)
  | 0, i, _, hn, _ => by omega
  | n + 1, i, hi, hn, hno => by
    obtain ⟨qs, ad, z, hF, hne, hg, hrow⟩ := h.ex
    rw [f76_l2, ld_at hg (0 + 1) _ rfl, asI_i]
    by_cases hie : i = fast
    · rw [decide_eq_false (by omega), br_false]
      exact .inr ⟨rfl, by rw [← hie]; exact hno⟩
    · have hget : rs[i]? = some rs[i] := List.getElem?_eq_getElem (by omega)
      obtain ⟨q, e, hat⟩ := hrow.at c5_len hget
      generalize rs[i] = r at hat hget
      have hw : IntKind.wrap .i64 ((i : Int) + 1) = ((i + 1 : Nat) : Int) := by rw [wrap_in _ (by omega) (by omega)]; omega
      rw [decide_eq_true (by omega), br_true, ld_at hg (0 + 3) _ rfl, asSl_s, need_of (by simp [inRange]; omega), e, adr_some, hat 1 (.int .i64 r.kind) _ (by omega) rfl (by simp), asI_i, bq]
      have next : ¬ Hit m r → _ := fun hh => rupto_loop hf hl m n (i + 1) (by omega) (by omega) (fun j r' hj hr' => by
        by_cases hji : j = i
        · subst hji; rw [hget] at hr'; cases hr'; exact hh
        · exact hno j r' (by omega) hr')
      by_cases hk : r.kind = 2
      · rw [decide_eq_true hk, br_true, ld_at hg (0 + 3) _ rfl, asSl_s, need_of (by simp [inRange]; omega), e, adr_some, hat 4 (.int .i64 r.number) _ (by omega) rfl (by simp), asI_i, hw, bq]
        by_cases hm : r.number = m
        · rw [decide_eq_true hm, br_true]
          exact .inl ⟨i, r, rfl, by omega, hget, ⟨hk, hm⟩, hno⟩
        · rw [decide_eq_false hm, br_false]
          exact next (fun hh => hm hh.2)
      · rw [decide_eq_false hk, br_false, hw]
        exact next (fun hh => hk hh.1)
theorem rupto_spec (hL : 1000 < L) (hf : fast ≤ rs.length) (hl : rs.length ≤ 1000) (m : Int) :
    (∃ (j : Nat) (r : Rec), evCall Tryz.prog env L (k + 1) 76 [.pointer (some ⟨a, 0, none⟩), .int .i64 m] σ = some (.int .i64 (j + 1 : Nat), σ) ∧ j < fast ∧ rs[j]? = some r ∧ Hit m r ∧ ∀ j' r', j' < j → rs[j']? = some r' → ¬ Hit m r') ∨
    (evCall Tryz.prog env L (k + 1) 76 [.pointer (some ⟨a, 0, none⟩), .int .i64 m] σ = some (.int .i64 (-1), σ) ∧ ∀ j r, j < fast → rs[j]? = some r → ¬ Hit m r) := by
  rw [f76_eq]
  exact rupto_loop h L k hf hl m L 0 (by omega) (by omega) (fun j r hj => by omega)
include hb in
theorem rdrop_spec (hL : 1000 < L) (hf : fast ≤ rs.length) (m : Int) :
    (∃ (j : Nat) (r : Rec) (F' : List Nat) (σ' : St), evCall Tryz.prog env L (k + 2) 122 [.pointer (some ⟨a, 0, none⟩), .int .i64 m] σ = some (.int .i64 0, σ') ∧ Ref σ' a F' (first + (j + 1 : Nat)) (rs.drop (j + 1)) (fast - (j + 1)) m ∧ Turn σ σ' F F' ∧ j < fast ∧ rs[j]? = some r ∧ Hit m r ∧ ∀ j' r', j' < j → rs[j']? = some r' → ¬ Hit m r') ∨
    (evCall Tryz.prog env L (k + 2) 122 [.pointer (some ⟨a, 0, none⟩), .int .i64 m] σ = some (.int .i64 8, σ) ∧ ∀ j r, j < fast → rs[j]? = some r → ¬ Hit m r) := by
  obtain ⟨h0, h1, hl⟩ := hb
  rw [f122_eq]
  rcases rupto_spec h L k hL hf hl m with ⟨j, r, g, hj, hr, hh, hno⟩ | ⟨g, hno⟩
  rotate_left
  · rw [g, bnd_some, asI_i, show decide ((-1 : Int) < 0) = true from rfl, br_true]
    exact .inr ⟨rfl, hno⟩
  obtain ⟨qs, ad, z, rfl, hne, hg, hrow⟩ := h.ex
  have hlt := h.lt
  have hal := hlt a (by simp)
  rw [g, bnd_some, asI_i, decide_eq_false (by omega), br_false, put_int hg 2 _ _ (by simp)]
  have g2 : (σ.set a (.own (List.set [.int .i64 first, .int .i64 fast, .int .i64 mark, .slice ad rs.length z] 2 (.int .i64 m)) 152)).get a = some (.own [.int .i64 first, .int .i64 fast, .int .i64 m, .slice ad rs.length z] 152) := by rw [get_set_same]; rfl
  have s2 := Same.set σ a (.own (List.set [.int .i64 first, .int .i64 fast, .int .i64 mark, .slice ad rs.length z] 2 (.int .i64 m)) 152)
  have e2 : (σ.set a (.own (List.set [.int .i64 first, .int .i64 fast, .int .i64 mark, .slice ad rs.length z] 2 (.int .i64 m)) 152)).next = σ.next := rfl
  generalize σ.set a (.own (List.set [.int .i64 first, .int .i64 fast, .int .i64 mark, .slice ad rs.length z] 2 (.int .i64 m)) 152) = σ2 at g2 s2 e2
  rw [ld_at g2 0 _ rfl, asI_i, wrap_in (first + ((j + 1 : Nat) : Int)) (by omega) (by omega), put_int g2 0 _ _ (by simp)]
  have g3 : (σ2.set a (.own (List.set [.int .i64 first, .int .i64 fast, .int .i64 m, .slice ad rs.length z] 0 (.int .i64 (first + ((j + 1 : Nat) : Int)))) 152)).get a = some (.own [.int .i64 (first + ((j + 1 : Nat) : Int)), .int .i64 fast, .int .i64 m, .slice ad rs.length z] 152) := by rw [get_set_same]; rfl
  have s3 := Same.set σ2 a (.own (List.set [.int .i64 first, .int .i64 fast, .int .i64 m, .slice ad rs.length z] 0 (.int .i64 (first + ((j + 1 : Nat) : Int)))) 152)
  have e3 : (σ2.set a (.own (List.set [.int .i64 first, .int .i64 fast, .int .i64 m, .slice ad rs.length z] 0 (.int .i64 (first + ((j + 1 : Nat) : Int)))) 152)).next = σ2.next := rfl
  generalize σ2.set a (.own (List.set [.int .i64 first, .int .i64 fast, .int .i64 m, .slice ad rs.length z] 0 (.int .i64 (first + ((j + 1 : Nat) : Int)))) 152) = σ3 at g3 s3 e3
  rw [ld_at g3 1 _ rfl, asI_i, wrap_in _ (by omega) (by omega), put_int g3 1 _ _ (by simp), show (fast : Int) - ((j + 1 : Nat) : Int) = ((fast - (j + 1) : Nat) : Int) by omega]
  have g4 : (σ3.set a (.own (List.set [.int .i64 (first + ((j + 1 : Nat) : Int)), .int .i64 fast, .int .i64 m, .slice ad rs.length z] 1 (.int .i64 ((fast - (j + 1) : Nat) : Int))) 152)).get a = some (.own [.int .i64 (first + ((j + 1 : Nat) : Int)), .int .i64 ((fast - (j + 1) : Nat) : Int), .int .i64 m, .slice ad rs.length z] 152) := by rw [get_set_same]; rfl
  have s4 := Same.set σ3 a (.own (List.set [.int .i64 (first + ((j + 1 : Nat) : Int)), .int .i64 fast, .int .i64 m, .slice ad rs.length z] 1 (.int .i64 ((fast - (j + 1) : Nat) : Int))) 152)
  have e4 : (σ3.set a (.own (List.set [.int .i64 (first + ((j + 1 : Nat) : Int)), .int .i64 fast, .int .i64 m, .slice ad rs.length z] 1 (.int .i64 ((fast - (j + 1) : Nat) : Int))) 152)).next = σ3.next := rfl
  generalize σ3.set a (.own (List.set [.int .i64 (first + ((j + 1 : Nat) : Int)), .int .i64 fast, .int .i64 m, .slice ad rs.length z] 1 (.int .i64 ((fast - (j + 1) : Nat) : Int))) 152) = σ4 at g4 s4 e4
  have s14 := (s2.trans s3).trans s4
  have hrow4 := hrow.same s14 (fun q hq => by simp; rintro rfl; exact hne hq)
  generalize hσ5 : σ4.new (Blk.own [] 58) = σ5
  have hs5 : Same σ4 σ5 [] := by rw [← hσ5]; exact Same.new _ _ _
  have n5 : σ5.next = σ4.next + 1 := by rw [← hσ5]; rfl
  have g5 : σ5.get a = _ := (hs5.2 a (by omega) (by simp)).trans g4
  have hE : Row c5 5 58 σ5 (some ⟨σ4.next, 0, none⟩) 5 [σ4.next] [] := ⟨by rw [← hσ5]; simp, .inr ⟨σ4.next, [], rfl, rfl, rfl, by rw [← hσ5, get_new_same]; rfl⟩⟩
  have hrow5 := hrow4.same hs5 (by simp)
  have hdl : (rs.drop (j + 1)).length = rs.length - (j + 1) := List.length_drop
  obtain ⟨ad6, z6, q6, σ6, hgrow, hR6, hs6, hq6⟩ := grow_row (by_ := 48) hE c5_len c5_one (by omega) (rs.drop (j + 1)) ((rs.drop (j + 1)).flatMap c5) rfl (rs.length - (j + 1)) hdl.symm (by unfold roomTop; simp; omega) (by unfold sizeTop; simp; omega)
  rw [ld_at g5 3 _ rfl, asSl_s, need_of (by rcases hrow.z with e | e <;> rw [e] <;> rfl), need_of (by simp [inRange]; omega), show Int.toNat ((j + 1 : Nat) : Int) = j + 1 from rfl, hrow5.part c5_len (j + 1) (rs.length - (j + 1)) (by omega) ((j + 1) * 5) ((rs.length - (j + 1)) * 5) rfl rfl, List.take_of_length_le (by rw [hdl]; exact Nat.le_refl _)]
  have hgr := hgrow
  rw [List.length_nil] at hgr
  rw [hgr, Nat.zero_add]
  rw [List.nil_append] at hR6
  have g6 : σ6.get a = _ := (hs6.2 a (by omega) (by simp; omega)).trans g5
  have n6 := hs6.1
  rw [put_sl g6 3 _ _ _ (by simp)]
  have hne6 : a ∉ q6 := fun hx => by
    rcases hq6 a hx with hx | hx
    · simp at hx; omega
    · omega
  have s7 := Same.set σ6 a (.own (List.set [.int .i64 (first + ((j + 1 : Nat) : Int)), .int .i64 ((fast - (j + 1) : Nat) : Int), .int .i64 m, .slice ad rs.length z] 3 (.slice ad6 (rs.length - (j + 1)) z6)) 152)
  refine .inl ⟨j, r, a :: q6, _, rfl, ⟨⟨q6, ad6, z6, rfl, hne6, by rw [get_set_same, hdl]; rfl, hR6.same s7 (fun q hq => by simp; rintro rfl; exact hne6 hq)⟩, fun q hq => ?_⟩, ⟨⟨by simp; omega, fun b hb hS => ?_⟩, fun q hq => ?_⟩, hj, hr, hh, hno⟩
  · rcases List.mem_cons.1 hq with rfl | hq
    · simp; omega
    · have := hR6.lt q hq; simpa using this
  · simp only [List.mem_cons, not_or] at hS
    rw [s7.2 b (by omega) (by simp; exact hS.1), hs6.2 b (by omega) (by simp; omega), hs5.2 b (by omega) (by simp), s14.2 b (by omega) (by simp; exact hS.1)]
  · rcases List.mem_cons.1 hq with rfl | hq
    · exact ⟨.inl (by simp), by simp; omega⟩
    · refine ⟨.inr ?_, by have := hR6.lt q hq; simpa using this⟩
      rcases hq6 q hq with hx | hx
      · simp at hx; omega
      · omega
theorem rmarks_loop (hf : fast ≤ rs.length) (hl : rs.length ≤ 1000) : ∀ (n i : Nat) (σ' : St) (adO : Option Addr) (zO : Nat) (qO : List Nat), i ≤ fast → fast - i < n → Row c1 1 3 σ' adO zO qO (marksOf (rs.take i)) → Same σ σ' [] → (∀ q ∈ qO, σ.next ≤ q) →
    Ends (fun v σ9 => ∃ adO zO qO, v = .slice adO (marksOf (rs.take fast)).length zO ∧ Row c1 1 3 σ9 adO zO qO (marksOf (rs.take fast)) ∧ Same σ σ9 [] ∧ ∀ q ∈ qO, σ.next ≤ q)
      (lpAt Tryz.prog env L k 83 [true, true, false, true] [] n [(0, .pointer (some ⟨a, 0, none⟩)), (3, .slice adO (marksOf (rs.take i)).length zO), (4, .int .i64 i)] σ')
  | 0, i, σ', adO, zO, qO, _, hn, _, _, _ => by omega
  | n + 1, i, σ', adO, zO, qO, hi, hn, hO, hs, hq => by
    obtain ⟨qs, ad, z, hF, hne, hg0, hrow0⟩ := h.ex
    have hal := h.lt a (by rw [hF]; simp)
    have hg : σ'.get a = _ := (hs.2 a hal (by simp)).trans hg0
    have hrow := hrow0.same hs (by simp)
    rw [f83_l3, ld_at hg (0 + 1) _ rfl, asI_i]
    by_cases hie : i = fast
    · subst hie
      rw [decide_eq_false (by omega), br_false]
      exact .leaf ⟨adO, zO, qO, rfl, hO, hs, hq⟩
    · have hget : rs[i]? = some rs[i] := List.getElem?_eq_getElem (by omega)
      obtain ⟨q, e, hat⟩ := hrow.at c5_len hget
      have htk : rs.take (i + 1) = rs.take i ++ [rs[i]] := by rw [List.take_add_one, hget]; rfl
      generalize rs[i] = r at hat hget htk
      have hw : IntKind.wrap .i64 ((i : Int) + 1) = ((i + 1 : Nat) : Int) := by rw [wrap_in _ (by omega) (by omega)]; omega
      have hsn := marksOf_snoc (rs.take i) r
      rw [← htk] at hsn
      rw [decide_eq_true (by omega), br_true, ld_at hg (0 + 3) _ rfl, asSl_s, need_of (by simp [inRange]; omega), e, adr_some, hat 1 (.int .i64 r.kind) _ (by omega) rfl (by simp), asI_i, bq]
      by_cases hk : r.kind = 2
      · rw [if_pos hk] at hsn
        rw [decide_eq_true hk, br_true, ld_at hg (0 + 3) _ rfl, asSl_s, need_of (by simp [inRange]; omega), e, adr_some, hat 4 (.int .i64 r.number) _ (by omega) rfl (by simp), asI_i, hw]
        generalize hσ2 : σ'.new (Blk.own [Value.int IntKind.i64 r.number] 3) = σ2
        have hnew : σ2.get σ'.next = some (Blk.own [Value.int IntKind.i64 r.number] 3) := by rw [← hσ2, get_new_same]
        have hs2 : Same σ' σ2 [] := by rw [← hσ2]; exact Same.new _ _ _
        have hml := marksOf_len (rs.take i)
        rw [List.length_take] at hml
        obtain ⟨ad', z', q', σ3, hgrow, hO3, hs3, hq3⟩ := grow_row (by_ := 8) (hO.same hs2 (by simp)) c1_len c1_one (by omega) [r.number] [Value.int .i64 r.number] rfl 1 rfl (by unfold roomTop; omega) (by unfold sizeTop; omega)
        rw [row_one hnew, hgrow]
        have hlen : (marksOf (rs.take i)).length + 1 = (marksOf (rs.take (i + 1))).length := by rw [hsn]; simp
        rw [hlen]
        rw [← hsn] at hO3
        have hs02 := hs.trans hs2
        exact rmarks_loop hf hl n (i + 1) σ3 ad' z' q' (by omega) (by omega) hO3 (hs02.fresh hs3 (fun x hx => .inr (hq x hx))) (fun x hx => by
          rcases hq3 x hx with h | h
          · exact hq x h
          · have := hs02.1; omega)
      · rw [if_neg hk] at hsn
        rw [decide_eq_false hk, br_false, hw]
        rw [← hsn] at hO ⊢
        exact rmarks_loop hf hl n (i + 1) σ' adO zO qO (by omega) (by omega) hO hs hq
theorem rmarks_spec (hL : 1000 < L) (hf : fast ≤ rs.length) (hl : rs.length ≤ 1000) :
    Ends (fun v σ' => ∃ adO zO qO, v = .slice adO (marksOf (rs.take fast)).length zO ∧ Row c1 1 3 σ' adO zO qO (marksOf (rs.take fast)) ∧ Same σ σ' [] ∧ ∀ q ∈ qO, σ.next ≤ q) (evCall Tryz.prog env L (k + 1) 83 [.pointer (some ⟨a, 0, none⟩)] σ) := by
  rw [f83_eq]
  exact rmarks_loop h L k hf hl L 0 σ none 0 [] (by omega) (by omega) (Row.nil _ _ _ _) (Same.refl _ _) (by simp)
end
end Go.AM.Bk.S

namespace Go.AM.Bk.D
open Go.Proofs
theorem fdiv_pow (x i : Nat) : Int.fdiv (x : Int) (2 ^ i) = ((x / 2 ^ i : Nat) : Int) := by
  rw [show ((2 : Int) ^ i) = ((2 ^ i : Nat) : Int) by simp]
  exact (Int.ofNat_fdiv x (2 ^ i)).symm
theorem and_one (x : Nat) (hx : x < 18446744073709551616) : ibit .and .u64 (x : Int) 1 = ((x % 2 : Nat) : Int) := by
  unfold ibit
  simp only
  rw [show IntKind.bits .u64 = 64 from rfl, show BitVec.ofInt 64 (x : Int) = BitVec.ofNat 64 x from BitVec.ofInt_natCast 64 x, show BitVec.ofInt 64 1 = BitVec.ofNat 64 1 from rfl, BitVec.toNat_and, BitVec.toNat_ofNat, BitVec.toNat_ofNat]
  rw [Nat.mod_eq_of_lt (show x < 2 ^ 64 by omega), show (1 % 2 ^ 64 : Nat) = 1 from rfl, Nat.and_one_is_mod]
  rw [show ∀ y : Int, IntKind.wrap .u64 y = y % 18446744073709551616 from fun _ => rfl]
  omega
theorem shr_lt (x i : Nat) (hx : x < 18446744073709551616) : x / 2 ^ i < 18446744073709551616 := Nat.lt_of_le_of_lt (Nat.div_le_self _ _) hx
def str (s : Sec) : ByteArray := ⟨s.1.toArray⟩
def rs (s : Sec) : List Value := [.string (str s)]
def rw2 (w : Lw) : List Value := [.int .i64 w.at_, .string (str w.b)]
theorem rs_len (s : Sec) : (rs s).length = 1 := rfl
theorem rs_one (s : Sec) : (rs s).all oneCell = true := rfl
theorem rw2_len (w : Lw) : (rw2 w).length = 2 := rfl
theorem rw2_one (w : Lw) : (rw2 w).all oneCell = true := rfl
structure Ref (σ : St) (a : Nat) (F : List Nat) (S : List Sec) (W : List Lw) : Prop where
  ex : ∃ q1 q2 ad1 z1 ad2 z2, F = a :: (q1 ++ q2) ∧ σ.get a = some (.own [.slice ad1 S.length z1, .slice ad2 W.length z2] 98) ∧ Row rs 1 9 σ ad1 z1 q1 S ∧ Row rw2 2 106 σ ad2 z2 q2 W ∧ a ∉ q1 ∧ a ∉ q2 ∧ ∀ q ∈ q1, q ∉ q2
  lt : ∀ q ∈ F, q < σ.next
theorem Ref.same {σ σ' : St} {a : Nat} {F G : List Nat} {S : List Sec} {W : List Lw} (h : Ref σ a F S W) (hs : Same σ σ' G) (hF : ∀ q ∈ F, q ∉ G) : Ref σ' a F S W := by
  obtain ⟨q1, q2, ad1, z1, ad2, z2, rfl, h1, h2, h3, h4⟩ := h.ex
  exact ⟨⟨q1, q2, ad1, z1, ad2, z2, rfl, by rw [hs.2 a (h.lt a (by simp)) (hF a (by simp))]; exact h1, h2.same hs (fun q hq => hF q (by simp [hq])), h3.same hs (fun q hq => hF q (by simp [hq])), h4⟩, fun q hq => by have := h.lt q hq; have := hs.1; omega⟩
theorem Ref.idle {σ σ' : St} {a : Nat} {F : List Nat} {S : List Sec} {W : List Lw} (h : Ref σ a F S W) (hs : Same σ σ' []) : Ref σ' a F S W := h.same hs (by simp)
theorem rnew_loop (L k : Nat) {a N : Nat} {σ0 : St} (hN : N ≤ 70) (ha0 : σ0.next ≤ a) : ∀ (n i : Nat) (σ : St) (F : List Nat), i ≤ N → N - i < n → Ref σ a F (List.replicate i zsec) [] → Same σ0 σ [] → (∀ q ∈ F, σ0.next ≤ q) →
    ∃ F' σ9, lpAt Tryz.prog env L k 9 [true, true, false, true] [] n [(0, .int .i64 (N : Nat)), (3, ptr a), (4, .int .i64 i)] σ = some (ptr a, σ9) ∧ Ref σ9 a F' (List.replicate N zsec) [] ∧ Same σ0 σ9 [] ∧ ∀ q ∈ F', σ0.next ≤ q
  | 0, i, σ, F, _, h, _, _, _ => by omega
  | n + 1, i, σ, F, hi, h, hR, hs, hF => by
    rw [f9_l3]
    by_cases hie : i = N
    · subst hie
      rw [decide_eq_false (by omega), br_false]
      exact ⟨F, σ, rfl, hR, hs, hF⟩
    · obtain ⟨q1, q2, ad1, z1, ad2, z2, rfl, h1, h2, h3, ha1, ha2, hd⟩ := hR.ex
      have hw : IntKind.wrap .i64 ((i : Int) + 1) = ((i + 1 : Nat) : Int) := by rw [wrap_in _ (by omega) (by omega)]; omega
      have hlt := hR.lt
      have hal := hlt a (by simp)
      rw [decide_eq_true (by omega), br_true, decide_eq_true (by omega), br_true, ld_at h1 (0 + 0) _ rfl, asSl_s, zerosN_one, show List.replicate 64 (Value.int .u8 0) = by8 (List.replicate 64 0) by rw [by8, List.map_replicate]; rfl]
      generalize hσ1 : σ.new (.own (by8 (List.replicate 64 0)) 5) = σ1
      have g1 : σ1.get σ.next = some (.own (by8 (List.replicate 64 0)) 5) := by rw [← hσ1, get_new_same]
      have s1 : Same σ σ1 [] := by rw [← hσ1]; exact Same.new _ _ _
      have n1 : σ1.next = σ.next + 1 := by rw [← hσ1]; rfl
      have h11 : σ1.get a = _ := (s1.2 a hal (by simp)).trans h1
      rw [ld_at h11 (0 + 0) _ rfl, asSl_s, chk_same, (Bytes.own g1 (by omega)).row 64 (List.length_replicate).symm, asBy_by8]
      generalize hσ2 : σ1.new (.own [.string ⟨(List.replicate 64 (0 : UInt8)).toArray⟩] 9) = σ2
      have g2 : σ2.get σ1.next = some (.own [.string ⟨(List.replicate 64 (0 : UInt8)).toArray⟩] 9) := by rw [← hσ2, get_new_same]
      have s2 : Same σ1 σ2 [] := by rw [← hσ2]; exact Same.new _ _ _
      have n2 : σ2.next = σ1.next + 1 := by rw [← hσ2]; rfl
      have h12 : σ2.get a = _ := (s2.2 a (by omega) (by simp)).trans h11
      rw [ld_at h12 (0 + 0) _ rfl, asSl_s, chk_same, row_one g2]
      have s12 := s1.trans s2
      obtain ⟨ad', z', q', σ3, hgrow, hr3, s3, hq3⟩ := grow_row (by_ := 16) (h2.same s12 (by simp)) rs_len rs_one (by omega) [zsec] [.string ⟨(List.replicate 64 (0 : UInt8)).toArray⟩] rfl 1 rfl (by rw [List.length_replicate]; unfold roomTop; omega) (by rw [List.length_replicate]; unfold sizeTop; omega)
      rw [hgrow]
      have h13 : σ3.get a = _ := (s3.2 a (by omega) ha1).trans h12
      rw [put_sl h13 (0 + 0) _ _ _ (by simp), hw]
      have s4 := Same.set σ3 a (.own (List.set [Value.slice ad1 (List.replicate i zsec).length z1, .slice ad2 ([] : List Lw).length z2] (0 + 0) (.slice ad' ((List.replicate i zsec).length + 1) z')) 98)
      have hne' : a ∉ q' := fun hx => by
        rcases hq3 a hx with hx | hx
        · exact ha1 hx
        · omega
      have n3 := s3.1
      have hrep : List.replicate i zsec ++ [zsec] = List.replicate (i + 1) zsec := List.replicate_succ'.symm
      rw [hrep] at hr3
      refine rnew_loop L k hN ha0 n (i + 1) _ (a :: (q' ++ q2)) (by omega) (by omega) ⟨⟨q', q2, ad', z', ad2, z2, rfl, by rw [get_set_same, List.length_replicate, List.length_replicate]; rfl, hr3.same s4 (fun q hq => by simp; rintro rfl; exact hne' hq), ((h3.same s12 (by simp)).same s3 (fun q hq hq' => hd q hq' hq)).same s4 (fun q hq => by simp; rintro rfl; exact ha2 hq), hne', ha2, fun q hq hq' => ?_⟩, fun q hq => ?_⟩ ⟨by have := hs.1; simp; omega, fun j hj _ => ?_⟩ (fun q hq => ?_)
      · rcases hq3 q hq with hx | hx
        · exact hd q hx hq'
        · have := hlt q (by simp [hq']); omega
      · simp only [next_set]
        rcases List.mem_cons.1 hq with rfl | hq
        · omega
        · rcases List.mem_append.1 hq with hq | hq
          · exact hr3.lt q hq
          · have := hlt q (by simp [hq]); omega
      · have hj2 : j < σ.next := by have := hs.1; omega
        rw [s4.2 j (by omega) (by simp; omega), s3.2 j (by omega) (fun hx => by have := hF j (by simp [hx]); omega), s12.2 j hj2 (by simp), hs.2 j hj (by simp)]
      · rcases List.mem_cons.1 hq with rfl | hq
        · exact hF _ (by simp)
        · rcases List.mem_append.1 hq with hq | hq
          · rcases hq3 q hq with hx | hx
            · exact hF q (by simp [hx])
            · have := hs.1; omega
          · exact hF q (by simp [hq])
theorem rnew_spec (L k : Nat) (hL : 100 < L) (σ : St) (N : Nat) (hN : N ≤ 70) : ∃ a F σ', evCall Tryz.prog env L (k + 1) 9 [.int .i64 (N : Nat)] σ = some (ptr a, σ') ∧ Ref σ' a F (List.replicate N zsec) [] ∧ Same σ σ' [] ∧ ∀ q ∈ F, σ.next ≤ q := by
  rw [f9_eq]
  obtain ⟨F', σ9, g, h1, h2, h3⟩ := rnew_loop L k (a := σ.next) (σ0 := σ) hN (Nat.le_refl _) L 0 (σ.new (.own [.slice none 0 0, .slice none 0 0] 98)) [σ.next] (by omega) (by omega) ⟨⟨[], [], none, 0, none, 0, rfl, get_new_same _ _, Row.nil _ _ _ _, Row.nil _ _ _ _, by simp, by simp, by simp⟩, by simp⟩ (Same.new _ _ _) (by simp)
  exact ⟨σ.next, F', σ9, g, h1, h2, h3⟩
section
variable {σ : St} {a : Nat} {F : List Nat} {S : List Sec} {W : List Lw} (h : Ref σ a F S W) (L k : Nat)
include h
theorem rwrite_spec (hW : W.length ≤ 100000) (i : Int) (s : ByteArray) :
    ∃ (c : Int) (σ' : St), evCall Tryz.prog env L (k + 1) 11 [ptr a, .int .i64 i, .string s] σ = some (.int .i64 c, σ') ∧
      ((∃ (F' : List Nat) (hl : s.data.toList.length = 64), c = 0 ∧ 0 ≤ i ∧ i < S.length ∧ Ref σ' a F' S (W ++ [⟨i, ⟨s.data.toList, hl⟩⟩]) ∧ Turn σ σ' F F') ∨
       (¬ (0 ≤ i ∧ i < S.length) ∧ c = 5 ∧ σ' = σ) ∨ ((0 ≤ i ∧ i < S.length) ∧ s.data.toList.length ≠ 64 ∧ c = 1 ∧ σ' = σ)) := by
  obtain ⟨q1, q2, ad1, z1, ad2, z2, rfl, h1, h2, h3, ha1, ha2, hd⟩ := h.ex
  have hlt := h.lt
  have hal := hlt a (by simp)
  rw [f11_eq]
  by_cases c0 : i < 0
  · rw [decide_eq_true c0, br_true]
    exact ⟨5, σ, rfl, .inr (.inl ⟨by omega, rfl, rfl⟩)⟩
  rw [decide_eq_false c0, br_false, ld_at h1 0 _ rfl, asSl_s]
  by_cases c1 : i ≥ S.length
  · rw [decide_eq_true c1, br_true]
    exact ⟨5, σ, rfl, .inr (.inl ⟨by omega, rfl, rfl⟩)⟩
  rw [decide_eq_false c1, br_false]
  have hsz : s.size = s.data.toList.length := by rw [Array.length_toList]; rfl
  by_cases c2 : s.data.toList.length = 64
  rotate_left
  · rw [show ((s.size : Int) != 64) = true by rw [hsz]; simp only [bne_iff_ne, ne_eq]; omega, br_true]
    exact ⟨1, σ, rfl, .inr (.inr ⟨⟨by omega, by omega⟩, c2, rfl, rfl⟩)⟩
  rw [show ((s.size : Int) != 64) = false by rw [hsz, c2]; rfl, br_false, ld_at h1 1 _ rfl, asSl_s, need_true, need_true, need_true]
  generalize hσ1 : σ.new (.own [.int .i64 i, .string s] 106) = σ1
  have g1 : σ1.get σ.next = some (.own [.int .i64 i, .string s] 106) := by rw [← hσ1, get_new_same]
  have s1 : Same σ σ1 [] := by rw [← hσ1]; exact Same.new _ _ _
  have n1 : σ1.next = σ.next + 1 := by rw [← hσ1]; rfl
  have h11 : σ1.get a = _ := (s1.2 a hal (by simp)).trans h1
  rw [row_all (n := 2) g1 rfl (by omega)]
  have hstr : s = str ⟨s.data.toList, c2⟩ := by unfold str; simp
  obtain ⟨ad', z', q', σ3, hgrow, hr3, s3, hq3⟩ := grow_row (by_ := 24) (h3.same s1 (by simp)) rw2_len rw2_one (by omega) [(⟨i, ⟨s.data.toList, c2⟩⟩ : Lw)] [.int .i64 i, .string s] (by simp [rw2, ← hstr]) 1 rfl (by unfold roomTop; omega) (by unfold sizeTop; omega)
  rw [hgrow]
  have n3 := s3.1
  have h13 : σ3.get a = _ := (s3.2 a (by omega) ha2).trans h11
  rw [put_sl h13 1 _ _ _ (by simp)]
  have s4 := Same.set σ3 a (.own (List.set [Value.slice ad1 S.length z1, .slice ad2 W.length z2] 1 (.slice ad' (W.length + 1) z')) 98)
  have hne' : a ∉ q' := fun hx => by
    rcases hq3 a hx with hx | hx
    · exact ha2 hx
    · omega
  refine ⟨0, _, rfl, .inl ⟨a :: (q1 ++ q'), c2, rfl, by omega, by omega, ⟨⟨q1, q', ad1, z1, ad', z', rfl, by rw [get_set_same, List.length_append]; rfl, ((h2.same s1 (by simp)).same s3 hd).same s4 (fun q hq => by simp; rintro rfl; exact ha1 hq), hr3.same s4 (fun q hq => by simp; rintro rfl; exact hne' hq), ha1, hne', fun q hq hq' => ?_⟩, fun q hq => ?_⟩, ⟨⟨by simp; omega, fun j hj hS => ?_⟩, fun q hq => ?_⟩⟩⟩
  · rcases hq3 q hq' with hx | hx
    · exact hd q hq hx
    · have := hlt q (by simp [hq]); omega
  · simp only [next_set]
    rcases List.mem_cons.1 hq with rfl | hq
    · omega
    · rcases List.mem_append.1 hq with hq | hq
      · have := hlt q (by simp [hq]); omega
      · exact hr3.lt q hq
  · simp only [List.mem_cons, List.mem_append, not_or] at hS
    rw [s4.2 j (by omega) (by simp; exact hS.1), s3.2 j (by omega) hS.2.2, s1.2 j hj (by simp)]
  · simp only [next_set]
    rcases List.mem_cons.1 hq with rfl | hq
    · exact ⟨.inl (by simp), by omega⟩
    · rcases List.mem_append.1 hq with hq | hq
      · exact ⟨.inl (by simp [hq]), by have := hlt q (by simp [hq]); omega⟩
      · refine ⟨?_, hr3.lt q hq⟩
        rcases hq3 q hq with hx | hx
        · exact .inl (by simp [hx])
        · exact .inr (by omega)
theorem rread_loop {ad1 ad2 : Option Addr} {z1 z2 : Nat} {q2 : List Nat} (h1 : σ.get a = some (.own [.slice ad1 S.length z1, .slice ad2 W.length z2] 98)) (hr : Row rw2 2 106 σ ad2 z2 q2 W) (hW : W.length ≤ 100000) (i : Int) : ∀ (n j : Nat) (s : Sec), j ≤ W.length → W.length - j < n →
    lpAt Tryz.prog env L k 48 [true, true, true, false, true] [] n [(0, ptr a), (1, .int .i64 i), (6, .string (str s)), (30, .int .i64 W.length), (31, .int .i64 j)] σ = some (.tuple #[.string (str (look i s (W.drop j))), .int .i64 0], σ)
  | 0, j, s, _, hn => by omega
  | n + 1, j, s, hj, hn => by
    rw [f48_l5]
    by_cases hje : j = W.length
    · rw [decide_eq_false (by omega), br_false, List.drop_of_length_le (by omega)]; rfl
    · have hget : W[j]? = some W[j] := List.getElem?_eq_getElem (by omega)
      have hdrop : W.drop j = W[j] :: W.drop (j + 1) := List.drop_eq_getElem_cons (by omega)
      obtain ⟨q, e, hat⟩ := hr.at rw2_len hget
      rw [hdrop]
      generalize W[j] = w at hat
      have hw : IntKind.wrap .i64 ((j : Int) + 1) = ((j + 1 : Nat) : Int) := by rw [wrap_in _ (by omega) (by omega)]; omega
      rw [decide_eq_true (by omega), br_true, ld_at h1 (0 + 1) _ rfl, asSl_s, need_of (by simp [inRange]; omega), e, adr_some, hat 0 (.int .i64 w.at_) _ (by omega) rfl (by simp), asI_i]
      unfold look
      by_cases hc : w.at_ = i
      · rw [show (w.at_ == i) = true by simpa using hc, br_true, ld_at h1 (0 + 1) _ rfl, asSl_s, need_of (by simp [inRange]; omega), e, adr_some, hat 1 (.string (str w.b)) _ (by omega) rfl (by simp), asS_s, hw, if_pos hc]
        exact rread_loop h1 hr hW i n (j + 1) w.b (by omega) (by omega)
      · rw [show (w.at_ == i) = false by simpa using hc, br_false, hw, if_neg hc]
        exact rread_loop h1 hr hW i n (j + 1) s (by omega) (by omega)
theorem rread_spec (hL : W.length < L) (hW : W.length ≤ 100000) (i : Int) :
    (∃ s, 0 ≤ i ∧ i < S.length ∧ S[i.toNat]? = some s ∧ evCall Tryz.prog env L (k + 1) 48 [ptr a, .int .i64 i] σ = some (.tuple #[.string (str (look i s W)), .int .i64 0], σ)) ∨
    (¬ (0 ≤ i ∧ i < S.length) ∧ evCall Tryz.prog env L (k + 1) 48 [ptr a, .int .i64 i] σ = some (.tuple #[.string ⟨#[]⟩, .int .i64 5], σ)) := by
  obtain ⟨q1, q2, ad1, z1, ad2, z2, rfl, h1, h2, h3, ha1, ha2, hd⟩ := h.ex
  rw [f48_eq]
  by_cases c0 : i < 0
  · rw [decide_eq_true c0, br_true]
    exact .inr ⟨by omega, rfl⟩
  rw [decide_eq_false c0, br_false, ld_at h1 0 _ rfl, asSl_s]
  by_cases c1 : i ≥ S.length
  · rw [decide_eq_true c1, br_true]
    exact .inr ⟨by omega, rfl⟩
  have hget : S[i.toNat]? = some (S[i.toNat]'(by omega)) := List.getElem?_eq_getElem (by omega)
  obtain ⟨q, e, hat⟩ := h2.at rs_len hget
  refine .inl ⟨S[i.toNat]'(by omega), by omega, by omega, hget, ?_⟩
  generalize S[i.toNat]'(by omega) = s at hat
  rw [decide_eq_false c1, br_false, ld_at h1 0 _ rfl, asSl_s, need_of (by simp [inRange]; omega), e, adr_some, hat 0 (.string (str s)) _ (by omega) rfl (by simp), asS_s, ld_at h1 1 _ rfl, asSl_s]
  have := rread_loop h L k h1 h3 hW i L 0 s (by omega) (by omega)
  rw [List.drop_zero] at this
  exact this
end
theorem rflush_loop (L k : Nat) {a : Nat} {ad1 ad2 : Option Addr} {z1 z2 : Nat} {q1 q2 : List Nat} {W : List Lw} {n0 : Nat} (ha1 : a ∉ q1) (ha2 : a ∉ q2) (hd : ∀ q ∈ q1, q ∉ q2) {σ0 : St} (ha0 : a < σ0.next) (hW : W.length ≤ 100000) (hin : InR n0 W) : ∀ (n j : Nat) (σ : St) (S : List Sec), j ≤ W.length → W.length - j < n → S.length = n0 →
    Row rs 1 9 σ ad1 z1 q1 S → Row rw2 2 106 σ ad2 z2 q2 W → σ.get a = some (.own [.slice ad1 n0 z1, .slice ad2 W.length z2] 98) → Same σ0 σ q1 →
    ∃ σ9, lpAt Tryz.prog env L k 121 [false, true] [] n [(0, ptr a), (7, .int .i64 W.length), (8, .int .i64 j)] σ = some (.tuple #[], σ9) ∧
      Row rs 1 9 σ9 ad1 z1 q1 (lay (fun _ => true) j S (W.drop j)) ∧ σ9.get a = some (.own [.slice ad1 n0 z1, .slice none 0 0] 98) ∧ Same σ0 σ9 (a :: q1)
  | 0, j, σ, S, _, hn, _, _, _, _, _ => by omega
  | n + 1, j, σ, S, hj, hn, hS, hr1, hr2, ha, hs => by
    rw [f121_l1]
    by_cases hje : j = W.length
    · rw [decide_eq_false (by omega), br_false, List.drop_of_length_le (by omega), put_sl ha (0 + 1) _ _ _ (by simp)]
      have s3 := Same.set σ a (.own (List.set [Value.slice ad1 n0 z1, .slice ad2 W.length z2] (0 + 1) (.slice none 0 0)) 98)
      exact ⟨_, rfl, hr1.same s3 (fun q hq => by simp; rintro rfl; exact ha1 hq), by rw [get_set_same]; rfl, (hs.mono (by simp +contextual)).trans (s3.mono (by simp))⟩
    · have hget : W[j]? = some W[j] := List.getElem?_eq_getElem (by omega)
      have hdrop : W.drop j = W[j] :: W.drop (j + 1) := List.drop_eq_getElem_cons (by omega)
      have hwin := hin _ (List.mem_of_getElem? hget)
      obtain ⟨q, e, hat⟩ := hr2.at rw2_len hget
      rw [hdrop]
      generalize W[j] = w at hat hwin
      have hw : IntKind.wrap .i64 ((j : Int) + 1) = ((j + 1 : Nat) : Int) := by rw [wrap_in _ (by omega) (by omega)]; omega
      obtain ⟨q', σ3, e1, e2, hput, hr3, s3, n3⟩ := hr1.put rs_len rs_one (i := w.at_.toNat) (by omega) w.b
      have hput' : ∀ K : St → Res, σ.put q' (0 + w.at_.toNat * 1) [.string (str w.b)] K = K σ3 := fun K => hput _ (by simp) K
      unfold lay
      rw [decide_eq_true (by omega), br_true, ld_at ha (0 + 0) _ rfl, asSl_s, ld_at ha (0 + 1) _ rfl, asSl_s, need_of (by simp [inRange]; omega), e, adr_some, hat 0 (.int .i64 w.at_) _ (by omega) rfl (by simp), asI_i, ld_at ha (0 + 1) _ rfl, asSl_s, need_of (by simp [inRange]; omega), e, adr_some, hat 1 (.string (str w.b)) _ (by omega) rfl (by simp), asS_s, need_of (by simp [inRange]; omega), e2, adr_some, hput', hw, if_pos rfl, ← e2]
      have hal : a < σ.next := by have := hs.1; omega
      have ha3 : σ3.get a = _ := (s3.2 a hal ha1).trans ha
      exact rflush_loop L k ha1 ha2 hd ha0 hW hin n (j + 1) σ3 _ (by omega) (by omega) (by simpa using hS) hr3 (hr2.same s3 (fun q hq hq' => hd q hq' hq)) ha3 (hs.trans s3)
theorem bit_eq (x j : Nat) (hx : x < 18446744073709551616) : (Int.tmod (Int.fdiv (x : Int) (2 ^ min (Int.toNat (IntKind.wrap .u64 (Int.tmod (j : Int) 64))) 64)) 2 == 1) = bit (x : Int) j := by
  unfold bit
  rw [show Int.tmod (j : Int) 64 = ((j % 64 : Nat) : Int) from rfl, show IntKind.wrap .u64 ((j % 64 : Nat) : Int) = ((j % 64 : Nat) : Int) by rw [show ∀ y : Int, IntKind.wrap .u64 y = y % 18446744073709551616 from fun _ => rfl]; omega, Int.toNat_natCast, fdiv_pow, and_one _ (shr_lt x _ hx)]
  rfl
theorem rcrash_loop (L k x : Nat) (hx : x < 18446744073709551616) {a : Nat} {ad1 ad2 : Option Addr} {z1 z2 : Nat} {q1 q2 : List Nat} {W : List Lw} {n0 : Nat} (ha1 : a ∉ q1) (ha2 : a ∉ q2) (hd : ∀ q ∈ q1, q ∉ q2) {σ0 : St} (ha0 : a < σ0.next) (hW : W.length ≤ 100000) (hin : InR n0 W) : ∀ (n j : Nat) (σ : St) (S : List Sec), j ≤ W.length → W.length - j < n → S.length = n0 →
    Row rs 1 9 σ ad1 z1 q1 S → Row rw2 2 106 σ ad2 z2 q2 W → σ.get a = some (.own [.slice ad1 n0 z1, .slice ad2 W.length z2] 98) → Same σ0 σ q1 →
    ∃ σ9, lpAt Tryz.prog env L k 79 [false, true] [] n [(0, ptr a), (1, .int .u64 (x : Nat)), (9, .int .i64 W.length), (10, .int .i64 j)] σ = some (.tuple #[], σ9) ∧
      Row rs 1 9 σ9 ad1 z1 q1 (lay (bit (x : Int)) j S (W.drop j)) ∧ σ9.get a = some (.own [.slice ad1 n0 z1, .slice none 0 0] 98) ∧ Same σ0 σ9 (a :: q1)
  | 0, j, σ, S, _, hn, _, _, _, _, _ => by omega
  | n + 1, j, σ, S, hj, hn, hS, hr1, hr2, ha, hs => by
    rw [f79_l1]
    by_cases hje : j = W.length
    · rw [decide_eq_false (by omega), br_false, List.drop_of_length_le (by omega), put_sl ha (0 + 1) _ _ _ (by simp)]
      have s3 := Same.set σ a (.own (List.set [Value.slice ad1 n0 z1, .slice ad2 W.length z2] (0 + 1) (.slice none 0 0)) 98)
      exact ⟨_, rfl, hr1.same s3 (fun q hq => by simp; rintro rfl; exact ha1 hq), by rw [get_set_same]; rfl, (hs.mono (by simp +contextual)).trans (s3.mono (by simp))⟩
    · have hget : W[j]? = some W[j] := List.getElem?_eq_getElem (by omega)
      have hdrop : W.drop j = W[j] :: W.drop (j + 1) := List.drop_eq_getElem_cons (by omega)
      have hwin := hin _ (List.mem_of_getElem? hget)
      obtain ⟨q, e, hat⟩ := hr2.at rw2_len hget
      rw [hdrop]
      generalize W[j] = w at hat hwin
      have hw : IntKind.wrap .i64 ((j : Int) + 1) = ((j + 1 : Nat) : Int) := by rw [wrap_in _ (by omega) (by omega)]; omega
      have h64 : decide (0 ≤ IntKind.wrap .u64 (Int.tmod (j : Int) 64)) = true := by
        rw [show ∀ y : Int, IntKind.wrap .u64 y = y % 18446744073709551616 from fun _ => rfl]; exact decide_eq_true (by omega)
      have hal : a < σ.next := by have := hs.1; omega
      rw [decide_eq_true (by omega), br_true, need_of h64, bit_eq x j hx]
      unfold lay
      cases hk : bit (x : Int) j with
      | false =>
        rw [br_false, if_neg (by simp), hw]
        exact rcrash_loop L k x hx ha1 ha2 hd ha0 hW hin n (j + 1) σ S (by omega) (by omega) hS hr1 hr2 ha hs
      | true =>
        obtain ⟨q', σ3, e1, e2, hput, hr3, s3, n3⟩ := hr1.put rs_len rs_one (i := w.at_.toNat) (by omega) w.b
        have hput' : ∀ K : St → Res, σ.put q' (0 + w.at_.toNat * 1) [.string (str w.b)] K = K σ3 := fun K => hput _ (by simp) K
        rw [br_true, if_pos rfl, ld_at ha (0 + 0) _ rfl, asSl_s, ld_at ha (0 + 1) _ rfl, asSl_s, need_of (by simp [inRange]; omega), e, adr_some, hat 0 (.int .i64 w.at_) _ (by omega) rfl (by simp), asI_i, ld_at ha (0 + 1) _ rfl, asSl_s, need_of (by simp [inRange]; omega), e, adr_some, hat 1 (.string (str w.b)) _ (by omega) rfl (by simp), asS_s, need_of (by simp [inRange]; omega), e2, adr_some, hput', hw, ← e2]
        have ha3 : σ3.get a = _ := (s3.2 a hal ha1).trans ha
        exact rcrash_loop L k x hx ha1 ha2 hd ha0 hW hin n (j + 1) σ3 _ (by omega) (by omega) (by simpa using hS) hr3 (hr2.same s3 (fun q hq hq' => hd q hq' hq)) ha3 (hs.trans s3)
theorem Ref.laid {σ σ9 : St} {a n0 : Nat} {q1 q2 : List Nat} {ad1 : Option Addr} {z1 : Nat} {S' : List Sec} (hlt : ∀ q ∈ a :: (q1 ++ q2), q < σ.next) (hr9 : Row rs 1 9 σ9 ad1 z1 q1 S') (ha9 : σ9.get a = some (.own [.slice ad1 n0 z1, .slice none 0 0] 98)) (hn : S'.length = n0) (s9 : Same σ σ9 (a :: q1)) (ha1 : a ∉ q1) :
    Ref σ9 a (a :: q1) S' [] ∧ Turn σ σ9 (a :: (q1 ++ q2)) (a :: q1) := by
  have hn9 := s9.1
  refine ⟨⟨⟨q1, [], ad1, z1, none, 0, by simp, by rw [ha9, hn]; rfl, hr9, Row.nil _ _ _ _, ha1, by simp, by simp⟩, fun q hq => ?_⟩, ⟨s9.mono (fun x hx => ?_), fun q hq => ⟨.inl ?_, ?_⟩⟩⟩
  · rcases List.mem_cons.1 hq with rfl | hq
    · have := hlt q (by simp); omega
    · have := hlt q (by simp [hq]); omega
  · rcases List.mem_cons.1 hx with rfl | hx
    · simp
    · simp [hx]
  · rcases List.mem_cons.1 hq with rfl | hq
    · simp
    · simp [hq]
  · rcases List.mem_cons.1 hq with rfl | hq
    · have := hlt q (by simp); omega
    · have := hlt q (by simp [hq]); omega
theorem rflush_spec (L k : Nat) {σ : St} {a : Nat} {F : List Nat} {S : List Sec} {W : List Lw} (h : Ref σ a F S W) (hL : W.length < L) (hW : W.length ≤ 100000) (hin : InR S.length W) :
    ∃ F' σ', evCall Tryz.prog env L (k + 1) 121 [ptr a] σ = some (.tuple #[], σ') ∧ Ref σ' a F' (lay (fun _ => true) 0 S W) [] ∧ Turn σ σ' F F' := by
  obtain ⟨q1, q2, ad1, z1, ad2, z2, rfl, h1, h2, h3, ha1, ha2, hd⟩ := h.ex
  rw [f121_eq, ld_at h1 1 _ rfl, asSl_s]
  obtain ⟨σ9, g9, hr9, ha9, s9⟩ := rflush_loop L k ha1 ha2 hd (h.lt a (by simp)) hW hin L 0 σ S (by omega) (by omega) rfl h2 h3 h1 (Same.refl _ _)
  rw [List.drop_zero] at hr9
  obtain ⟨r1, r2⟩ := Ref.laid h.lt hr9 ha9 (lay_len _ _ _ _) s9 ha1
  exact ⟨a :: q1, σ9, g9, r1, r2⟩
theorem rcrash_spec (L k x : Nat) (hx : x < 18446744073709551616) {σ : St} {a : Nat} {F : List Nat} {S : List Sec} {W : List Lw} (h : Ref σ a F S W) (hL : W.length < L) (hW : W.length ≤ 100000) (hin : InR S.length W) :
    ∃ F' σ', evCall Tryz.prog env L (k + 1) 79 [ptr a, .int .u64 (x : Nat)] σ = some (.tuple #[], σ') ∧ Ref σ' a F' (lay (bit (x : Int)) 0 S W) [] ∧ Turn σ σ' F F' := by
  obtain ⟨q1, q2, ad1, z1, ad2, z2, rfl, h1, h2, h3, ha1, ha2, hd⟩ := h.ex
  rw [f79_eq, ld_at h1 1 _ rfl, asSl_s]
  obtain ⟨σ9, g9, hr9, ha9, s9⟩ := rcrash_loop L k x hx ha1 ha2 hd (h.lt a (by simp)) hW hin L 0 σ S (by omega) (by omega) rfl h2 h3 h1 (Same.refl _ _)
  rw [List.drop_zero] at hr9
  obtain ⟨r1, r2⟩ := Ref.laid h.lt hr9 ha9 (lay_len _ _ _ _) s9 ha1
  exact ⟨a :: q1, σ9, g9, r1, r2⟩
end Go.AM.Bk.D

namespace Go.AM.Bk
open Go.Proofs
theorem cS_len (s : ByteArray) : (cS s).length = 1 := rfl
theorem cS_one (s : ByteArray) : (cS s).all oneCell = true := rfl
theorem cS_flat : ∀ l : List ByteArray, l.flatMap cS = strs l
  | [] => rfl
  | s :: l => by rw [List.flatMap_cons, cS_flat l]; rfl
structure DI (σ : St) (w a : Nat) (t mk : Int) (bl : List ByteArray) (G : List Nat) : Prop where
  ex : ∃ q ad z, G = w :: q ∧ σ.get w = some (.own [ptr a, .int .i64 t, .int .i64 mk, .slice ad 32 z] 49) ∧ bl.length = 32 ∧ Row cS 1 9 σ ad z q bl ∧ w ∉ q
  lt : ∀ x ∈ G, x < σ.next
theorem DI.same {σ σ' : St} {w a : Nat} {t mk : Int} {bl : List ByteArray} {G X : List Nat} (h : DI σ w a t mk bl G) (hs : Same σ σ' X) (hX : ∀ x ∈ G, x ∉ X) : DI σ' w a t mk bl G := by
  obtain ⟨q, ad, z, rfl, h1, h2, h3, h4⟩ := h.ex
  exact ⟨⟨q, ad, z, rfl, by rw [hs.2 w (h.lt w (by simp)) (hX w (by simp))]; exact h1, h2, h3.same hs (fun x hx => hX x (by simp [hx])), h4⟩, fun x hx => by have := h.lt x hx; have := hs.1; omega⟩
theorem dread31 {σ : St} {a : Nat} {F : List Nat} {S : List D.Sec} {W : List D.Lw} (h : D.Ref σ a F S W) (L k : Nat) (hL : W.length < L) (hW : W.length ≤ 100000) {x : Int} {i : Nat} (hx : x = i) (hi : i < S.length) :
    evCall Tryz.prog env L (k + 1) 48 [ptr a, .int .i64 x] σ = some (.tuple #[.string (str (rdS S W i)), .int .i64 0], σ) ∧ (rdS S W i).length = 64 := by
  subst hx
  rcases D.rread_spec h L k hL hW (i : Int) with ⟨s, _, _, hg, g⟩ | ⟨hno, _⟩
  · rw [Int.toNat_natCast] at hg
    have e : rdS S W i = (D.look i s W).1 := by unfold rdS; rw [hg]
    rw [e]
    exact ⟨g, (D.look i s W).2⟩
  · exact absurd ⟨by omega, by omega⟩ hno
noncomputable def dtl (L k : Nat) (st : St) (a0 w : Nat) (x0 x1 : ByteArray) : Res := AM.St.ld st w 1 fun v43 => AM.asI IntKind.i64 v43 fun v44 => AM.br (v44 == (0 : Int)) (AM.need (decide (ByteArray.size x0 + ByteArray.size x1 ≤ 4611686018427387904)) (AM.St.row (AM.St.new st (AM.Blk.own (AM.zerosN [Value.int IntKind.u8 (0 : Int)] 128) 5)) (some { block := AM.St.next st, off := 0 }) 128 fun v45 => AM.asBy v45 fun v46 => AM.br (!ByteArray.toList { data := { toList := (ByteArray.data x0).1 ++ (ByteArray.data x1).1 } } == ByteArray.toList { data := List.toArray v46 }) (some (Value.tuple #[Value.pointer none, Value.int IntKind.i64 (4 : Int)], AM.St.new st (AM.Blk.own (AM.zerosN [Value.int IntKind.u8 (0 : Int)] 128) 5))) (some (Value.tuple #[Value.pointer (some { block := w, off := 0 }), Value.int IntKind.i64 (0 : Int)], AM.St.new st (AM.Blk.own (AM.zerosN [Value.int IntKind.u8 (0 : Int)] 128) 5))))) (AM.St.ld st w 3 fun v47 => AM.asSl v47 fun v48 v49 v50 => AM.lpAt Proofs.Tryz.prog AM.Bk.env L k 14 [true, true, true, true, true, true, true, true, true, false, true] [] L [(0, Value.pointer (some { block := a0, off := 0 })), (12, Value.pointer (some { block := w, off := 0 })), (80, Value.int IntKind.i64 (↑v49 : Int)), (81, Value.int IntKind.i64 (0 : Int))] st)
section
variable {a : Nat} {F : List Nat} {S : List D.Sec} {W : List D.Lw} (L k : Nat) (hL : 100000 < L) (hW : W.length ≤ 10000) (hS : 66 ≤ S.length)
include hL hW hS
theorem dopen_loop {σ0 : St} {t : Nat} {mk : Int} (ht : t ≤ top) {w : Nat} (hw0 : σ0.next ≤ w) (hF : ∀ x ∈ F, x < σ0.next) : ∀ (n i : Nat) (σ : St) (cur : List ByteArray) (G : List Nat), i ≤ 32 → 32 - i < n → D.Ref σ a F S W → DI σ w a t mk cur G → (∀ x ∈ G, σ0.next ≤ x) → Same σ0 σ [] → area (rdS S W) t i = some (cur.take i) →
    ∃ σ', Same σ0 σ' [] ∧ ((∃ bl G', area (rdS S W) t 32 = some bl ∧ lpAt Tryz.prog env L (k + 5) 14 [true, true, true, true, true, true, true, true, true, false, true] [] n [(0, ptr a), (12, ptr w), (80, .int .i64 (32 : Nat)), (81, .int .i64 i)] σ = some (.tuple #[ptr w, .int .i64 0], σ') ∧ DI σ' w a t mk bl G' ∧ ∀ x ∈ G', σ0.next ≤ x) ∨
      (area (rdS S W) t 32 = none ∧ lpAt Tryz.prog env L (k + 5) 14 [true, true, true, true, true, true, true, true, true, false, true] [] n [(0, ptr a), (12, ptr w), (80, .int .i64 (32 : Nat)), (81, .int .i64 i)] σ = some (.tuple #[.pointer none, .int .i64 4], σ')))
  | 0, i, σ, cur, G, _, h, _, _, _, _, _ => by omega
  | n + 1, i, σ, cur, G, hi, hn, hR, hI, hG, hs0, ha => by
    obtain ⟨q, ad, z, rfl, h1, h2, h3, h4⟩ := hI.ex
    have hwlt := hI.lt w (by simp)
    rw [f14_l15]
    by_cases hi32 : i = 32
    · subst hi32
      rw [decide_eq_false (by omega), br_false]
      rw [List.take_of_length_le (by omega)] at ha
      exact ⟨σ, hs0, .inl ⟨cur, _, ha, rfl, hI, hG⟩⟩
    have hat : IntKind.wrap .i64 (IntKind.wrap .i64 ((2 : Int) + IntKind.wrap .i64 ((32 : Int) * Int.tmod (t : Int) 2)) + (i : Int)) = ((2 + 32 * (t % 2) + i : Nat) : Int) := by
      rw [tmod2, wrap_in ((32 : Int) * ((t % 2 : Nat) : Int)) (by omega) (by omega), wrap_in ((2 : Int) + _) (by omega) (by omega), wrap_in _ (by omega) (by omega)]; omega
    have hw1 : IntKind.wrap .i64 ((i : Int) + 1) = ((i + 1 : Nat) : Int) := by rw [wrap_in _ (by omega) (by omega)]; omega
    obtain ⟨g1, hlen⟩ := dread31 hR L (k + 4) (by omega) (by omega) hat (by omega)
    rw [decide_eq_true (by omega), br_true, ld_at h1 (0 + 1) _ rfl, asI_i, g1, bnd_some, asT_t, toList2, uncons_c, asS_s, uncons_c, asI_i, endl_n]
    have fail : blk t (rdS S W (2 + 32 * (t % 2) + i)) = none → area (rdS S W) t 32 = none := fun hb => by
      refine area_none (n := i + 1) ?_ 32 (by omega)
      unfold area
      rw [ha, hb]
    have good : ∀ s, blk t (rdS S W (2 + 32 * (t % 2) + i)) = some s → area (rdS S W) t (i + 1) = some ((cur.set i s).take (i + 1)) := fun s hb => by
      unfold area
      rw [ha, hb]
      dsimp only
      rw [List.take_add_one, List.getElem?_set_self (by omega), List.take_set_of_le (by omega)]
      rfl
    generalize rdS S W (2 + 32 * (t % 2) + i) = l at hlen fail good
    obtain ⟨σ2, s2, ho⟩ := ropen_spec L (k + 2) hL σ l (by omega)
    unfold blk at fail good
    rcases ho with ⟨b, ho, g2⟩ | ⟨ho, g2⟩
    rotate_left
    · rw [g2, bnd_some, asT_t, toList2, uncons_c, asS_s, uncons_c, asB_b, endl_n, not_false, br_true]
      rw [ho] at fail
      exact ⟨σ2, hs0.trans s2, .inr ⟨fail rfl, rfl⟩⟩
    have hbl2 := opened_len ho
    rw [g2, bnd_some, asT_t, toList2, uncons_c, asS_s, uncons_c, asB_b, endl_n, not_true, br_false]
    have s3 : Same σ2 (σ2.new (.own [.string (str b), .int .i64 (0 : Nat)] 130)) [] := Same.new _ _ _
    have hD3 : Dd (σ2.new (.own [.string (str b), .int .i64 (0 : Nat)] 130)) σ2.next 0 b := ⟨get_new_same _ _, by simp⟩
    have n3 : (σ2.new (.own [.string (str b), .int .i64 (0 : Nat)] 130)).next = σ2.next + 1 := rfl
    rw [show (σ2.new (Blk.own [Value.string (str b), Value.int .i64 0] 130)) = σ2.new (.own [.string (str b), .int .i64 (0 : Nat)] 130) from rfl]
    generalize σ2.new (.own [.string (str b), .int .i64 (0 : Nat)] 130) = σ3 at s3 hD3 n3
    generalize hr : σ2.next = r at hD3 n3
    have hsr : σ.next ≤ r := by have := s2.1; omega
    obtain ⟨σ4, g4, hD4, s4⟩ := rnumber_spec L (k + 3) hL hD3 (by omega)
    have turn := fun (s : ByteArray) (hb : bsec t s = l) => blk_turn ht ho hb
    have hle := rnum_le 0 b
    rw [ho] at fail good
    dsimp only at fail good
    generalize rnum 0 b = p1 at hD4 hle g4 fail good turn
    obtain ⟨e1, x1, r1⟩ := p1
    dsimp only at hD4 hle g4 fail good turn
    obtain ⟨σ5, g5, hD5, s5⟩ := rtext_read L (k + 2) hL hD4 (by omega) 16
    rw [show ((16 : Nat) : Int) = 16 from rfl] at g5
    have hs16 : (rtext 16 e1 r1).1 = 0 → (str (rtext 16 e1 r1).2.1).size ≤ 16 := by
      intro he
      unfold rtext at he ⊢
      rw [str_size]
      split
      · simp
      split
      · simp
      split
      · simp
      · simp only [List.length_take]; omega
    rw [g4, bnd_some, asI_i, g5, bnd_some, asS_s]
    generalize rtext 16 e1 r1 = p2 at hD5 hs16 fail good
    obtain ⟨e2, x2, r2⟩ := p2
    dsimp only at hD5 hs16 fail good
    rw [ld_at hD5.ex 1 _ rfl, asI_i]
    have s25 : Same σ σ5 [] := ((s2.trans s3).fresh s4 (fun x hx => .inr (by simp at hx; subst hx; omega))).fresh s5 (fun x hx => .inr (by simp at hx; subst hx; omega))
    have s05 := hs0.trans s25
    by_cases he : e2 = 0
    rotate_left
    · rw [show ((e2 : Int) != 0) = true by simp only [bne_iff_ne, ne_eq]; omega, br_true]
      exact ⟨σ5, s05, .inr ⟨fail (if_neg (fun h => he h.1)), rfl⟩⟩
    have h15 : σ5.get w = _ := (s25.2 w hwlt (by simp)).trans h1
    rw [show ((e2 : Int) != 0) = false by rw [he]; rfl, br_false, ld_at h15 (0 + 1) _ rfl, asI_i]
    by_cases hx1 : x1 = t
    rotate_left
    · rw [show ((x1 : Int) != (t : Int)) = true by simp only [bne_iff_ne, ne_eq]; omega, br_true]
      refine ⟨σ5, s05, .inr ⟨fail (if_neg (fun h => hx1 ?_)), rfl⟩⟩
      have := turn _ h.2
      simp only [Prod.mk.injEq] at this
      exact this.2.1
    subst hx1
    obtain ⟨σ6, g6, s6⟩ := rblock_spec L (k + 1) hL σ5 x1 (str x2) (hs16 he)
    rw [show ((x1 : Int) != (x1 : Int)) = false by simp, br_false, g6, bnd_some, asS_s, str_inj]
    have s06 := s25.trans s6
    by_cases heq : bsec x1 (str x2) = l
    rotate_left
    · rw [decide_eq_false heq, not_false, br_true]
      exact ⟨σ6, hs0.trans s06, .inr ⟨fail (if_neg (fun h => heq h.2)), rfl⟩⟩
    rw [decide_eq_true heq, not_true, br_false]
    have hg := good _ (if_pos ⟨he, heq⟩)
    have h16 : σ6.get w = _ := (s6.2 w (by have := s25.1; omega) (by simp)).trans h15
    have h36 := h3.same s06 (by simp)
    obtain ⟨q', σ7, e1', e2', hput, hr7, s7, n7⟩ := h36.put cS_len cS_one (i := i) (by omega) (str x2)
    subst e1' e2'
    have hput' : ∀ K : St → Res, σ6.put q' (0 + Int.toNat (i : Int) * 1) [.string (str x2)] K = K σ7 := fun K => hput _ (by simp) K
    rw [ld_at h16 (0 + 3) _ rfl, asSl_s, need_of (by simp [inRange]; omega), adr_some, hput', hw1]
    have hq' := hG q' (by simp)
    have s07 : Same σ0 σ7 [] := (hs0.trans s06).fresh s7 (fun x hx => .inr (by simp at hx; subst hx; exact hq'))
    have hqw : w ≠ q' := fun h => h4 (by simp [h])
    obtain ⟨σ', hs', hor⟩ := dopen_loop ht hw0 hF n (i + 1) σ7 (cur.set i (str x2)) (w :: [q']) (by omega) (by omega) (((hR.idle s06)).same s7 (fun x hx => by simp; rintro rfl; have := hF x hx; omega))
      ⟨⟨[q'], _, z, rfl, by rw [s7.2 w (by have := s06.1; omega) (by simpa using hqw)]; exact h16, by simpa using h2, hr7, by simpa using hqw⟩, fun x hx => by
        simp at hx
        rcases hx with rfl | rfl
        · have := s06.1; have := s7.1; omega
        · exact hr7.lt _ (by simp)⟩ (fun x hx => hG x (by simpa using hx)) s07 hg
    exact ⟨σ', hs', hor⟩
theorem dtl_ok {σ0 σ : St} {t mk : Nat} (ht : t ≤ top) (hh : headS (rdS S W) = (t, mk)) {w b : Nat} (hs0 : Same σ0 σ []) (hw0 : σ0.next ≤ w) (hb0 : σ0.next ≤ b) (hwb : w ≠ b) (hwl : w < σ.next) (hbl : b < σ.next) (hF : ∀ x ∈ F, x < σ0.next)
    (hw : σ.get w = some (.own [ptr a, .int .i64 (t : Nat), .int .i64 (mk : Nat), .slice (some ⟨b, 0, none⟩) 32 1] 49)) (hb : σ.get b = some (.own (strs noBlocks) 9)) (hR : D.Ref σ a F S W) :
    ∃ σ', Same σ0 σ' [] ∧ ((∃ t mk bl w' G, opn (rdS S W) = some (t, mk, bl) ∧ dtl L (k + 5) σ a w (str (rdS S W 0)) (str (rdS S W 1)) = some (.tuple #[ptr w', .int .i64 0], σ') ∧ DI σ' w' a (t : Nat) (mk : Nat) bl G ∧ ∀ x ∈ G, σ0.next ≤ x) ∨
      (opn (rdS S W) = none ∧ dtl L (k + 5) σ a w (str (rdS S W 0)) (str (rdS S W 1)) = some (.tuple #[.pointer none, .int .i64 4], σ'))) := by
  have hl0 := (dread31 hR L k (by omega) (by omega) (x := 0) (i := 0) rfl (by omega)).2
  have hl1 := (dread31 hR L k (by omega) (by omega) (x := 1) (i := 1) rfl (by omega)).2
  have hI : DI σ w a (t : Nat) (mk : Nat) noBlocks [w, b] := ⟨⟨[b], _, 1, rfl, hw, rfl, ⟨by simpa using hbl, .inr ⟨b, [], rfl, rfl, rfl, by rw [cS_flat, List.append_nil]; exact hb⟩⟩, by simpa using hwb⟩, fun x hx => by simp at hx; rcases hx with rfl | rfl; exact hwl; exact hbl⟩
  unfold dtl opn
  rw [hh]
  dsimp only
  rw [ld_at hw 1 _ rfl, asI_i]
  by_cases h0 : t = 0
  · subst h0
    have hm0 : mk = 0 := by
      have hz2 : ∀ (l : List UInt8) (s : Nat), (hof l s).1 = 0 → (hof l s).2 = 0 := by
        intro l s
        unfold hof
        split
        · exact fun _ => rfl
        · split
          · exact fun _ => rfl
          · rename_i h; intro h0; exact absurd (.inr (.inl (by omega))) h
      unfold headS at hh
      split at hh
      · have := hz2 (rdS S W 1) 1 (by rw [hh]); rw [hh] at this; exact this
      · have := hz2 (rdS S W 0) 0 (by rw [hh]); rw [hh] at this; exact this
    subst hm0
    rw [show (((0 : Nat) : Int) == 0) = true from rfl, br_true, if_neg (by omega), need_of (by rw [decide_eq_true_eq, str_size, str_size]; omega), zeros8]
    have s1 : Same σ (σ.new (.own (by8 (List.replicate 128 0)) 5)) [] := Same.new _ _ _
    have g1 : (σ.new (.own (by8 (List.replicate 128 0)) 5)).get σ.next = some (.own (by8 (List.replicate 128 0)) 5) := get_new_same _ _
    have n1 : (σ.new (.own (by8 (List.replicate 128 0)) 5)).next = σ.next + 1 := rfl
    generalize σ.new (.own (by8 (List.replicate 128 0)) 5) = σ1 at s1 g1 n1
    rw [(Bytes.own g1 (by omega)).row 128 (List.length_replicate).symm, asBy_by8]
    have hcmp : (ByteArray.toList ⟨⟨(ByteArray.data (str (rdS S W 0))).1 ++ (ByteArray.data (str (rdS S W 1))).1⟩⟩ == ByteArray.toList ⟨(List.replicate 128 (0 : UInt8)).toArray⟩) = decide (rdS S W 0 = List.replicate 64 0 ∧ rdS S W 1 = List.replicate 64 0) := by
      have e := str_inj (l := rdS S W 0 ++ rdS S W 1) (m := List.replicate 128 0)
      have e2 : (rdS S W 0 ++ rdS S W 1 = List.replicate 128 0) ↔ (rdS S W 0 = List.replicate 64 0 ∧ rdS S W 1 = List.replicate 64 0) := by
        rw [show (128 : Nat) = 64 + 64 from rfl, ← List.replicate_append_replicate]
        constructor
        · intro h
          exact List.append_inj h (by rw [hl0, List.length_replicate])
        · rintro ⟨h1, h2⟩; rw [h1, h2]
      refine e.trans ?_
      by_cases h : rdS S W 0 ++ rdS S W 1 = List.replicate 128 0
      · rw [decide_eq_true h, decide_eq_true (e2.1 h)]
      · rw [decide_eq_false h, decide_eq_false (fun h' => h (e2.2 h'))]
    rw [hcmp]
    refine ⟨σ1, hs0.trans s1, ?_⟩
    by_cases hz : rdS S W 0 = List.replicate 64 0 ∧ rdS S W 1 = List.replicate 64 0
    · rw [decide_eq_true hz, not_true, br_false, if_pos hz]
      exact .inl ⟨0, 0, noBlocks, w, _, rfl, rfl, hI.same s1 (by simp), fun x hx => by simp at hx; rcases hx with rfl | rfl; exact hw0; exact hb0⟩
    · rw [decide_eq_false hz, not_false, br_true, if_neg hz]
      exact .inr ⟨rfl, rfl⟩
  · rw [show ((t : Int) == 0) = false by rw [beq_eq_false_iff_ne]; omega, br_false, if_pos (by omega), ld_at hw 3 _ rfl, asSl_s]
    obtain ⟨σ', hs', hor⟩ := dopen_loop L k hL hW hS ht (mk := mk) hw0 hF L 0 σ noBlocks [w, b] (by omega) (by omega) hR hI (fun x hx => by simp at hx; rcases hx with rfl | rfl; exact hw0; exact hb0) hs0 rfl
    refine ⟨σ', hs', ?_⟩
    rcases hor with ⟨bl, G', e1, e2, e3, e4⟩ | ⟨e1, e2⟩
    · rw [e1]; exact .inl ⟨t, mk, bl, w, G', rfl, e2, e3, e4⟩
    · rw [e1]; exact .inr ⟨rfl, e2⟩
theorem dopen_spec {σ : St} (hR : D.Ref σ a F S W) : ∃ σ', Same σ σ' [] ∧ ((∃ t mk bl w G, opn (rdS S W) = some (t, mk, bl) ∧ evCall Tryz.prog env L (k + 6) 14 [ptr a] σ = some (.tuple #[ptr w, .int .i64 0], σ') ∧ DI σ' w a (t : Nat) (mk : Nat) bl G ∧ ∀ x ∈ G, σ.next ≤ x) ∨
      (opn (rdS S W) = none ∧ evCall Tryz.prog env L (k + 6) 14 [ptr a] σ = some (.tuple #[.pointer none, .int .i64 4], σ'))) := by
  obtain ⟨q1, q2, ad1, z1, ad2, z2, hFe, h1, _⟩ := hR.ex
  have halt := hR.lt a (by rw [hFe]; simp)
  obtain ⟨g0, hl0⟩ := dread31 hR L (k + 4) (by omega) (by omega) (x := 0) (i := 0) rfl (by omega)
  obtain ⟨g1, hl1⟩ := dread31 hR L (k + 4) (by omega) (by omega) (x := 1) (i := 1) rfl (by omega)
  obtain ⟨σ2, g2, s2⟩ := rheadOf_spec L k hL (σ := σ) (l := rdS S W 0) (by omega) 0
  obtain ⟨σ3, g3, s3⟩ := rheadOf_spec L k hL (σ := σ2) (l := rdS S W 1) (by omega) 1
  rw [f14_eq, ld_at h1 0 _ rfl, asSl_s, decide_eq_false (by omega), br_false, g0, bnd_some, asT_t, toList2, uncons_c, asS_s, uncons_c, asI_i, endl_n, g1, bnd_some, asT_t, toList2, uncons_c, asS_s, uncons_c, asI_i, endl_n]
  have g2' : evCall Tryz.prog env L (k + 5) 49 [.string (str (rdS S W 0)), .int .i64 0] σ = _ := g2
  have g3' : evCall Tryz.prog env L (k + 5) 49 [.string (str (rdS S W 1)), .int .i64 1] σ2 = _ := g3
  rw [g2', bnd_some, asT_t, toList2, uncons_c, asI_i, uncons_c, asI_i, endl_n, g3', bnd_some, asT_t, toList2, uncons_c, asI_i, uncons_c, asI_i, endl_n, need_true, need_true, need_true, lit32]
  have s03 := s2.trans s3
  have s4 : Same σ3 (σ3.new (.own (strs noBlocks) 9)) [] := Same.new _ _ _
  have g4 : (σ3.new (.own (strs noBlocks) 9)).get σ3.next = some (.own (strs noBlocks) 9) := get_new_same _ _
  have n4 : (σ3.new (.own (strs noBlocks) 9)).next = σ3.next + 1 := rfl
  generalize σ3.new (.own (strs noBlocks) 9) = σ4 at s4 g4 n4
  have halt3 : ∀ x ∈ F, x < σ3.next := fun x hx => by have := hR.lt x hx; have := s03.1; omega
  have hle0 := hof_le (l := rdS S W 0) (slot := 0)
  have hle1 := hof_le (l := rdS S W 1) (slot := 1)
  have s5 : ∀ B, Same σ4 (σ4.new B) [] := fun B => Same.new _ _ _
  have s04 := s03.trans s4
  have hn3 : σ.next ≤ σ3.next := s03.1
  by_cases hgt : (hof (rdS S W 1) 1).1 > (hof (rdS S W 0) 0).1
  · have hh : headS (rdS S W) = ((hof (rdS S W 1) 1).1, (hof (rdS S W 1) 1).2) := by unfold headS; rw [if_pos hgt]
    rw [decide_eq_true (by omega), br_true]
    generalize hB : (Blk.own [ptr a, Value.int .i64 ((hof (rdS S W 0) 0).1 : Int), Value.int .i64 ((hof (rdS S W 0) 0).2 : Int), .slice (some ⟨σ3.next, 0, none⟩) 32 1] 49) = B
    have g5 : (σ4.new B).get σ4.next = some (.own [ptr a, Value.int .i64 ((hof (rdS S W 0) 0).1 : Int), Value.int .i64 ((hof (rdS S W 0) 0).2 : Int), .slice (some ⟨σ3.next, 0, none⟩) 32 1] 49) := by rw [hB]; exact get_new_same _ _
    rw [put_int g5 1 _ _ (by simp)]
    have g6 : ((σ4.new B).set σ4.next (.own (List.set [ptr a, Value.int .i64 ((hof (rdS S W 0) 0).1 : Int), Value.int .i64 ((hof (rdS S W 0) 0).2 : Int), .slice (some ⟨σ3.next, 0, none⟩) 32 1] 1 (.int .i64 ((hof (rdS S W 1) 1).1 : Int))) 49)).get σ4.next = _ := get_set_same _ _ _
    have s6 := Same.set (σ4.new B) σ4.next (.own (List.set [ptr a, Value.int .i64 ((hof (rdS S W 0) 0).1 : Int), Value.int .i64 ((hof (rdS S W 0) 0).2 : Int), .slice (some ⟨σ3.next, 0, none⟩) 32 1] 1 (.int .i64 ((hof (rdS S W 1) 1).1 : Int))) 49)
    generalize (σ4.new B).set σ4.next (.own (List.set [ptr a, Value.int .i64 ((hof (rdS S W 0) 0).1 : Int), Value.int .i64 ((hof (rdS S W 0) 0).2 : Int), .slice (some ⟨σ3.next, 0, none⟩) 32 1] 1 (.int .i64 ((hof (rdS S W 1) 1).1 : Int))) 49) = σ6 at g6 s6
    rw [put_int g6 2 _ _ (by simp)]
    have g7 : (σ6.set σ4.next (.own (List.set (List.set [ptr a, Value.int .i64 ((hof (rdS S W 0) 0).1 : Int), Value.int .i64 ((hof (rdS S W 0) 0).2 : Int), .slice (some ⟨σ3.next, 0, none⟩) 32 1] 1 (.int .i64 ((hof (rdS S W 1) 1).1 : Int))) 2 (.int .i64 ((hof (rdS S W 1) 1).2 : Int))) 49)).get σ4.next = _ := get_set_same _ _ _
    have s7 := Same.set σ6 σ4.next (.own (List.set (List.set [ptr a, Value.int .i64 ((hof (rdS S W 0) 0).1 : Int), Value.int .i64 ((hof (rdS S W 0) 0).2 : Int), .slice (some ⟨σ3.next, 0, none⟩) 32 1] 1 (.int .i64 ((hof (rdS S W 1) 1).1 : Int))) 2 (.int .i64 ((hof (rdS S W 1) 1).2 : Int))) 49)
    generalize σ6.set σ4.next (.own (List.set (List.set [ptr a, Value.int .i64 ((hof (rdS S W 0) 0).1 : Int), Value.int .i64 ((hof (rdS S W 0) 0).2 : Int), .slice (some ⟨σ3.next, 0, none⟩) 32 1] 1 (.int .i64 ((hof (rdS S W 1) 1).1 : Int))) 2 (.int .i64 ((hof (rdS S W 1) 1).2 : Int))) 49) = σ7 at g7 s7
    have n5 : (σ4.new B).next = σ4.next + 1 := rfl
    have s67 : Same (σ4.new B) σ7 [σ4.next] := s6.trans s7
    have s47 : Same σ4 σ7 [] := (s5 B).fresh s67 (fun x hx => .inr (by simp at hx; subst hx; exact Nat.le_refl _))
    exact dtl_ok L k hL hW hS hle1 hh (s04.trans s47) (by omega) hn3 (by omega) (by have := s67.1; omega) (by have := s47.1; omega) (fun x hx => hR.lt x hx) g7 ((s47.2 σ3.next (by omega) (by simp)).trans g4) (hR.idle (s04.trans s47))
  · have hh : headS (rdS S W) = ((hof (rdS S W 0) 0).1, (hof (rdS S W 0) 0).2) := by unfold headS; rw [if_neg hgt]
    rw [decide_eq_false (by omega), br_false]
    have g5 : (σ4.new (Blk.own [Value.pointer (some ⟨a, 0, none⟩), Value.int .i64 ((hof (rdS S W 0) 0).1 : Int), Value.int .i64 ((hof (rdS S W 0) 0).2 : Int), .slice (some ⟨σ3.next, 0, none⟩) 32 1] 49)).get σ4.next = _ := get_new_same _ _
    have s45 := s5 (Blk.own [Value.pointer (some ⟨a, 0, none⟩), Value.int .i64 ((hof (rdS S W 0) 0).1 : Int), Value.int .i64 ((hof (rdS S W 0) 0).2 : Int), .slice (some ⟨σ3.next, 0, none⟩) 32 1] 49)
    have n5 : (σ4.new (Blk.own [Value.pointer (some ⟨a, 0, none⟩), Value.int .i64 ((hof (rdS S W 0) 0).1 : Int), Value.int .i64 ((hof (rdS S W 0) 0).2 : Int), .slice (some ⟨σ3.next, 0, none⟩) 32 1] 49)).next = σ4.next + 1 := rfl
    exact dtl_ok L k hL hW hS hle0 hh (s04.trans s45) (by omega) hn3 (by omega) (by omega) (by omega) (fun x hx => hR.lt x hx) g5 ((s45.2 σ3.next (by omega) (by simp)).trans g4) (hR.idle (s04.trans s45))
end
end Go.AM.Bk

namespace Go.AM.Bk
open Go.Proofs
theorem flat_inner (L k m0 : Nat) {σ0 : St} {p : Nat} {b : List ByteArray} (hb : b.length = 32) (hp : p < σ0.next) {v : Nat} (hv : v < 4) : ∀ (n j : Nat) (σ : St) (ad : Option Addr) (z : Nat) (q : List Nat), j ≤ 8 → 8 - j < n → σ.get p = some (.own (strs b) 45) → Row cS 1 9 σ ad z q (b.take (8 * v + j)) → (∀ x ∈ q, σ0.next ≤ x) → Same σ0 σ [] →
    ∃ ad' z' q' σ' n', lpAt Tryz.prog env L k 18 [true, true, false, true, false, true, true, false, true, true] [m0] n [(1, ptr p), (3, .slice ad ((8 * v + j : Nat)) z), (4, .int .i64 v), (6, .int .i64 v), (9, .int .i64 j)] σ =
        lpAt Tryz.prog env L k 18 [true, true, false, true] [] n' [(1, ptr p), (3, .slice ad' ((8 * (v + 1) : Nat)) z'), (6, .int .i64 ((v + 1 : Nat) : Int))] σ' ∧ n' = m0 ∧
      σ'.get p = some (.own (strs b) 45) ∧ Row cS 1 9 σ' ad' z' q' (b.take (8 * (v + 1))) ∧ (∀ x ∈ q', σ0.next ≤ x) ∧ Same σ0 σ' []
  | 0, j, σ, ad, z, q, _, h, _, _, _, _ => by omega
  | n + 1, j, σ, ad, z, q, hj, hn, hg, hR, hq, hs => by
    rw [f18_l6]
    have hw : ∀ x : Nat, x < 100 → IntKind.wrap .i64 ((x : Int) + 1) = ((x + 1 : Nat) : Int) := fun x hx => by rw [wrap_in _ (by omega) (by omega)]; omega
    by_cases h8 : j = 8
    · subst h8
      rw [decide_eq_false (by omega), br_false, hw v (by omega)]
      exact ⟨ad, z, q, σ, m0, by rw [show 8 * (v + 1) = 8 * v + 8 by omega], rfl, hg, by rw [show 8 * (v + 1) = 8 * v + 8 by omega]; exact hR, hq, hs⟩
    · have hget : b[8 * v + j]? = some b[8 * v + j] := List.getElem?_eq_getElem (by omega)
      have htk : b.take (8 * v + (j + 1)) = b.take (8 * v + j) ++ [b[8 * v + j]] := by rw [← Nat.add_assoc, List.take_add_one, hget]; rfl
      have hstr := strs_get hget
      generalize b[8 * v + j] = s at hget htk hstr
      rw [decide_eq_true (by omega), br_true, need_of (by simp [inRange]; omega), need_of (by simp [inRange]; omega), ld_at hg _ (.string s) (by simpa [Nat.mul_comm] using hstr), asS_s]
      have s1 : Same σ (σ.new (.own [.string s] 9)) [] := Same.new _ _ _
      have g1 : (σ.new (.own [.string s] 9)).get σ.next = some (.own [.string s] 9) := get_new_same _ _
      generalize σ.new (.own [.string s] 9) = σ1 at s1 g1
      rw [row_one g1]
      have hlen : (b.take (8 * v + j)).length = 8 * v + j := by rw [List.length_take]; omega
      obtain ⟨ad2, z2, q2, σ2, hgrow, hR2, s2, hq2⟩ := grow_row (by_ := 16) (hR.same s1 (by simp)) cS_len cS_one (by omega) [s] [.string s] rfl 1 rfl (by rw [hlen]; unfold roomTop; omega) (by rw [hlen]; unfold sizeTop; omega)
      rw [hlen] at hgrow
      rw [hgrow, hw j (by omega)]
      have s02 : Same σ0 σ2 [] := (hs.trans s1).fresh s2 (fun x hx => .inr (hq x hx))
      obtain ⟨ad', z', q', σ', n', e, r⟩ := flat_inner L k m0 hb hp hv n (j + 1) σ2 ad2 z2 q2 (by omega) (by omega) ((s02.2 p hp (by simp)).trans ((hs.2 p hp (by simp)).symm.trans hg)) (by rw [htk]; exact hR2) (fun x hx => by rcases hq2 x hx with h | h; exact hq x h; have := hs.1; have := s1.1; omega) s02
      exact ⟨ad', z', q', σ', n', e, r⟩
theorem flat_outer (L k : Nat) (hL : 100 < L) {σ0 : St} {p : Nat} {b : List ByteArray} (hb : b.length = 32) (hp : p < σ0.next) : ∀ (n v : Nat) (σ : St) (ad : Option Addr) (z : Nat) (q : List Nat), v ≤ 4 → 4 - v < n → σ.get p = some (.own (strs b) 45) → Row cS 1 9 σ ad z q (b.take (8 * v)) → (∀ x ∈ q, σ0.next ≤ x) → Same σ0 σ [] →
    ∃ ad' z' q' σ', lpAt Tryz.prog env L k 18 [true, true, false, true] [] n [(1, ptr p), (3, .slice ad ((8 * v : Nat)) z), (6, .int .i64 v)] σ = some (.slice ad' 32 z', σ') ∧ Row cS 1 9 σ' ad' z' q' b ∧ (∀ x ∈ q', σ0.next ≤ x) ∧ Same σ0 σ' []
  | 0, v, σ, ad, z, q, _, h, _, _, _, _ => by omega
  | n + 1, v, σ, ad, z, q, hv, hn, hg, hR, hq, hs => by
    rw [f18_l3]
    by_cases h4 : v = 4
    · subst h4
      rw [decide_eq_false (by omega), br_false]
      rw [List.take_of_length_le (by omega)] at hR
      exact ⟨ad, z, q, σ, rfl, hR, hq, hs⟩
    · rw [decide_eq_true (by omega), br_true]
      obtain ⟨ad1, z1, q1, σ1, n', e, rfl, hg1, hR1, hq1, hs1⟩ := flat_inner L k n hb hp (v := v) (by omega) L 0 σ ad z q (by omega) (by omega) hg hR hq hs
      obtain ⟨ad', z', q', σ', e2, r⟩ := flat_outer L k hL hb hp n' (v + 1) σ1 ad1 z1 q1 (by omega) (by omega) hg1 hR1 hq1 hs1
      exact ⟨ad', z', q', σ', e.trans e2, r⟩
theorem flat_spec (L k : Nat) (hL : 100 < L) (σ : St) {b : List ByteArray} (hb : b.length = 32) : ∃ ad z q σ', evCall Tryz.prog env L (k + 1) 18 [.agg (strs b).toArray] σ = some (.slice ad 32 z, σ') ∧ Row cS 1 9 σ' ad z q b ∧ (∀ x ∈ q, σ.next ≤ x) ∧ Same σ σ' [] := by
  rw [f18_eq]
  have s1 : Same σ (σ.new (.own (strs b) 45)) [] := Same.new _ _ _
  have g1 : (σ.new (.own (strs b) 45)).get σ.next = some (.own (strs b) 45) := get_new_same _ _
  have n1 : (σ.new (.own (strs b) 45)).next = σ.next + 1 := rfl
  generalize σ.new (.own (strs b) 45) = σ1 at s1 g1 n1
  obtain ⟨ad', z', q', σ', e, h1, h2, h3⟩ := flat_outer L k hL hb (σ0 := σ1) (p := σ.next) (by omega) L 0 σ1 none 0 [] (by omega) (by omega) g1 (Row.nil _ _ _ _) (by simp) (Same.refl _ _)
  exact ⟨ad', z', q', σ', e, h1, fun x hx => by have := h2 x hx; omega, s1.trans h3⟩
theorem same_loop (L k : Nat) {σ : St} {ad1 ad2 : Option Addr} {z1 z2 : Nat} {q1 q2 : List Nat} {b : List ByteArray} (h1 : Row cS 1 9 σ ad1 z1 q1 b) (h2 : Row cS 1 9 σ ad2 z2 q2 b) (hb : b.length = 32) : ∀ (n i : Nat), i ≤ 32 → 32 - i < n →
    lpAt Tryz.prog env L k 17 [true, true, false, true] [] n [(0, .slice ad1 32 z1), (1, .slice ad2 32 z2), (12, .int .i64 (32 : Nat)), (13, .int .i64 i)] σ = some (.bool true, σ)
  | 0, i, _, h => by omega
  | n + 1, i, hi, hn => by
    rw [f17_l4]
    by_cases h32 : i = 32
    · rw [decide_eq_false (by omega), br_false]
    · have hget : b[i]? = some b[i] := List.getElem?_eq_getElem (by omega)
      obtain ⟨p1, e1, hat1⟩ := h1.at cS_len hget
      obtain ⟨p2, e2, hat2⟩ := h2.at cS_len hget
      generalize b[i] = s at hat1 hat2
      have hw : IntKind.wrap .i64 ((i : Int) + 1) = ((i + 1 : Nat) : Int) := by rw [wrap_in _ (by omega) (by omega)]; omega
      rw [decide_eq_true (by omega), br_true, need_of (by simp [inRange]; omega), e1, adr_some, hat1 0 (.string s) _ (by omega) rfl (by simp), asS_s, need_of (by simp [inRange]; omega), e2, adr_some, hat2 0 (.string s) _ (by omega) rfl (by simp), asS_s, show (ByteArray.toList s == ByteArray.toList s) = true by simp, not_true, br_false, hw, ← e1, ← e2]
      exact same_loop L k h1 h2 hb n (i + 1) (by omega) (by omega)
theorem same_spec (L k : Nat) (hL : 100 < L) {σ : St} {ad1 ad2 : Option Addr} {z1 z2 : Nat} {q1 q2 : List Nat} {b : List ByteArray} (h1 : Row cS 1 9 σ ad1 z1 q1 b) (h2 : Row cS 1 9 σ ad2 z2 q2 b) (hb : b.length = 32) :
    evCall Tryz.prog env L (k + 1) 17 [.slice ad1 32 z1, .slice ad2 32 z2] σ = some (.bool true, σ) := by
  rw [f17_eq, show (((32 : Nat) : Int) != ((32 : Nat) : Int)) = false by simp, br_false]
  exact same_loop L k h1 h2 hb L 0 (by omega) (by omega)
section
variable {σ : St} {w a : Nat} {s : IS} {F G : List Nat}
theorem dstep_spec (hR : D.Ref σ a F s.S s.W) (hI : DI σ w a (s.t : Nat) (s.km : Nat) s.bl G) (hd : ∀ x ∈ F, x ∉ G) (L k0 : Nat) (hL : 100000 < L) (hok : s.Ok) {mk' : Nat} {bl' : List ByteArray} {k : Nat} (hw : s.work = some (mk', bl', k)) {ad : Option Addr} {z : Nat} {q : List Nat} (hq : Row cS 1 9 σ ad z q bl') (hqF : ∀ x ∈ q, x ∉ F) :
    ∃ F' G' σ', evCall Tryz.prog env L (k0 + 5) 77 [ptr w, .int .i64 k, .slice ad 32 z, .int .i64 (mk' : Nat)] σ = some (.bool (decide (k = 34)), σ') ∧ D.Ref σ' a F' (stepS s mk' bl' k).S (stepS s mk' bl' k).W ∧
      DI σ' w a ((stepS s mk' bl' k).t : Nat) ((stepS s mk' bl' k).km : Nat) (stepS s mk' bl' k).bl G' ∧ (∃ σ1, Turn σ σ1 F F' ∧ Turn σ1 σ' G G') := by
  obtain ⟨hk34, hlong, hbl, hkm, hmk, hwl⟩ := hok.bw mk' bl' k hw
  have hok1 := hok.sl
  have hok2 := hok.tl
  obtain ⟨gq, gad, gz, rfl, h1, h2, h3, h4⟩ := hI.ex
  have hGlt := hI.lt
  have htw : IntKind.wrap .i64 ((s.t : Int) + 1) = ((s.t + 1 : Nat) : Int) := by rw [wrap_in _ (by omega) (by omega)]; omega
  have hidle : ∀ {σx : St}, Same σ σx [] → DI σx w a (s.t : Nat) (s.km : Nat) s.bl (w :: gq) := fun hs => hI.same hs (by simp)
  rw [f77_eq, ld_at h1 1 _ rfl, asI_i, htw]
  by_cases hk : k < 32
  · have hget : bl'[k]? = some bl'[k] := List.getElem?_eq_getElem (by omega)
    have hgd : bl'.getD k ⟨#[]⟩ = bl'[k] := by rw [List.getD_eq_getElem?_getD, hget]; rfl
    have hs16 := long_at hlong hget
    obtain ⟨qq, e, hat⟩ := hq.at cS_len hget
    have hst : stepS s mk' bl' k = { s with W := s.W ++ [⟨((2 + 32 * ((s.t + 1) % 2) + k : Nat) : Int), mkSec (bsec ((s.t + 1 : Nat) : Int) bl'[k])⟩], work := some (mk', bl', k + 1) } := by unfold stepS; rw [if_pos hk, hgd]
    rw [hst]
    generalize bl'[k] = b at hat hs16
    subst e
    obtain ⟨σ1, g1, s1⟩ := rblock_spec L k0 hL σ ((s.t + 1 : Nat) : Int) b hs16
    have h11 : σ1.get w = _ := (s1.2 w (hGlt w (by simp)) (by simp)).trans h1
    have hatw : IntKind.wrap .i64 (IntKind.wrap .i64 ((2 : Int) + IntKind.wrap .i64 ((32 : Int) * Int.tmod ((s.t + 1 : Nat) : Int) 2)) + (k : Int)) = ((2 + 32 * ((s.t + 1) % 2) + k : Nat) : Int) := by
      rw [tmod2, wrap_in ((32 : Int) * _) (by omega) (by omega), wrap_in ((2 : Int) + _) (by omega) (by omega), wrap_in _ (by omega) (by omega)]; omega
    have hsl := bsec_len ((s.t + 1 : Nat) : Int) b hs16
    rw [decide_eq_true (by omega), br_true, ld_at h1 0 _ rfl, asP_p, need_of (by simp [inRange]; omega), adr_some, hat 0 (.string b) _ (by omega) rfl (by simp), asS_s, g1, bnd_some, asS_s, ld_at h11 0 _ rfl, asP_p, chk_same, hatw]
    obtain ⟨c, σ2, g2, hor⟩ := D.rwrite_spec (hR.idle s1) L (k0 + 3) (by have := hok.wl; omega) ((2 + 32 * ((s.t + 1) % 2) + k : Nat) : Int) (str (bsec ((s.t + 1 : Nat) : Int) b))
    rw [g2, bnd_some, asI_i]
    rcases hor with ⟨F', hl, _, _, _, hR2, hT⟩ | ⟨hno, _⟩ | ⟨_, hno, _⟩
    · have hTT := Turn.before s1 hT hR.lt
      refine ⟨F', w :: gq, σ2, by rw [decide_eq_false (by omega)], ?_, ?_, σ2, hTT, Turn.idle (Same.refl _ _) ?_⟩
      · dsimp only
        rw [mkSec_of hsl]; exact hR2
      · exact (hidle s1).same hT.same (fun x hx hxF => hd x hxF hx)
      · exact ((hidle s1).same hT.same (fun x hx hxF => hd x hxF hx)).lt
    · exact absurd ⟨by omega, by omega⟩ hno
    · exact absurd hsl hno
  rw [decide_eq_false (by omega), br_false]
  by_cases hk2 : k = 32
  · subst hk2
    have hst : stepS s mk' bl' 32 = { s with S := D.lay (fun _ => true) 0 s.S s.W, W := [], work := some (mk', bl', 33) } := rfl
    rw [hst, show (((32 : Nat) : Int) == 32) = true from rfl, br_true, ld_at h1 0 _ rfl, asP_p]
    obtain ⟨F', σ2, g2, hR2, hT⟩ := D.rflush_spec L (k0 + 3) hR (by have := hok.wl; omega) (by have := hok.wl; omega) hok.wr
    rw [g2, bnd_some, asT_t, toList0, endl_n]
    have hI2 := hI.same hT.same (fun x hx hxF => hd x hxF hx)
    exact ⟨F', w :: gq, σ2, by rw [decide_eq_false (by omega)], hR2, hI2, σ2, hT, Turn.idle (Same.refl _ _) hI2.lt⟩
  rw [show ((k : Int) == 32) = false by rw [beq_eq_false_iff_ne]; omega, br_false]
  by_cases hk3 : k = 33
  · subst hk3
    have hst : stepS s mk' bl' 33 = { s with W := s.W ++ [⟨(((s.t + 1) % 2 : Nat) : Int), mkSec (hsec ((s.t + 1 : Nat) : Int) (mk' : Nat))⟩], work := some (mk', bl', 34) } := rfl
    rw [hst, show (((33 : Nat) : Int) == 33) = true from rfl, br_true, ld_at h1 0 _ rfl, asP_p]
    obtain ⟨σ1, g1, s1⟩ := rhead_spec L k0 hL σ ((s.t + 1 : Nat) : Int) (mk' : Nat)
    have h11 : σ1.get w = _ := (s1.2 w (hGlt w (by simp)) (by simp)).trans h1
    have hsl := hsec_len ((s.t + 1 : Nat) : Int) (mk' : Nat)
    rw [g1, bnd_some, asS_s, ld_at h11 0 _ rfl, asP_p, chk_same, tmod2]
    obtain ⟨c, σ2, g2, hor⟩ := D.rwrite_spec (hR.idle s1) L (k0 + 3) (by have := hok.wl; omega) (((s.t + 1) % 2 : Nat) : Int) (str (hsec ((s.t + 1 : Nat) : Int) (mk' : Nat)))
    rw [g2, bnd_some, asI_i]
    rcases hor with ⟨F', hl, _, _, _, hR2, hT⟩ | ⟨hno, _⟩ | ⟨_, hno, _⟩
    · have hTT := Turn.before s1 hT hR.lt
      have hI2 := (hidle s1).same hT.same (fun x hx hxF => hd x hxF hx)
      refine ⟨F', w :: gq, σ2, by rw [decide_eq_false (by omega)], ?_, hI2, σ2, hTT, Turn.idle (Same.refl _ _) hI2.lt⟩
      dsimp only
      rw [mkSec_of hsl]; exact hR2
    · exact absurd ⟨by omega, by omega⟩ hno
    · exact absurd hsl hno
  have hk4 : k = 34 := by omega
  subst hk4
  have hst : stepS s mk' bl' 34 = ⟨D.lay (fun _ => true) 0 s.S s.W, [], s.t + 1, mk', bl', none⟩ := rfl
  rw [hst, show (((34 : Nat) : Int) == 33) = false from rfl, br_false, ld_at h1 0 _ rfl, asP_p]
  obtain ⟨F', σ1, g1, hR1, hT⟩ := D.rflush_spec L (k0 + 3) hR (by have := hok.wl; omega) (by have := hok.wl; omega) hok.wr
  have hwF : w ∉ F := fun h => hd w h (by simp)
  have h11 : σ1.get w = _ := (hT.same.2 w (hGlt w (by simp)) hwF).trans h1
  have n1 := hT.same.1
  have hwl1 : w < σ1.next := by have := hGlt w (by simp); omega
  rw [g1, bnd_some, asT_t, toList0, endl_n]
  have s2 : Same σ1 (σ1.new (.own [] 9)) [] := Same.new _ _ _
  have g2 : (σ1.new (.own [] 9)).get σ1.next = some (.own [] 9) := get_new_same _ _
  have n2 : (σ1.new (.own [] 9)).next = σ1.next + 1 := rfl
  generalize σ1.new (.own [] 9) = σ2 at s2 g2 n2
  have hq2 := (hq.same hT.same hqF).same s2 (by simp)
  rw [hq2.read cS_len (32 * 1) (by omega)]
  have hE : Row cS 1 9 σ2 (some ⟨σ1.next, 0, none⟩) 1 [σ1.next] [] := ⟨by simp; omega, .inr ⟨_, [], rfl, rfl, rfl, g2⟩⟩
  obtain ⟨ad', z', q', σ3, hgrow, hR3, s3, hq3⟩ := grow_row (by_ := 16) hE cS_len cS_one (by omega) bl' (bl'.flatMap cS) rfl 32 hbl.symm (by simp; unfold roomTop; omega) (by simp; unfold sizeTop; omega)
  have hgrow' : ∀ K : Option Addr → Nat → Nat → St → Res, grow 9 1 16 (some ⟨σ1.next, 0, none⟩) 0 1 32 (bl'.flatMap cS) σ2 K = K ad' 32 z' σ3 := fun K => by have := hgrow K; simpa using this
  have s13 : Same σ1 σ3 [] := s2.fresh s3 (fun x hx => .inr (by simp at hx; subst hx; exact Nat.le_refl _))
  have h13 : σ3.get w = _ := (s13.2 w hwl1 (by simp)).trans h11
  have n3 := s13.1
  rw [hgrow', put_int h13 1 _ _ (by simp)]
  have g4 : (σ3.set w (.own (List.set [ptr a, .int .i64 (s.t : Nat), .int .i64 (s.km : Nat), .slice gad 32 gz] 1 (.int .i64 ((s.t + 1 : Nat) : Int))) 49)).get w = some (.own [ptr a, .int .i64 ((s.t + 1 : Nat) : Int), .int .i64 (s.km : Nat), .slice gad 32 gz] 49) := get_set_same _ _ _
  have s4 := Same.set σ3 w (.own (List.set [ptr a, .int .i64 (s.t : Nat), .int .i64 (s.km : Nat), .slice gad 32 gz] 1 (.int .i64 ((s.t + 1 : Nat) : Int))) 49)
  generalize σ3.set w (.own (List.set [ptr a, .int .i64 (s.t : Nat), .int .i64 (s.km : Nat), .slice gad 32 gz] 1 (.int .i64 ((s.t + 1 : Nat) : Int))) 49) = σ4 at g4 s4
  rw [put_int g4 2 _ _ (by simp)]
  have g5 : (σ4.set w (.own (List.set [ptr a, .int .i64 ((s.t + 1 : Nat) : Int), .int .i64 (s.km : Nat), .slice gad 32 gz] 2 (.int .i64 (mk' : Nat))) 49)).get w = some (.own [ptr a, .int .i64 ((s.t + 1 : Nat) : Int), .int .i64 (mk' : Nat), .slice gad 32 gz] 49) := get_set_same _ _ _
  have s5 := Same.set σ4 w (.own (List.set [ptr a, .int .i64 ((s.t + 1 : Nat) : Int), .int .i64 (s.km : Nat), .slice gad 32 gz] 2 (.int .i64 (mk' : Nat))) 49)
  generalize σ4.set w (.own (List.set [ptr a, .int .i64 ((s.t + 1 : Nat) : Int), .int .i64 (s.km : Nat), .slice gad 32 gz] 2 (.int .i64 (mk' : Nat))) 49) = σ5 at g5 s5
  rw [put_sl g5 3 _ _ _ (by simp)]
  have g6 : (σ5.set w (.own (List.set [ptr a, .int .i64 ((s.t + 1 : Nat) : Int), .int .i64 (mk' : Nat), .slice gad 32 gz] 3 (.slice ad' 32 z')) 49)).get w = some (.own [ptr a, .int .i64 ((s.t + 1 : Nat) : Int), .int .i64 (mk' : Nat), .slice ad' 32 z'] 49) := get_set_same _ _ _
  have s6 := Same.set σ5 w (.own (List.set [ptr a, .int .i64 ((s.t + 1 : Nat) : Int), .int .i64 (mk' : Nat), .slice gad 32 gz] 3 (.slice ad' 32 z')) 49)
  generalize σ5.set w (.own (List.set [ptr a, .int .i64 ((s.t + 1 : Nat) : Int), .int .i64 (mk' : Nat), .slice gad 32 gz] 3 (.slice ad' 32 z')) 49) = σ6 at g6 s6
  have s36 : Same σ3 σ6 [w] := (s4.trans s5).trans s6
  have s16 : Same σ1 σ6 [w] := (s13.mono (by simp)).trans s36
  have hfr : ∀ x ∈ q', σ1.next ≤ x := fun x hx => by
    rcases hq3 x hx with h | h
    · simp at h; omega
    · omega
  have hwq : w ∉ q' := fun h => by have := hfr w h; omega
  refine ⟨F', w :: q', σ6, rfl, hR1.same s16 (fun x hx => ?_), ⟨⟨q', ad', z', rfl, g6, hbl, by rw [List.nil_append] at hR3; exact hR3.same s36 (fun x hx => by simp; rintro rfl; exact hwq hx), hwq⟩, fun x hx => ?_⟩, σ1, hT, ⟨s16.mono (by simp), fun x hx => ?_⟩⟩
  · simp
    rintro rfl
    rcases (hT.sub x hx).1 with h | h
    · exact hwF h
    · have := hGlt x (by simp); omega
  · have := s36.1
    rcases List.mem_cons.1 hx with rfl | hx
    · omega
    · have := hR3.lt x hx; omega
  · have := s36.1
    rcases List.mem_cons.1 hx with rfl | hx
    · exact ⟨.inl (by simp), by omega⟩
    · exact ⟨.inr (hfr x hx), by have := hR3.lt x hx; omega⟩
end
end Go.AM.Bk

namespace Go.AM.Bk
open Go.Proofs
def σz : St := ⟨fun _ => none, 0⟩
theorem kz (σ : St) : Kept' σz.next σz σ := ⟨Nat.zero_le _, fun q hq => by simp [σz] at hq⟩
theorem owns_movedz {σ σ' : St} {Fs : List (List Nat)} (h : Owns σz σ Fs) (hl : ∀ F ∈ Fs, ∀ q ∈ F, q < σ'.next) : Owns σz σ' Fs :=
  ⟨kz σ', fun F hF q hq => ⟨Nat.zero_le _, hl F hF q hq⟩, h.dis⟩
theorem turn_flat {σ σ' : St} {Fs : List (List Nat)} {F F' : List Nat} (h : Owns σz σ Fs) (i : Nat) (hi : Fs[i]? = some F) (hT : Turn σ σ' F F') : Turn σ σ' Fs.flatten (Fs.set i F').flatten := by
  refine ⟨hT.same.mono (fun q hq => List.mem_flatten.2 ⟨F, List.mem_of_getElem? hi, hq⟩), fun q hq => ?_⟩
  obtain ⟨H, hH, hqH⟩ := List.mem_flatten.1 hq
  rcases List.mem_or_eq_of_mem_set hH with hH | rfl
  · have := h.own H hH q hqH
    exact ⟨.inl (List.mem_flatten.2 ⟨H, hH, hqH⟩), by have := hT.same.1; omega⟩
  · obtain ⟨h1, h2⟩ := hT.sub q hqH
    refine ⟨?_, h2⟩
    rcases h1 with h1 | h1
    · exact .inl (List.mem_flatten.2 ⟨F, List.mem_of_getElem? hi, h1⟩)
    · exact .inr h1
theorem D.Ref.moved {σ σ' : St} {a : Nat} {F : List Nat} {S : List D.Sec} {W : List D.Lw} (h : D.Ref σ a F S W) (hs : ∀ q ∈ F, σ'.get q = σ.get q) (hl : ∀ q ∈ F, q < σ'.next) : D.Ref σ' a F S W := by
  obtain ⟨q1, q2, ad1, z1, ad2, z2, rfl, h1, h2, h3, h4⟩ := h.ex
  exact ⟨⟨q1, q2, ad1, z1, ad2, z2, rfl, by rw [hs a (by simp)]; exact h1, h2.moved (fun q hq => hs q (by simp [hq])) (fun q hq => hl q (by simp [hq])), h3.moved (fun q hq => hs q (by simp [hq])) (fun q hq => hl q (by simp [hq])), h4⟩, hl⟩
theorem DI.moved {σ σ' : St} {w a : Nat} {t mk : Int} {bl : List ByteArray} {G : List Nat} (h : DI σ w a t mk bl G) (hs : ∀ q ∈ G, σ'.get q = σ.get q) (hl : ∀ q ∈ G, q < σ'.next) : DI σ' w a t mk bl G := by
  obtain ⟨q, ad, z, rfl, h1, h2, h3, h4⟩ := h.ex
  exact ⟨⟨q, ad, z, rfl, by rw [hs w (by simp)]; exact h1, h2, h3.moved (fun x hx => hs x (by simp [hx])) (fun x hx => hl x (by simp [hx])), h4⟩, hl⟩
theorem S.Ref.moved {σ σ' : St} {a : Nat} {F : List Nat} {first mark : Int} {rs : List S.Rec} {fast : Nat} (h : S.Ref σ a F first rs fast mark) (hs : ∀ q ∈ F, σ'.get q = σ.get q) (hl : ∀ q ∈ F, q < σ'.next) : S.Ref σ' a F first rs fast mark := by
  obtain ⟨qs, ad, z, rfl, h1, h2, h3⟩ := h.ex
  exact ⟨⟨qs, ad, z, rfl, h1, by rw [hs a (by simp)]; exact h2, h3.moved (fun x hx => hs x (by simp [hx])) (fun x hx => hl x (by simp [hx]))⟩, hl⟩
abbrev dnc (a w gr : Nat) (s : Nat → Nat) (mark : Int) (ad : Option Addr) (nb z : Nat) (dn : Int) : List Value := [ptr a, ptr w, ptr (s 0), ptr (s 1), ptr (s 2), ptr (s 3), ptr gr, .int .i64 mark, .slice ad nb z, .int .i64 dn]
def xs (F : Nat → List Nat) (wn : Nat) (FD FI FB : List Nat) : List (List Nat) := F 0 :: F 1 :: F 2 :: F 3 :: [wn] :: FD :: FI :: FB :: []
structure DNX (σ : St) (wn gr a w : Nat) (s : Nat → Nat) (F : Nat → List Nat) (FD FI FB : List Nat) (ad : Option Addr) (nb z : Nat) (dn : Int) (N : NS) : Prop where
  own : Owns σz σ (xs F wn FD FI FB)
  nd : σ.get wn = some (.own (dnc a w gr s N.mark ad nb z dn) 83)
  disk : D.Ref σ a FD N.im.S N.im.W
  img : DI σ w a (N.im.t : Nat) (N.im.km : Nat) N.im.bl FI
  st : ∀ v, v < 4 → S.Ref σ (s v) (F v) (N.st v).first (N.st v).rs (N.st v).rs.length (N.st v).mark
  wk : ∀ mk bl k, N.im.work = some (mk, bl, k) → dn = (k : Nat) ∧ nb = 32 ∧ bl.length = 32 ∧ Row cS 1 9 σ ad z FB bl
def DN (σ : St) (wn gr : Nat) (N : NS) (X : List Nat) : Prop := ∃ a w s F FD FI FB ad nb z dn, X = (xs F wn FD FI FB).flatten ∧ DNX σ wn gr a w s F FD FI FB ad nb z dn N
theorem xs_get (F : Nat → List Nat) (wn : Nat) (FD FI FB : List Nat) (v : Nat) (h : v < 4) : (xs F wn FD FI FB)[v]? = some (F v) := fl_get F _ v h
theorem xs_set (F : Nat → List Nat) (wn : Nat) (FD FI FB : List Nat) (v : Nat) (h : v < 4) (X : List Nat) : (xs F wn FD FI FB).set v X = xs (upd F v X) wn FD FI FB := fl_set F _ v h X
theorem dnc_get (a w gr : Nat) (s : Nat → Nat) (mark : Int) (ad : Option Addr) (nb z : Nat) (dn : Int) (v : Nat) (h : v < 4) : (dnc a w gr s mark ad nb z dn)[2 + v]? = some (ptr (s v)) := by
  rcases (by omega : v = 0 ∨ v = 1 ∨ v = 2 ∨ v = 3) with rfl | rfl | rfl | rfl <;> rfl
section
variable {σ : St} {wn gr a w : Nat} {s : Nat → Nat} {F : Nat → List Nat} {FD FI FB : List Nat} {ad : Option Addr} {nb z : Nat} {dn : Int} {N : NS}
theorem DNX.lt (h : DNX σ wn gr a w s F FD FI FB ad nb z dn N) {H : List Nat} (hH : H ∈ xs F wn FD FI FB) : ∀ q ∈ H, q < σ.next := fun q hq => (h.own.own H hH q hq).2
theorem DNX.ndlt (h : DNX σ wn gr a w s F FD FI FB ad nb z dn N) : wn < σ.next := h.lt (H := [wn]) (by simp [xs]) wn (by simp)
theorem DNX.flat (h : DNX σ wn gr a w s F FD FI FB ad nb z dn N) : ∀ q ∈ (xs F wn FD FI FB).flatten, q < σ.next := fun q hq => by
  obtain ⟨H, hH, hq⟩ := List.mem_flatten.1 hq
  exact h.lt hH q hq
theorem DNX.moved (h : DNX σ wn gr a w s F FD FI FB ad nb z dn N) {σ' : St} (hs : ∀ q ∈ (xs F wn FD FI FB).flatten, σ'.get q = σ.get q) (hl : ∀ q ∈ (xs F wn FD FI FB).flatten, q < σ'.next) : DNX σ' wn gr a w s F FD FI FB ad nb z dn N := by
  have hs' : ∀ H, H ∈ xs F wn FD FI FB → ∀ q ∈ H, σ'.get q = σ.get q := fun H hH q hq => hs q (List.mem_flatten.2 ⟨H, hH, hq⟩)
  have hl' : ∀ H, H ∈ xs F wn FD FI FB → ∀ q ∈ H, q < σ'.next := fun H hH q hq => hl q (List.mem_flatten.2 ⟨H, hH, hq⟩)
  refine ⟨owns_movedz h.own hl', (hs' [wn] (by simp [xs]) wn (by simp)).trans h.nd, h.disk.moved (hs' FD (by simp [xs])) (hl' FD (by simp [xs])), h.img.moved (hs' FI (by simp [xs])) (hl' FI (by simp [xs])), fun v hv => (h.st v hv).moved (hs' _ (List.mem_of_getElem? (xs_get F wn FD FI FB v hv))) (hl' _ (List.mem_of_getElem? (xs_get F wn FD FI FB v hv))), fun mk bl k e => ?_⟩
  obtain ⟨h1, h2, h3, h4⟩ := h.wk mk bl k e
  exact ⟨h1, h2, h3, h4.moved (hs' FB (by simp [xs])) (hl' FB (by simp [xs]))⟩
theorem DNX.idle (h : DNX σ wn gr a w s F FD FI FB ad nb z dn N) {σ' : St} (hs : Same σ σ' []) : DNX σ' wn gr a w s F FD FI FB ad nb z dn N :=
  h.moved (fun q hq => hs.2 q (h.flat q hq) (by simp)) (fun q hq => by have := h.flat q hq; have := hs.1; omega)
theorem DNX.stg (h : DNX σ wn gr a w s F FD FI FB ad nb z dn N) (v : Nat) (hv : v < 4) (o : Nat) (ho : o = 2 + v) : ∀ K : Value → Res, σ.ld wn o K = K (ptr (s v)) := fun K => by subst ho; exact ld_at h.nd (2 + v) _ (dnc_get a w gr s N.mark ad nb z dn v hv) K
theorem DNX.turn (h : DNX σ wn gr a w s F FD FI FB ad nb z dn N) (v : Nat) (hv : v < 4) {σ' : St} {F' : List Nat} (hT : Turn σ σ' (F v) F') {x : SS} (hS : S.Ref σ' (s v) F' x.first x.rs x.rs.length x.mark) :
    DNX σ' wn gr a w s (upd F v F') FD FI FB ad nb z dn { N with st := upd N.st v x } ∧ Turn σ σ' (xs F wn FD FI FB).flatten (xs (upd F v F') wn FD FI FB).flatten := by
  have hg := xs_get F wn FD FI FB v hv
  have h1 := h.own.turned v hg hT
  have h2 := turn_flat h.own v hg hT
  rw [xs_set F wn FD FI FB v hv] at h1 h2
  have hne : wn ∉ F v := h.own.off 4 v (by omega) rfl hg wn (by simp)
  refine ⟨⟨h1, (hT.same.2 wn h.ndlt hne).trans h.nd, h.disk.same hT.same (h.own.off 5 v (by omega) rfl hg), h.img.same hT.same (h.own.off 6 v (by omega) rfl hg), fun u hu => ?_, fun mk bl k e => ?_⟩, h2⟩
  · by_cases e : u = v
    · subst e; dsimp only; rw [upd_same, upd_same]; exact hS
    · dsimp only; rw [upd_ne _ _ e, upd_ne _ _ e]
      exact (h.st u hu).same hT.same (h.own.off u v e (xs_get F wn FD FI FB u hu) hg)
  · obtain ⟨a1, a2, a3, a4⟩ := h.wk mk bl k e
    exact ⟨a1, a2, a3, a4.same hT.same (h.own.off 7 v (by omega) rfl hg)⟩
theorem DNX.cells (h : DNX σ wn gr a w s F FD FI FB ad nb z dn N) (mark : Int) (ad' : Option Addr) (nb' z' : Nat) (dn' : Int) {σ' : St} (hs : Same σ σ' [wn]) (hg : σ'.get wn = some (.own (dnc a w gr s mark ad' nb' z' dn') 83))
    (hw : ∀ mk bl k, N.im.work = some (mk, bl, k) → dn' = (k : Nat) ∧ nb' = 32 ∧ ad' = ad ∧ z' = z) :
    DNX σ' wn gr a w s F FD FI FB ad' nb' z' dn' { N with mark := mark } ∧ Turn σ σ' (xs F wn FD FI FB).flatten (xs F wn FD FI FB).flatten := by
  have hlt := h.ndlt
  have hT : Turn σ σ' [wn] [wn] := ⟨hs, fun q hq => ⟨.inl hq, by simp at hq; have := hs.1; omega⟩⟩
  have h1 := h.own.turned 4 (F := [wn]) rfl hT
  have h2 := turn_flat h.own 4 (F := [wn]) rfl hT
  refine ⟨⟨h1, hg, h.disk.same hs (h.own.off 5 4 (by omega) rfl rfl), h.img.same hs (h.own.off 6 4 (by omega) rfl rfl), fun u hu => (h.st u hu).same hs (h.own.off u 4 (by omega) (xs_get F wn FD FI FB u hu) rfl), fun mk bl k e => ?_⟩, h2⟩
  obtain ⟨a1, a2, a3, a4⟩ := h.wk mk bl k e
  obtain ⟨b1, b2, b3, b4⟩ := hw mk bl k e
  subst b3; subst b4
  exact ⟨b1, b2, a3, a4.same hs (h.own.off 7 4 (by omega) rfl rfl)⟩
end
section
variable {σ : St} {wn gr a w : Nat} {s : Nat → Nat} {F : Nat → List Nat} {FD FI FB : List Nat} {ad : Option Addr} {nb z : Nat} {dn : Int} {N : NS} {c : Nat}
theorem small {v : Nat} (hI : N.Inv c) (hc : c ≤ 899) (hv : v < 4) : S.Small (N.st v).first (N.st v).rs.length := by
  have h := hI.st v hv
  have := h.f1
  have := h.len
  exact ⟨by omega, by omega, by omega⟩
theorem dtake_spec (L k : Nat) (h : DNX σ wn gr a w s F FD FI FB ad nb z dn N) (hI : N.Inv c) (hc : c ≤ 898) (v : Nat) (hv : v < 4) (r : S.Rec) :
    ∃ F' σ', evCall Tryz.prog env L (k + 3) 31 [ptr wn, .int .i64 v, r.agg] σ = some (.tuple #[.int .i64 ((N.take v r).st v).last, .int .i64 0], σ') ∧ DNX σ' wn gr a w s F' FD FI FB ad nb z dn (N.take v r) ∧ Turn σ σ' (xs F wn FD FI FB).flatten (xs F' wn FD FI FB).flatten := by
  have hv4 := hI.st v hv
  have hlen := hv4.len
  have hf1 := hv4.f1
  have hb := small hI (by omega) hv
  have e := f31_eq L (k + 2) σ wn (v : Int) r.seq r.kind r.block r.data r.number
  have s1 : Same σ (σ.new (.own [.int .i64 r.seq, .int .i64 r.kind, .int .i64 r.block, .string r.data, .int .i64 r.number] 58)) [] := Same.new _ _ _
  have g1 : (σ.new (.own [.int .i64 r.seq, .int .i64 r.kind, .int .i64 r.block, .string r.data, .int .i64 r.number] 58)).get σ.next = some (.own [.int .i64 r.seq, .int .i64 r.kind, .int .i64 r.block, .string r.data, .int .i64 r.number] 58) := get_new_same _ _
  generalize σ.new (.own [.int .i64 r.seq, .int .i64 r.kind, .int .i64 r.block, .string r.data, .int .i64 r.number] 58) = σ1 at s1 g1 e
  have h1 := h.idle s1
  have iv : inRange (v : Int) 4 = true := by simp [inRange]; omega
  obtain ⟨rs', F2, σ2, g2, hS2, hT2, hrs⟩ := S.rtake_spec (h1.st v hv) L k hb (by omega) r
  have hnd2 : wn ∉ F v := h1.own.off 4 v (by omega) rfl (xs_get F wn FD FI FB v hv) wn (by simp)
  have hn2 : σ2.get wn = _ := (hT2.same.2 wn h1.ndlt hnd2).trans h1.nd
  have htk : ((N.take v r).st v).rs = rs' ∧ ((N.take v r).st v).first = (N.st v).first ∧ ((N.take v r).st v).mark = (N.st v).mark := by
    unfold NS.take
    dsimp only
    rw [upd_same]
    unfold SS.take
    rw [hrs]
    by_cases hx : S.Can r ∧ r.seq = (N.st v).first + (N.st v).rs.length
    · rw [if_pos hx, if_pos ⟨hx.2, hx.1⟩]; exact ⟨rfl, rfl, rfl⟩
    · rw [if_neg hx, if_neg (fun hy => hx ⟨hy.2, hy.1⟩)]; exact ⟨rfl, rfl, rfl⟩
  have hrl : rs'.length ≤ (N.st v).rs.length + 1 := by
    rw [hrs]; split
    · simp
    · omega
  have ho : 2 + Int.toNat (v : Int) * 1 = 2 + v := by simp
  rw [decide_eq_false (by omega), br_false, decide_eq_false (by omega), br_false, need_of iv, h1.stg v hv _ ho, asP_p, lds_all (n := 5) g1 rfl, uncons_c, asI_i, uncons_c, asI_i, uncons_c, asI_i, uncons_c, asS_s, uncons_c, asI_i, endl_n] at e
  have g2' : evCall Tryz.prog env L (k + 2) 73 [ptr (s v), .agg #[.int .i64 r.seq, .int .i64 r.kind, .int .i64 r.block, .string r.data, .int .i64 r.number]] σ1 = _ := g2
  obtain ⟨qs, ad3, z3, hF2, hq2, hc2, hR2⟩ := hS2.ex
  have hld2 : ∀ K : Value → Res, σ2.ld wn (2 + v) K = K (ptr (s v)) := fun K => ld_at hn2 (2 + v) _ (dnc_get a w gr s N.mark ad nb z dn v hv) K
  rw [g2', bnd_some, asI_i, need_of iv, ho, hld2, asP_p, need_of iv, hld2, asP_p, adr_some, ld_at hc2 3 _ rfl, asSl_s, adr_some, put_int hc2 1 _ _ (by simp)] at e
  have s3 := Same.set σ2 (s v) (.own ([Value.int .i64 (N.st v).first, .int .i64 ((N.st v).rs.length : Nat), .int .i64 (N.st v).mark, .slice ad3 rs'.length z3].set 1 (.int .i64 (rs'.length : Nat))) 152)
  have g3 : (σ2.set (s v) (.own ([Value.int .i64 (N.st v).first, .int .i64 ((N.st v).rs.length : Nat), .int .i64 (N.st v).mark, .slice ad3 rs'.length z3].set 1 (.int .i64 (rs'.length : Nat))) 152)).get (s v) = some (.own [.int .i64 (N.st v).first, .int .i64 (rs'.length : Nat), .int .i64 (N.st v).mark, .slice ad3 rs'.length z3] 152) := get_set_same _ _ _
  have n3 : (σ2.set (s v) (.own ([Value.int .i64 (N.st v).first, .int .i64 ((N.st v).rs.length : Nat), .int .i64 (N.st v).mark, .slice ad3 rs'.length z3].set 1 (.int .i64 (rs'.length : Nat))) 152)).next = σ2.next := rfl
  have e' : evCall Tryz.prog env L (k + 3) 31 [ptr wn, .int .i64 v, r.agg] σ = _ := e
  generalize σ2.set (s v) (.own ([Value.int .i64 (N.st v).first, .int .i64 ((N.st v).rs.length : Nat), .int .i64 (N.st v).mark, .slice ad3 rs'.length z3].set 1 (.int .i64 (rs'.length : Nat))) 152) = σ3 at s3 g3 n3 e'
  have hS3 : S.Ref σ3 (s v) F2 (N.st v).first rs' rs'.length (N.st v).mark := ⟨⟨qs, ad3, z3, hF2, hq2, g3, hR2.same s3 (fun x hx => by simp; rintro rfl; exact hq2 hx)⟩, fun q hq => by have := hS2.lt q hq; omega⟩
  have hT3 : Turn σ2 σ3 F2 F2 := ⟨s3.mono (by rw [hF2]; simp), fun q hq => ⟨.inl hq, hS3.lt q hq⟩⟩
  have hwF2 : wn ≠ s v := by
    rintro rfl
    have hx : s v ∈ F2 := by rw [hF2]; simp
    rcases (hT2.sub _ hx).1 with hy | hy
    · exact hnd2 hy
    · have := h1.ndlt; omega
  have hn3 : σ3.get wn = _ := (s3.2 wn (by have := hT2.same.1; have := h1.ndlt; omega) (by simpa using hwF2)).trans hn2
  rw [need_of iv, ld_at hn3 (2 + v) _ (dnc_get a w gr s N.mark ad nb z dn v hv), asP_p, S.taken_spec hS3 L (k + 1) ⟨by omega, by omega, by omega⟩, bnd_some, asI_i] at e'
  obtain ⟨h3, t3⟩ := h1.turn v hv (hT2.trans hT3) (x := (N.take v r).st v) (by rw [htk.1, htk.2.1, htk.2.2]; exact hS3)
  refine ⟨upd F v F2, σ3, ?_, ?_, Turn.before s1 t3 h.flat⟩
  · unfold SS.last
    rw [htk.1, htk.2.1]
    exact e'
  · have : ({ N with st := upd N.st v ((N.take v r).st v) } : NS) = N.take v r := by
      unfold NS.take; dsimp only; rw [upd_same]
    rw [this] at h3
    exact h3
theorem dtake_out (L k : Nat) (σ : St) (wn : Nat) (v : Int) (hv : v < 0 ∨ 4 ≤ v) (r : S.Rec) : ∃ σ', evCall Tryz.prog env L (k + 1) 31 [ptr wn, .int .i64 v, r.agg] σ = some (.tuple #[.int .i64 0, .int .i64 5], σ') ∧ Same σ σ' [] := by
  have e := f31_eq L k σ wn v r.seq r.kind r.block r.data r.number
  refine ⟨σ.new (.own [.int .i64 r.seq, .int .i64 r.kind, .int .i64 r.block, .string r.data, .int .i64 r.number] 58), ?_, Same.new _ _ _⟩
  rcases hv with hv | hv
  · rw [decide_eq_true hv, br_true] at e
    exact e
  · rw [decide_eq_false (by omega), br_false, decide_eq_true (by omega : v > 3), br_true] at e
    exact e
theorem dcan_loop (L k : Nat) (hL : 100000 < L) (h : DNX σ wn gr a w s F FD FI FB ad nb z dn N) (hI : N.Inv c) (hc : c ≤ 899) (mk : Int) {l : List Nat} (hl : ∀ v ∈ l, v < 4) (hl4 : l.length ≤ 4) {ad1 : Option Addr} {z1 : Nat} {q : List Nat} (hR : Row c1 1 3 σ ad1 z1 q (ints l)) : ∀ (n i : Nat), i ≤ l.length → l.length - i < n →
    lpAt Tryz.prog env L (k + 1) 84 [true, true, false, true] [] n [(0, ptr wn), (1, .int .i64 mk), (5, .slice ad1 l.length z1), (14, .int .i64 l.length), (15, .int .i64 i)] σ = some (.bool ((l.drop i).all (fun v => (upTo (N.st v).rs mk).isSome) && (decide ((N.im.km : Int) < mk) && !l.isEmpty)), σ)
  | 0, i, _, hn => by omega
  | n + 1, i, hi, hn => by
    rw [f84_l3]
    by_cases hie : i = l.length
    · subst hie
      obtain ⟨qi, adi, zi, hFI, hw, hbl, hRi, _⟩ := h.img.ex
      rw [decide_eq_false (by omega), br_false, List.drop_length, ld_at h.nd (0 + 1) (ptr w) rfl, asP_p, adr_some, ld_at hw (0 + 2) (.int .i64 (N.im.km : Nat)) rfl, asI_i]
      by_cases hm : (N.im.km : Int) < mk
      · rw [decide_eq_true (show mk > (N.im.km : Nat) from hm), br_true]
        cases l with
        | nil => rfl
        | cons x l => rw [decide_eq_true (by simp)]; rfl
      · rw [decide_eq_false (show ¬ mk > (N.im.km : Nat) from hm), br_false]; rfl
    have hget : l[i]? = some l[i] := List.getElem?_eq_getElem (by omega)
    have hlv := hl l[i] (List.getElem_mem _)
    have hdr : l.drop i = l[i] :: l.drop (i + 1) := List.drop_eq_getElem_cons (by omega)
    obtain ⟨p, e, hat⟩ := hR.at (fun _ => rfl) (i := i) (a := (l[i] : Int)) (by unfold ints; rw [List.getElem?_map, hget]; rfl)
    have ih := dcan_loop L k hL h hI hc mk hl hl4 hR n (i + 1) (by omega) (by omega)
    generalize l[i] = v at *
    subst e
    have hw : IntKind.wrap .i64 ((i : Int) + 1) = ((i + 1 : Nat) : Int) := by rw [wrap_in _ (by omega) (by omega)]; omega
    have hv4 := hI.st v hlv
    have hlen := hv4.len
    have hf1 := hv4.f1
    rw [decide_eq_true (by omega), br_true, need_of (by simp [inRange]; omega), adr_some, hat 0 (.int .i64 v) _ (by omega) rfl (by simp), asI_i, need_of (by simp [inRange]; omega), h.stg v hlv _ (by simp), asP_p, hw, hdr, List.all_cons]
    rcases S.rupto_spec (h.st v hlv) L k (by omega) (Nat.le_refl _) (by omega) mk with ⟨j, r, g2, hjl, hj, hh, hno⟩ | ⟨g2, hno⟩
    · rw [g2, bnd_some, asI_i, decide_eq_false (by omega), br_false, ih, upTo_some hj hh hno]
      rfl
    · rw [g2, bnd_some, asI_i, decide_eq_true (by omega), br_true, upTo_none (fun r hr => by
        obtain ⟨j, hj⟩ := List.mem_iff_getElem?.1 hr
        exact hno j r (List.getElem?_eq_some_iff.1 hj).1 hj)]
      rfl
theorem dcan_spec (L k : Nat) (hL : 100000 < L) (h : DNX σ wn gr a w s F FD FI FB ad nb z dn N) (hI : N.Inv c) (hc : c ≤ 899) {GF : List Nat} {gs : GS} (hG : DG σ gr GF gs) (mk : Int) :
    ∃ σ', evCall Tryz.prog env L (k + 3) 84 [ptr wn, .int .i64 mk] σ = some (.bool (N.can gs mk), σ') ∧ Same σ σ' [] := by
  obtain ⟨ad1, z1, q, σ1, g1, hR, s1, hq⟩ := dat_spec L k (by omega) hG mk
  have hal := at_len gs mk
  rw [f84_eq, ld_at h.nd 6 (ptr gr) rfl, asP_p, g1, bnd_some, asSl_s]
  have e := dcan_loop L (k + 1) hL (h.idle s1) hI hc mk (l := gs.at_ mk) (fun v hv => at_lt hv) (at_len gs mk) hR L 0 (by omega) (by omega)
  exact ⟨σ1, e, s1⟩
theorem rdy_step (p : Int → Bool) (out m : Int) : (if p m = true then mx out m else out) = if out < m ∧ p m = true then m else out := by
  unfold mx
  by_cases hp : p m = true
  · rw [if_pos hp]
    by_cases h : out < m
    · rw [if_pos (show m > out from h), if_pos ⟨h, hp⟩]
    · rw [if_neg (show ¬ m > out from h), if_neg (fun hx => h hx.1)]
  · rw [if_neg hp, if_neg (fun hx => hp hx.2)]
theorem dready_inner (L k m0 : Nat) (hL : 100000 < L) (h : DNX σ wn gr a w s F FD FI FB ad nb z dn N) (hI : N.Inv c) (hc : c ≤ 899) {GF : List Nat} {gs : GS} (hG : DG σ gr GF gs) {v : Nat} (hv : v < 4) {l : List Int} (hl : l.length ≤ 1000) {ad1 : Option Addr} {z1 : Nat} {q : List Nat} {σb : St} (hR : Row c1 1 3 σb ad1 z1 q l) : ∀ (n i : Nat) (out : Int) (σ' : St), i ≤ l.length → l.length - i < n → Same σ σ' [] → Same σb σ' [] →
    ∃ σ2, lpAt Tryz.prog env L (k + 3) 40 [true, true, false, true, false, true, true, false, true, true, true] [m0] n [(0, ptr wn), (3, .int .i64 out), (5, .slice ad1 l.length z1), (7, .int .i64 v), (18, .int .i64 l.length), (19, .int .i64 i)] σ' =
      lpAt Tryz.prog env L (k + 3) 40 [true, true, false, true] [] m0 [(0, ptr wn), (3, .int .i64 (rdyL (N.can gs) out (l.drop i))), (7, .int .i64 ((v + 1 : Nat) : Int))] σ2 ∧ Same σ σ2 []
  | 0, i, out, σ', _, hn, _, _ => by omega
  | n + 1, i, out, σ', hi, hn, hs, hsb => by
    rw [f40_l7]
    by_cases hie : i = l.length
    · subst hie
      have hw : IntKind.wrap .i64 ((v : Int) + 1) = ((v + 1 : Nat) : Int) := by rw [wrap_in _ (by omega) (by omega)]; omega
      rw [decide_eq_false (by omega), br_false, List.drop_length, hw]
      exact ⟨σ', rfl, hs⟩
    have hget : l[i]? = some l[i] := List.getElem?_eq_getElem (by omega)
    have hdr : l.drop i = l[i] :: l.drop (i + 1) := List.drop_eq_getElem_cons (by omega)
    obtain ⟨p, e, hat⟩ := (hR.same hsb (by simp)).at (fun _ => rfl) hget
    have hin : inRange (i : Int) (l.length : Nat) = true := by simp [inRange]; omega
    obtain ⟨σ2, g2, s2⟩ := dcan_spec L k hL (h.idle hs) hI hc (hG.idle hs) l[i]
    obtain ⟨p2, e2, hat2⟩ := (hR.same (hsb.trans s2) (by simp)).at (fun _ => rfl) hget
    have hw : IntKind.wrap .i64 ((i : Int) + 1) = ((i + 1 : Nat) : Int) := by rw [wrap_in _ (by omega) (by omega)]; omega
    obtain ⟨σ3, e3, s3⟩ := dready_inner L k m0 hL h hI hc hG hv hl hR n (i + 1) (if out < l[i] ∧ N.can gs l[i] = true then l[i] else out) σ2 (by omega) (by omega) (hs.trans s2) (hsb.trans s2)
    refine ⟨σ3, ?_, s3⟩
    have hrd : rdyL (N.can gs) out (l.drop i) = rdyL (N.can gs) (if out < l[i] ∧ N.can gs l[i] = true then l[i] else out) (l.drop (i + 1)) := by rw [hdr]; rfl
    rw [hrd, ← e3, ← rdy_step]
    rw [e] at e2
    cases e2
    rw [decide_eq_true (by omega), br_true, need_of hin, e, adr_some, hat 0 (.int .i64 l[i]) _ (by omega) rfl (by simp), asI_i, g2, bnd_some, asB_b, hw]
    cases hcn : N.can gs l[i] with
    | true =>
      rw [br_true, need_of hin, adr_some, hat2 0 (.int .i64 l[i]) _ (by omega) rfl (by simp), asI_i, if_pos rfl]
    | false =>
      rw [br_false, if_neg (by decide)]
theorem dready_outer (L k : Nat) (hL : 100000 < L) (h : DNX σ wn gr a w s F FD FI FB ad nb z dn N) (hI : N.Inv c) (hc : c ≤ 899) {GF : List Nat} {gs : GS} (hG : DG σ gr GF gs) : ∀ (n v : Nat) (out : Int) (σ' : St), v ≤ 4 → 4 - v < n → Same σ σ' [] →
    ∃ σ2, lpAt Tryz.prog env L (k + 3) 40 [true, true, false, true] [] n [(0, ptr wn), (3, .int .i64 out), (7, .int .i64 v)] σ' = some (.int .i64 (rdyL (N.can gs) out (((List.range 4).drop v).flatMap fun v => S.marksOf (N.st v).rs)), σ2) ∧ Same σ σ2 []
  | 0, v, out, σ', _, hn, _ => by omega
  | n + 1, v, out, σ', hv, hn, hs => by
    rw [f40_l3]
    by_cases hie : v = 4
    · subst hie
      rw [decide_eq_false (by omega), br_false]
      exact ⟨σ', rfl, hs⟩
    have hv4 : v < 4 := by omega
    have h' := h.idle hs
    have hlen := (hI.st v hv4).len
    have hf1 := (hI.st v hv4).f1
    obtain ⟨x, σ2, g2, adO, zO, qO, rfl, hR2, s2, hq2⟩ := S.rmarks_spec (h'.st v hv4) L (k + 2) (by omega) (Nat.le_refl _) (by omega)
    rw [List.take_length] at hR2 g2
    have hml : (S.marksOf (N.st v).rs).length ≤ 1000 := by
      have : (S.marksOf (N.st v).rs).length ≤ (N.st v).rs.length := by unfold S.marksOf; exact List.length_filterMap_le _ _
      omega
    rw [decide_eq_true (by omega), br_true, need_of (by simp [inRange]; omega), h'.stg v hv4 _ (by simp), asP_p, g2, bnd_some, asSl_s]
    obtain ⟨σ3, e3, s3⟩ := dready_inner L k n hL h hI hc hG hv4 hml hR2 L 0 out σ2 (by omega) (by omega) (hs.trans s2) (Same.refl _ _)
    rw [List.drop_zero] at e3
    obtain ⟨σ4, e4, s4⟩ := dready_outer L k hL h hI hc hG n (v + 1) (rdyL (N.can gs) out (S.marksOf (N.st v).rs)) σ3 (by omega) (by omega) s3
    refine ⟨σ4, ?_, s4⟩
    have hd : (List.range 4).drop v = v :: (List.range 4).drop (v + 1) := by
      rcases (by omega : v = 0 ∨ v = 1 ∨ v = 2 ∨ v = 3) with rfl | rfl | rfl | rfl <;> rfl
    rw [hd, List.flatMap_cons, rdyL_app, ← e4]
    exact e3
theorem dready_spec (L k : Nat) (hL : 100000 < L) (h : DNX σ wn gr a w s F FD FI FB ad nb z dn N) (hI : N.Inv c) (hc : c ≤ 899) {GF : List Nat} {gs : GS} (hG : DG σ gr GF gs) :
    ∃ σ', evCall Tryz.prog env L (k + 4) 40 [ptr wn] σ = some (.int .i64 (N.ready gs), σ') ∧ Same σ σ' [] := by
  rw [f40_eq]
  exact dready_outer L k hL h hI hc hG L 0 0 σ (by omega) (by omega) (Same.refl _ _)
end
end Go.AM.Bk

namespace Go.AM.Bk
open Go.Proofs
theorem put_cell {σ : St} {r : Nat} {vs : List Value} {e : TypeId} (h : σ.get r = some (.own vs e)) (o : Nat) (v : Value) (ho : o < vs.length) (h1 : oneCell v = true) :
    ∃ σ', (∀ K : St → Res, σ.put r o [v] K = K σ') ∧ σ'.get r = some (.own (vs.set o v) e) ∧ Same σ σ' [r] :=
  ⟨_, fun K => put_at h o v ho h1 K, get_set_same _ _ _, Same.set _ _ _⟩
theorem replay_loop (L k : Nat) {σ1 : St} {v : Nat} (hv : v < 4) {b : List ByteArray} (hb : b.length = 32) {rs : List S.Rec} (hl : rs.length ≤ 1000) (hcan : ∀ r ∈ rs, S.Can r) {ad2 : Option Addr} {z2 : Nat} {q2 : List Nat} (hR : Row S.c5 5 58 σ1 ad2 z2 q2 rs) {ad7 : Option Addr} {z7 : Nat} {q7 : List Nat} (hq7 : ∀ x ∈ q7, σ1.next ≤ x) : ∀ (n i : Nat) (σ : St), i ≤ rs.length → rs.length - i < n → Same σ1 σ [] → Row cS 1 9 σ ad7 z7 q7 (replay b v (rs.take i)) →
    ∃ σ', lpAt Tryz.prog env L k 75 [true, true, false, true] [] n [(1, .int .i64 v), (2, .slice ad2 rs.length z2), (7, .slice ad7 32 z7), (13, .int .i64 rs.length), (14, .int .i64 i)] σ = some (.slice ad7 32 z7, σ') ∧ Row cS 1 9 σ' ad7 z7 q7 (replay b v rs) ∧ Same σ1 σ' []
  | 0, i, σ, _, hn, _, _ => by omega
  | n + 1, i, σ, hi, hn, hs, hr => by
    rw [f75_l3]
    by_cases hie : i = rs.length
    · subst hie
      rw [List.take_length] at hr
      rw [decide_eq_false (by omega), br_false]
      exact ⟨σ, rfl, hr, hs⟩
    have hget : rs[i]? = some rs[i] := List.getElem?_eq_getElem (by omega)
    have hri := hcan rs[i] (List.getElem_mem _)
    have htk : rs.take (i + 1) = rs.take i ++ [rs[i]] := by rw [List.take_add_one, hget]; rfl
    obtain ⟨w, e, hat⟩ := (hR.same hs (by simp)).at (fun _ => rfl) hget
    generalize rs[i] = r at *
    subst e
    have hin : inRange (i : Int) (rs.length : Nat) = true := by simp [inRange]; omega
    have hw : IntKind.wrap .i64 ((i : Int) + 1) = ((i + 1 : Nat) : Int) := by rw [wrap_in _ (by omega) (by omega)]; omega
    have hrl := replay_len v (rs.take i) b
    have hsn := replay_snoc b v (rs.take i) r
    rw [← htk] at hsn
    rw [decide_eq_true (by omega), br_true, need_of hin, adr_some, hat 1 (.int .i64 r.kind) _ (by omega) rfl (by simp), asI_i, hw]
    by_cases hk : r.kind = 1
    · obtain ⟨_, hc1 | hc1⟩ := hri
      rotate_left
      · omega
      obtain ⟨_, hb0, hb7, _⟩ := hc1
      rw [if_pos hk] at hsn
      have hix : IntKind.wrap .i64 (IntKind.wrap .i64 ((8 : Int) * (v : Int)) + r.block) = ((8 * v + r.block.toNat : Nat) : Int) := by
        rw [wrap_in ((8 : Int) * _) (by omega) (by omega), wrap_in _ (by omega) (by omega)]; omega
      obtain ⟨p, σ2, eq, ea, hput, hr2, s2, n2⟩ := hr.put cS_len cS_one (i := 8 * v + r.block.toNat) (by rw [hrl, hb]; omega) r.data
      rw [← hsn] at hr2
      have hput' : ∀ K : St → Res, σ.put p (0 + Int.toNat ((8 * v + r.block.toNat : Nat) : Int) * 1) [.string r.data] K = K σ2 := fun K => hput _ (by rw [Int.toNat_natCast]; omega) K
      have hs2 : Same σ1 σ2 [] := hs.fresh s2 (fun x hx => .inr (hq7 x hx))
      obtain ⟨σ3, e3, h3⟩ := replay_loop L k hv hb hl hcan hR hq7 n (i + 1) σ2 (by omega) (by omega) hs2 hr2
      refine ⟨σ3, ?_, h3⟩
      rw [show (r.kind == 1) = true by simpa using hk, br_true, need_of hin, adr_some, hat 2 (.int .i64 r.block) _ (by omega) rfl (by simp), asI_i, need_of hin, adr_some, hat 3 (.string r.data) _ (by omega) rfl (by simp), asS_s, hix, need_of (by simp [inRange]; omega), ea, adr_some, hput', ← ea]
      exact e3
    · rw [if_neg hk] at hsn
      rw [show (r.kind == 1) = false by simpa using hk, br_false]
      exact replay_loop L k hv hb hl hcan hR hq7 n (i + 1) σ (by omega) (by omega) hs (by rw [hsn]; exact hr)
theorem replay_spec (L k : Nat) (hL : 100000 < L) {σ : St} {v : Nat} (hv : v < 4) {b : List ByteArray} (hb : b.length = 32) {ad : Option Addr} {z : Nat} {q : List Nat} (hB : Row cS 1 9 σ ad z q b) {rs : List S.Rec} (hl : rs.length ≤ 1000) (hcan : ∀ r ∈ rs, S.Can r) {ad2 : Option Addr} {z2 : Nat} {q2 : List Nat} (hR : Row S.c5 5 58 σ ad2 z2 q2 rs) {n2 : Nat} (hn2 : n2 = rs.length) :
    ∃ ad' z' q' σ', evCall Tryz.prog env L (k + 1) 75 [.slice ad 32 z, .int .i64 v, .slice ad2 n2 z2] σ = some (.slice ad' 32 z', σ') ∧ Row cS 1 9 σ' ad' z' q' (replay b v rs) ∧ Same σ σ' [] ∧ (∀ x ∈ q', σ.next ≤ x) := by
  subst hn2
  rw [f75_eq]
  have s2 : Same σ (σ.new (.own [] 9)) [] := Same.new _ _ _
  have g2 : (σ.new (.own [] 9)).get σ.next = some (.own [] 9) := get_new_same _ _
  have n2 : (σ.new (.own [] 9)).next = σ.next + 1 := rfl
  generalize σ.new (.own [] 9) = σ2 at s2 g2 n2
  have hq2 := hB.same s2 (by simp)
  rw [hq2.read cS_len (32 * 1) (by omega)]
  have hE : Row cS 1 9 σ2 (some ⟨σ.next, 0, none⟩) 1 [σ.next] [] := ⟨by simp; omega, .inr ⟨_, [], rfl, rfl, rfl, g2⟩⟩
  obtain ⟨ad', z', q', σ3, hgrow, hR3, s3, hq3⟩ := grow_row (by_ := 16) hE cS_len cS_one (by omega) b (b.flatMap cS) rfl 32 hb.symm (by simp; unfold roomTop; omega) (by simp; unfold sizeTop; omega)
  have hgrow' : ∀ K : Option Addr → Nat → Nat → St → Res, grow 9 1 16 (some ⟨σ.next, 0, none⟩) 0 1 32 (b.flatMap cS) σ2 K = K ad' 32 z' σ3 := fun K => by have := hgrow K; simpa using this
  have s13 : Same σ σ3 [] := s2.fresh s3 (fun x hx => .inr (by simp at hx; subst hx; exact Nat.le_refl _))
  have hqf : ∀ x ∈ q', σ.next ≤ x := fun x hx => by
    rcases hq3 x hx with h | h
    · simp at h; omega
    · omega
  rw [hgrow']
  obtain ⟨σ4, e4, h4, s4⟩ := replay_loop L k hv hb hl hcan hR hqf L 0 σ3 (by omega) (by omega) s13 (by rw [List.take_zero]; exact hR3)
  exact ⟨ad', z', q', σ4, e4, h4, s4, hqf⟩
section
variable {σ : St} {wn gr a w : Nat} {s : Nat → Nat} {F : Nat → List Nat} {FD FI FB : List Nat} {ad : Option Addr} {nb z : Nat} {dn : Int} {N : NS} {c : Nat}
theorem DNX.newB (h : DNX σ wn gr a w s F FD FI FB ad nb z dn N) (hw : N.im.work = none) {σ' : St} (hs : Same σ σ' []) {FB' : List Nat} (hB : ∀ x ∈ FB', σ.next ≤ x ∧ x < σ'.next) :
    DNX σ' wn gr a w s F FD FI FB' ad nb z dn N ∧ Turn σ σ' (xs F wn FD FI FB).flatten (xs F wn FD FI FB').flatten := by
  have hT : Turn σ σ' FB FB' := ⟨hs.mono (by simp), fun q hq => ⟨.inr (hB q hq).1, (hB q hq).2⟩⟩
  have h1 := h.own.turned 7 (F := FB) rfl hT
  have h2 := turn_flat h.own 7 (F := FB) rfl hT
  have hi := h.idle hs
  exact ⟨⟨h1, hi.nd, hi.disk, hi.img, hi.st, fun mk bl k e => by rw [hw] at e; cases e⟩, h2⟩
theorem dbegin_loop (L k : Nat) (hL : 100000 < L) (hI : N.Inv c) (hc : c ≤ 899) (hw : N.im.work = none) {mk : Int} {l : List Nat} (hl : ∀ v ∈ l, v < 4) (hl4 : l.length ≤ 4) (hall : ∀ v ∈ l, ∃ j, upTo (N.st v).rs mk = some j) {adl : Option Addr} {zl : Nat} {ql : List Nat} (hwq : wn ∉ ql) (hbl : N.im.bl.length = 32) : ∀ (n i : Nat) (σ : St) (FB : List Nat) (ad : Option Addr) (z : Nat) (qB : List Nat), i ≤ l.length → l.length - i < n → DNX σ wn gr a w s F FD FI FB ad 32 z 0 { N with mark := mk } → Row c1 1 3 σ adl zl ql (ints l) → Row cS 1 9 σ ad z qB ((l.take i).foldl (N.layOne mk) N.im.bl) → wn ∉ qB → (i = 0 ∨ qB = FB) →
    ∃ FB' ad' z' σ', lpAt Tryz.prog env L (k + 2) 32 [true, true, true, true, true, true, true, false, true] [] n [(0, ptr wn), (4, .int .i64 mk), (5, .slice adl l.length zl), (41, .int .i64 l.length), (42, .int .i64 i)] σ = some (.tuple #[.int .i64 mk, .int .i64 0], σ') ∧
      DNX σ' wn gr a w s F FD FI FB' ad' 32 z' 0 { N with mark := mk } ∧ Turn σ σ' (xs F wn FD FI FB).flatten (xs F wn FD FI FB').flatten ∧ (l ≠ [] → Row cS 1 9 σ' ad' z' FB' (l.foldl (N.layOne mk) N.im.bl))
  | 0, i, σ, FB, ad, z, qB, _, hn, _, _, _, _, _ => by omega
  | n + 1, i, σ, FB, ad, z, qB, hi, hn, h, hR, hB, hwB, hor => by
    rw [f32_l10]
    by_cases hie : i = l.length
    · subst hie
      rw [List.take_length] at hB
      rw [decide_eq_false (by omega), br_false]
      refine ⟨FB, ad, z, σ, rfl, h, Turn.idle (Same.refl _ _) h.flat, fun hne => ?_⟩
      rcases hor with h0 | h0
      · exact absurd (List.eq_nil_of_length_eq_zero h0) hne
      · rw [← h0]; exact hB
    have hget : l[i]? = some l[i] := List.getElem?_eq_getElem (by omega)
    have hlv := hl l[i] (List.getElem_mem _)
    obtain ⟨j, hj⟩ := hall l[i] (List.getElem_mem _)
    have hfd := foldl_drop (N.layOne mk) N.im.bl l i _ hget
    have hbl2 := lay_len N mk (l.take i) N.im.bl
    obtain ⟨p, e, hat⟩ := hR.at (fun _ => rfl) (i := i) (a := (l[i] : Int)) (by unfold ints; rw [List.getElem?_map, hget]; rfl)
    generalize l[i] = v at *
    subst e
    have hv4 := hI.st v hlv
    have hlen := hv4.len
    have hf1 := hv4.f1
    have hw1 : IntKind.wrap .i64 ((i : Int) + 1) = ((i + 1 : Nat) : Int) := by rw [wrap_in _ (by omega) (by omega)]; omega
    have hin : inRange (i : Int) (l.length : Nat) = true := by simp [inRange]; omega
    obtain ⟨r0, hr0, hh0, hno0, hjlt⟩ := upTo_inv hj
    have hSv : S.Ref σ (s v) (F v) (N.st v).first (N.st v).rs (N.st v).rs.length (N.st v).mark := h.st v hlv
    have g2 : evCall Tryz.prog env L (k + 2) 76 [ptr (s v), .int .i64 mk] σ = some (.int .i64 ((j + 1 : Nat) : Int), σ) := by
      rcases S.rupto_spec hSv L (k + 1) (by omega) (Nat.le_refl _) (by omega) mk with ⟨j', r', g2, hjl, hj', hh, hno⟩ | ⟨g2, hno⟩
      · have := upTo_some hj' hh hno
        rw [hj] at this
        cases this
        exact g2
      · exact absurd hh0 (hno j r0 hjlt hr0)
    obtain ⟨qs, adS, zS, hFv, hqs, hcS, hRS⟩ := hSv.ex
    have hzS : (Nat.beq zS 0 || Nat.beq zS 5) = true := by rcases hRS.z with e | e <;> rw [e] <;> rfl
    have hldl : ∀ K : Value → Res, σ.ld p (0 + Int.toNat (i : Int) * 1) K = K (.int .i64 v) := fun K => hat 0 (.int .i64 v) _ (by omega) rfl (by simp) K
    have hld8 : ∀ K : Value → Res, σ.ld wn (0 + 8) K = K (.slice ad 32 z) := fun K => ld_at h.nd (0 + 8) _ rfl K
    have htl : ((N.st v).rs.take (j + 1)).length = j + 1 := by rw [List.length_take]; omega
    have hcanr : ∀ r ∈ (N.st v).rs.take (j + 1), S.Can r := fun r hr => by
      obtain ⟨i, hi⟩ := List.mem_iff_getElem?.1 (List.mem_of_mem_take hr)
      exact (hv4.seq i r hi).1
    obtain ⟨ad', z', q', σ2, g3, hB2, s2, hq2⟩ := replay_spec L (k + 1) hL hlv (hbl2.trans hbl) hB (rs := (N.st v).rs.take (j + 1)) (by omega) hcanr (hRS.take (j + 1)) (n2 := j + 1) htl.symm
    obtain ⟨h2, t2⟩ := h.newB (show ({ N with mark := mk } : NS).im.work = none from hw) s2 (FB' := q') (fun x hx => ⟨hq2 x hx, hB2.lt x hx⟩)
    obtain ⟨σ3, hp3, g4, s3⟩ := put_cell h2.nd 8 (.slice ad' 32 z') (by simp) rfl
    have hwq' : wn ∉ q' := fun hx => by have := hq2 _ hx; have := h.ndlt; omega
    obtain ⟨h3, t3⟩ := h2.cells mk ad' 32 z' 0 s3 g4 (fun mk bl k e => by rw [hw] at e; cases e)
    have hB3 := hB2.same s3 (fun x hx => by simp; rintro rfl; exact hwq' hx)
    have hR3 := (hR.same s2 (by simp)).same s3 (fun x hx => by simp; rintro rfl; exact hwq hx)
    have hlay : replay ((l.take i).foldl (N.layOne mk) N.im.bl) v ((N.st v).rs.take (j + 1)) = (l.take (i + 1)).foldl (N.layOne mk) N.im.bl := by
      rw [hfd]; unfold NS.layOne; rw [hj]
    rw [hlay] at hB3
    obtain ⟨FB', ad5, z5, σ5, e5, h5, t5, hB5⟩ := dbegin_loop L k hL hI hc hw hl hl4 hall hwq hbl n (i + 1) σ3 q' ad' z' q' (by omega) (by omega) h3 hR3 hB3 hwq' (.inr rfl)
    refine ⟨FB', ad5, z5, σ5, ?_, h5, (t2.trans t3).trans t5, hB5⟩
    have hp3' : ∀ K : St → Res, σ2.put wn (0 + 8) [.slice ad' 32 z'] K = K σ3 := hp3
    rw [decide_eq_true (by omega), br_true, need_of hin, adr_some, hldl, asI_i, need_of (by simp [inRange]; omega), h.stg v hlv _ (by simp), asP_p, hld8, asSl_s, need_of hin, adr_some, hldl, asI_i, adr_some, ld_at hcS (0 + 3) _ rfl, asSl_s, g2, bnd_some, asI_i, hld8, asSl_s, chk_same, hldl, asI_i, chk_same, ld_at hcS (0 + 3) _ rfl, asSl_s, chk_same, need_of hzS, need_of (by simp [inRange]; omega), hRS.sub0, show Int.toNat ((j + 1 : Nat) : Int) - 0 = j + 1 from rfl, g3, bnd_some, asSl_s, hp3', hw1]
    exact e5
theorem dbegin_spec (L k : Nat) (hL : 100000 < L) (h : DNX σ wn gr a w s F FD FI FB ad nb z dn N) (hI : N.Inv c) (hc : c ≤ 899) {GF : List Nat} {gs : GS} (hG : DG σ gr GF gs) (hGX : ∀ q ∈ GF, q ∉ (xs F wn FD FI FB).flatten) :
    ∃ v σ', evCall Tryz.prog env L (k + 6) 32 [ptr wn] σ = some (v, σ') ∧
      ((N.mark ≠ 0 ∧ v = .tuple #[.int .i64 0, .int .i64 9] ∧ Same σ σ' []) ∨ (N.mark = 0 ∧ N.ready gs = 0 ∧ v = .tuple #[.int .i64 0, .int .i64 8] ∧ Same σ σ' []) ∨
       (N.mark = 0 ∧ N.ready gs ≠ 0 ∧ v = .tuple #[.int .i64 (N.ready gs), .int .i64 0] ∧ ∃ FB' ad' z', DNX σ' wn gr a w s F FD FI FB' ad' 32 z' 0 (N.begun gs (N.ready gs)) ∧ Turn σ σ' (xs F wn FD FI FB).flatten (xs F wn FD FI FB').flatten)) := by
  rw [f32_eq, ld_at h.nd 7 (.int .i64 N.mark) rfl, asI_i]
  by_cases h0 : N.mark = 0
  rotate_left
  · rw [show (N.mark != 0) = true by simpa using h0, br_true]
    exact ⟨_, σ, rfl, .inl ⟨h0, rfl, Same.refl _ _⟩⟩
  obtain ⟨σ1, g1, s1⟩ := dready_spec L (k + 1) hL h hI hc hG
  rw [show (N.mark != 0) = false by simpa using h0, br_false, g1, bnd_some, asI_i]
  by_cases hr : N.ready gs = 0
  · rw [show (N.ready gs == 0) = true by simpa using hr, br_true]
    exact ⟨_, σ1, rfl, .inr (.inl ⟨h0, hr, rfl, s1⟩)⟩
  have hw : N.im.work = none := by
    rcases hI.wk with ⟨_, h⟩ | ⟨h, _⟩
    · exact h
    · omega
  obtain ⟨hcan, _⟩ := ready_can hr
  obtain ⟨hall, _, hne⟩ := can_inv hcan
  have h1 := h.idle s1
  obtain ⟨σ2, hp2, g2, s2⟩ := put_cell h1.nd 7 (.int .i64 (N.ready gs)) (by simp) rfl
  obtain ⟨σ3, hp3, g3, s3⟩ := put_cell g2 9 (.int .i64 0) (by simp) rfl
  have s13 : Same σ1 σ3 [wn] := s2.trans s3
  have h3I := h1.img.same s13 (h1.own.off 6 4 (by omega) rfl rfl)
  obtain ⟨qi, adi, zi, hFI, hcI, hbl, hRi, _⟩ := h3I.ex
  obtain ⟨σ4, hp4, g4, s4⟩ := put_cell g3 8 (.slice adi 32 zi) (by simp) rfl
  have s14 : Same σ1 σ4 [wn] := s13.trans s4
  obtain ⟨h4, t4⟩ := h1.cells (N.ready gs) adi 32 zi 0 s14 g4 (fun mk bl k e => by rw [hw] at e; cases e)
  have hwFI : wn ∉ FI := fun hx => h1.own.off 6 4 (by omega) rfl rfl wn hx (by simp)
  have hwqi : wn ∉ qi := fun hx => hwFI (by rw [hFI]; simp [hx])
  have hR4 := hRi.same s4 (fun x hx => by simp; rintro rfl; exact hwqi hx)
  have hGw : ∀ q ∈ GF, q ∉ [wn] := fun q hq hx => hGX q hq (by
    simp at hx; subst hx
    exact List.mem_flatten.2 ⟨[q], by simp [xs], by simp⟩)
  obtain ⟨adl, zl, ql, σ5, g5, hRl, s5, hql⟩ := dat_spec L (k + 3) (by omega) ((hG.idle s1).same s14 hGw) (N.ready gs)
  have h5 := h4.idle s5
  have hwl : wn ∉ ql := fun hx => by have := hql _ hx; have := h4.ndlt; omega
  obtain ⟨FB', ad', z', σ6, e6, h6, t6, hB6⟩ := dbegin_loop L (k + 3) hL hI hc hw (mk := N.ready gs) (l := gs.at_ (N.ready gs)) (fun v hv => at_lt hv) (at_len _ _) hall hwl hbl L 0 σ5 FB adi zi qi (by omega) (by have := at_len gs (N.ready gs); omega) h5 hRl (by rw [List.take_zero]; exact hR4.same s5 (by simp)) hwqi (.inl rfl)
  refine ⟨_, σ6, ?_, .inr (.inr ⟨h0, hr, rfl, FB', ad', z', ⟨h6.own, h6.nd, h6.disk, h6.img, h6.st, fun mk bl k e => ?_⟩, ?_⟩)⟩
  · rw [show (N.ready gs == 0) = false by simpa using hr, br_false, hp2, hp3, ld_at g3 1 (ptr w) rfl, asP_p, adr_some, ld_at hcI (0 + 3) _ rfl, asSl_s, hp4, ld_at g4 6 (ptr gr) rfl, asP_p, g5, bnd_some, asSl_s]
    exact e6
  · have e' : some ((N.ready gs).toNat, N.lay gs (N.ready gs), 0) = some (mk, bl, k) := e
    cases e'
    exact ⟨rfl, rfl, (lay_len N _ _ _).trans hbl, hB6 hne⟩
  · exact ((Turn.before s1 t4 h.flat).after s5).trans t6
end
end Go.AM.Bk
