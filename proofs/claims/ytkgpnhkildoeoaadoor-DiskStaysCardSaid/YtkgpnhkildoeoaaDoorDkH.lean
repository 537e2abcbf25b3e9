/-
  DiskStays, in plain words.
-/
import Derived.Test.YtkgpnhkildoeoaaDoorDkD
set_option linter.unusedVariables false
set_option linter.unusedSimpArgs false
set_option linter.unusedSectionVars false
namespace Go.AM.Dk
open Go.Proofs

/-- All sectors, as they are read. -/
def img (S : List Sec) (W : List Lw) : Nat → List UInt8
  | 0 => []
  | n + 1 => img S W n ++ (look n (S.getD n zsec) W).1
theorem img_len (S : List Sec) (W : List Lw) : ∀ n, (img S W n).length = n * 64
  | 0 => rfl
  | n + 1 => by rw [img, List.length_append, img_len S W n, (look n (S.getD n zsec) W).2]; omega
theorem img_same {S S' : List Sec} {W W' : List Lw} : ∀ (n : Nat), (∀ (i : Nat), i < n → look i (S.getD i zsec) W = look i (S'.getD i zsec) W') → img S W n = img S' W' n
  | 0, _ => rfl
  | n + 1, h => by rw [img, img, img_same n (fun i hi => h i (by omega)), h n (by omega)]
theorem img_take (S : List Sec) (W : List Lw) (m : Nat) : ∀ n, m ≤ n → (img S W n).take (m * 64) = img S W m
  | 0, h => by rw [show m = 0 by omega]; rfl
  | n + 1, h => by
    by_cases hm : m = n + 1
    · subst hm; rw [List.take_of_length_le (by rw [img_len]; exact Nat.le_refl _)]
    · rw [img, List.take_append_of_le_length (by rw [img_len]; exact Nat.mul_le_mul_right _ (by omega)), img_take S W m n (by omega)]
def pic (S : List Sec) (W : List Lw) : ByteArray := ⟨(img S W S.length ++ List.replicate 1024 0).toArray⟩

theorem image_loop (L k : Nat) (hL : 400 < L) {a : Nat} {F : List Nat} {S : List Sec} {W : List Lw} {σs : St} (hS : S.length ≤ 16) (hW : W.length ≤ 300) (hD : Disk σs a F S W) : ∀ (n j : Nat) (σ : St), j ≤ S.length → S.length - j < n → Same σs σ [] →
    ∃ σ9, lpAt Tryd.prog env L (k + 3) 25 [true, true, false, true] [] n [(0, ptr a), (3, .string ⟨(img S W j).toArray⟩), (8, .int .i64 S.length), (9, .int .i64 j)] σ = some (.string (pic S W), σ9) ∧ Same σs σ9 []
  | 0, j, σ, _, h, _ => by omega
  | n + 1, j, σ, hj, h, hs => by
    rw [f25_l3]
    have hsz : ∀ l : List UInt8, ByteArray.size ⟨l.toArray⟩ = l.length := fun l => by simp [ByteArray.size]
    by_cases hje : j = S.length
    · subst hje
      rw [decide_eq_false (by omega), br_false, zerosN_one, show List.replicate 1024 (Value.int .u8 0) = by8 (List.replicate 1024 0) by rw [by8, List.map_replicate]; rfl]
      have g1 := get_new_same σ (.own (by8 (List.replicate 1024 0)) 5)
      have s1 : Same σ (σ.new (.own (by8 (List.replicate 1024 0)) 5)) [] := Same.new _ _ _
      rw [(Bytes.own g1 (by rw [next_new]; omega)).row 1024 (List.length_replicate).symm, asBy_by8, need_of (by rw [hsz, hsz, img_len, List.length_replicate]; exact decide_eq_true (by omega))]
      exact ⟨_, rfl, hs.trans s1⟩
    · have hsj : S[j]? = some (S[j]'(by omega)) := List.getElem?_eq_getElem (by omega)
      have hgd : S.getD j zsec = S[j]'(by omega) := by rw [List.getD_eq_getElem?_getD, hsj]; rfl
      generalize S[j]'(by omega) = s at hsj hgd
      obtain ⟨t1, σ1, g1, h1, ht1, ht1', s1⟩ := read_ok L k (hD.idle hs) (by omega) (by omega) hsj
      have hw : IntKind.wrap .i64 ((j : Int) + 1) = ((j + 1 : Nat) : Int) := by rw [wrap_in _ (by omega) (by omega)]; omega
      rw [decide_eq_true (by omega), br_true, g1, bnd_some, asT_t, toList2, uncons_c, asSl_s, uncons_c, endl_n, (Bytes.own h1 ht1').row 64 (look (j : Nat) s W).2.symm, asBy_by8, need_of (by rw [hsz, hsz, img_len, (look (j : Nat) s W).2]; exact decide_eq_true (by omega)), hw]
      have e : (⟨⟨(ByteArray.data ⟨(img S W j).toArray⟩).1 ++ (look (j : Nat) s W).1⟩⟩ : ByteArray) = ⟨(img S W (j + 1)).toArray⟩ := by
        rw [img, hgd]
      rw [e]
      exact image_loop L k hL hS hW hD n (j + 1) σ1 (by omega) (by omega) (hs.trans s1)
theorem image_spec (L k : Nat) (hL : 400 < L) {σ : St} {a : Nat} {F : List Nat} {S : List Sec} {W : List Lw} (hS : S.length ≤ 16) (hW : W.length ≤ 300) (hD : Disk σ a F S W) :
    ∃ σ', evCall Tryd.prog env L (k + 4) 25 [ptr a] σ = some (.string (pic S W), σ') ∧ Same σ σ' [] := by
  rw [f25_eq, len_spec hD L (k + 2), bnd_some, asI_i]
  exact image_loop L k hL hS hW hD L 0 σ (by omega) (by omega) (Same.refl _ _)

/-! What stays. -/
theorem lay_out (kept : Nat → Bool) (i : Nat) : ∀ (W : List Lw) (k : Nat) (S : List Sec), (∀ w ∈ W, 0 ≤ w.at_ ∧ w.at_ ≠ i) → (lay kept k S W)[i]? = S[i]?
  | [], _, _, _ => rfl
  | w :: W, k, S, h => by
    unfold lay
    rw [lay_out kept i W (k + 1) _ (fun v hv => h v (by simp [hv]))]
    have := h w (by simp)
    split
    · rw [List.getElem?_set, if_neg (by omega)]
    · rfl
theorem lay_none : ∀ (W : List Lw) (k : Nat) (S : List Sec) (kept : Nat → Bool), (∀ j, kept j = false) → lay kept k S W = S
  | [], _, _, _, _ => rfl
  | w :: W, k, S, kept, h => by
    unfold lay
    rw [h k, if_neg (by simp)]
    exact lay_none W (k + 1) S kept h
theorem lay_all : ∀ (W : List Lw) (k : Nat) (S : List Sec) (kept : Nat → Bool), (∀ j, kept j = true) → lay kept k S W = lay (fun _ => true) k S W
  | [], _, _, _, _ => rfl
  | w :: W, k, S, kept, h => by
    unfold lay
    rw [h k]
    exact lay_all W (k + 1) _ kept h
theorem bit_mod (x j : Nat) (hx : x < 18446744073709551616) : bit (x : Int) j = x.testBit (j % 64) := by
  rw [← bit_nat x (j % 64) hx (Nat.mod_lt _ (by omega))]
  unfold bit
  rw [show Int.tmod (j : Int) 64 = ((j % 64 : Nat) : Int) from rfl, show Int.tmod ((j % 64 : Nat) : Int) 64 = ((j % 64 % 64 : Nat) : Int) from rfl, Nat.mod_mod]
theorem bit_zero (j : Nat) : bit 0 j = false := by
  have := bit_mod 0 j (by omega)
  rw [Nat.zero_testBit] at this
  exact this
theorem bit_full (j : Nat) : bit 18446744073709551615 j = true := by
  have := bit_mod 18446744073709551615 j (by omega)
  rw [show 18446744073709551615 = 2 ^ 64 - 1 from rfl, Nat.testBit_two_pow_sub_one, decide_eq_true (Nat.mod_lt _ (by omega))] at this
  exact this
theorem and_lt (v : Int) (m n : Nat) (hm : m < 2 ^ n) (hn : n ≤ 6) : 0 ≤ ibit .and .i64 v (m : Int) ∧ ibit .and .i64 v (m : Int) < (2 ^ n : Nat) := by
  unfold ibit
  simp only
  rw [show IntKind.bits .i64 = 64 from rfl, BitVec.toNat_and]
  have h1 : (BitVec.ofInt 64 (m : Int)).toNat = m := by
    have : m < 2 ^ 6 := Nat.lt_of_lt_of_le hm (Nat.pow_le_pow_right (by omega) hn)
    rw [show BitVec.ofInt 64 (m : Int) = BitVec.ofNat 64 m from BitVec.ofInt_natCast 64 m, BitVec.toNat_ofNat, Nat.mod_eq_of_lt (by omega)]
  rw [h1]
  have h2 : (BitVec.ofInt 64 v).toNat &&& m ≤ m := Nat.and_le_right
  have : 2 ^ n ≤ 2 ^ 6 := Nat.pow_le_pow_right (by omega) hn
  generalize (BitVec.ofInt 64 v).toNat &&& m = y at h2
  rw [wrap_in _ (by omega) (by omega)]
  omega

def Mod (v : Int) : Int := ibit .and .i64 v 15
theorem Mod_in (v : Int) : 0 ≤ Mod v ∧ Mod v < 16 := and_lt v 15 4 (by omega) (by omega)
theorem low_in (v : Int) : 0 ≤ ibit .and .i64 v 7 ∧ ibit .and .i64 v 7 < 8 := and_lt v 7 3 (by omega) (by omega)

abbrev Q7 : List Bool := [true, true, true, true, false, true]
abbrev Q18 : List Bool := [true, true, true, true, true, true, true, true, false, true]

/-- Three disks of 16 sectors. -/
structure Three (σ0 σ : St) (a b c : Nat) (Sa Sb Sc : List Sec) (Wa Wb Wc : List Lw) (n : Nat) : Prop where
  ex : ∃ A B C, Disk σ a A Sa Wa ∧ Disk σ b B Sb Wb ∧ Disk σ c C Sc Wc ∧ Owns σ0 σ [A, B, C]
  la : Sa.length = 16
  lb : Sb.length = 16
  lc : Sc.length = 16
  wa : Wa.length ≤ n
  wb : Wb.length ≤ n
  wc : Wc.length ≤ n
  ia : InR 16 Wa
  ib : InR 16 Wb
  ic : InR 16 Wc
section
variable {σ0 σ σ' : St} {a b c : Nat} {Sa Sb Sc : List Sec} {Wa Wb Wc : List Lw} {n : Nat}
theorem Three.kept (h : Three σ0 σ a b c Sa Sb Sc Wa Wb Wc n) : Kept' σ0.next σ0 σ := by obtain ⟨_, _, _, _, _, _, h⟩ := h.ex; exact h.kept
theorem Three.idle (h : Three σ0 σ a b c Sa Sb Sc Wa Wb Wc n) (hs : Same σ σ' []) : Three σ0 σ' a b c Sa Sb Sc Wa Wb Wc n := by
  obtain ⟨A, B, C, h1, h2, h3, h4⟩ := h.ex
  exact ⟨⟨A, B, C, h1.idle hs, h2.idle hs, h3.idle hs, h4.idle hs⟩, h.la, h.lb, h.lc, h.wa, h.wb, h.wc, h.ia, h.ib, h.ic⟩
end

theorem three_fresh {σ0 σ σ' : St} {a b c : Nat} {Sa Sb Sc : List Sec} {Wa Wb Wc : List Lw} {n t : Nat} (h : Three σ0 σ a b c Sa Sb Sc Wa Wb Wc n) (hs : Same σ σ' []) (ht : σ.next ≤ t) (L k : Nat) (hn : n ≤ 300) {x : Sec} (hg : σ'.get t = some (.own (sc x) 5)) (htl : t < σ'.next)
    {i j l : Int} (hi : 0 ≤ i ∧ i < 16) (hj : 0 ≤ j ∧ j < 16) (hl : 0 ≤ l ∧ l < 16) :
    ∃ σ1 σ2 σ3, evCall Tryd.prog env L (k + 3) 13 [ptr a, .int .i64 i, .slice (some ⟨t, 0, none⟩) 64 1] σ' = some (.nilIface, σ1) ∧ evCall Tryd.prog env L (k + 3) 13 [ptr b, .int .i64 j, .slice (some ⟨t, 0, none⟩) 64 1] σ1 = some (.nilIface, σ2) ∧
      evCall Tryd.prog env L (k + 3) 13 [ptr c, .int .i64 l, .slice (some ⟨t, 0, none⟩) 64 1] σ2 = some (.nilIface, σ3) ∧ Three σ0 σ3 a b c Sa Sb Sc (Wa ++ [⟨i, x⟩]) (Wb ++ [⟨j, x⟩]) (Wc ++ [⟨l, x⟩]) (n + 1) := by
  obtain ⟨A, B, C, h1, h2, h3, h4⟩ := h.ex
  have wa := h.wa
  have wb := h.wb
  have wc := h.wc
  have fa : t ∉ A := fun hx => by have := h1.lt t hx; omega
  have fb : t ∉ B := fun hx => by have := h2.lt t hx; omega
  have fc : t ∉ C := fun hx => by have := h3.lt t hx; omega
  have B1 := Bytes.own hg htl
  have h4 := h4.idle hs
  obtain ⟨A', σ1, g1, d1, t1⟩ := write_ok L k (h1.idle hs) (z := 1) B1 (by omega) (i := i) hi.1 (by rw [h.la]; omega)
  have o1 := h4.turned 0 rfl t1
  have B2 := B1.same t1.same (by simpa using fa)
  have d12 := (h2.idle hs).same t1.same (h4.off 1 0 (by omega) rfl rfl)
  have d13 := (h3.idle hs).same t1.same (h4.off 2 0 (by omega) rfl rfl)
  obtain ⟨B', σ2, g2, d2, t2⟩ := write_ok L k d12 (z := 1) B2 (by omega) (i := j) hj.1 (by rw [h.lb]; omega)
  have o2 := o1.turned 1 rfl t2
  have B3 := B2.same t2.same (by simpa using fb)
  have d21 := d1.same t2.same (o1.off 0 1 (by omega) rfl rfl)
  have d23 := d13.same t2.same (o1.off 2 1 (by omega) rfl rfl)
  obtain ⟨C', σ3, g3, d3, t3⟩ := write_ok L k d23 (z := 1) B3 (by omega) (i := l) hl.1 (by rw [h.lc]; omega)
  have o3 := o2.turned 2 rfl t3
  have d31 := d21.same t3.same (o2.off 0 2 (by omega) rfl rfl)
  have d32 := d2.same t3.same (o2.off 1 2 (by omega) rfl rfl)
  exact ⟨σ1, σ2, σ3, g1, g2, g3, ⟨A', B', C', d31, d32, d3, o3⟩, h.la, h.lb, h.lc, by simp; omega, by simp; omega, by simp; omega, h.ia.snoc hi.1 (by omega) _, h.ib.snoc hj.1 (by omega) _, h.ic.snoc hl.1 (by omega) _⟩

theorem getD_some {S : List Sec} {i : Nat} (h : i < S.length) : S[i]? = some (S.getD i zsec) := by
  rw [List.getD_eq_getElem?_getD, List.getElem?_eq_getElem h]; rfl

theorem ext_pic {S S' : List Sec} {W W' : List Lw} (h : S.length = 16) (h' : S'.length = 16) (he : img S W 8 = img S' W' 8) : (pic S W).extract 0 512 = (pic S' W').extract 0 512 := by
  have key : ∀ {S : List Sec} {W : List Lw}, S.length = 16 → (img S W S.length ++ List.replicate 1024 0).take 512 = img S W 8 := fun {S W} h => by
    rw [List.take_append_of_le_length (by rw [img_len]; omega), show 512 = 8 * 64 from rfl, img_take S W 8 _ (by omega)]
  apply ByteArray.ext
  rw [ByteArray.data_extract, ByteArray.data_extract]
  unfold pic
  rw [List.extract_toArray, List.extract_toArray, List.extract_eq_take_drop, List.extract_eq_take_drop, List.drop_zero, List.drop_zero, Nat.sub_zero, key h, key h', he]
theorem pic_size {S : List Sec} {W : List Lw} (h : S.length = 16) : (pic S W).size = 2048 := by
  unfold pic
  show Array.size _ = _
  rw [List.size_toArray, List.length_append, img_len, List.length_replicate, h]

/-- The second script, and the end. -/
theorem l18 (L k : Nat) (hL : 400 < L) {σ0 : St} {ad : Option Addr} {sp : List Op} (hlen : sp.length ≤ 150) (hH : Holds σ0 4 c4 ad sp) {a b c : Nat} (keep : Int) {Sa Sb Sc : List Sec} : ∀ (n i : Nat) (σ : St) (Wa Wb Wc : List Lw) (m : Nat),
    i ≤ sp.length → sp.length - i < n → Three σ0 σ a b c Sa Sb Sc Wa Wb Wc (m + i) → m + sp.length ≤ 300 → (∀ w ∈ Wa, 8 ≤ w.at_) →
    ∃ σ9, lpAt Tryd.prog env L (k + 5) 6 Q18 [] n [(1, .slice ad sp.length 0), (2, .int .u64 keep), (7, ptr a), (8, ptr b), (9, ptr c), (13, .string (pic Sa [])), (14, .string (pic Sc [])), (90, .int .i64 sp.length), (91, .int .i64 i)] σ = some (.bool true, σ9)
  | 0, i, σ, Wa, Wb, Wc, m, _, h, _, _, _ => by omega
  | n + 1, i, σ, Wa, Wb, Wc, m, hi, h, hT, hm, h8 => by
    rw [f6_l18]
    by_cases hie : i = sp.length
    · obtain ⟨A, B, C, d1, d2, d3, o⟩ := hT.ex
      have wa := hT.wa
      have wb := hT.wb
      have wc := hT.wc
      have la := hT.la
      have lb := hT.lb
      have lc := hT.lc
      obtain ⟨σ1, g1, s1⟩ := image_spec L (k + 1) hL (by omega) (by omega) d2
      obtain ⟨A', σ2, g2, e2, t2⟩ := crash_spec L (k + 2) (d1.idle s1) (by omega) (by omega) (by rw [la]; exact hT.ia) keep
      have o1 := o.idle s1
      have o2 := o1.turned 0 rfl t2
      obtain ⟨B', σ3, g3, e3, t3⟩ := crash_spec L (k + 2) ((d2.idle s1).same t2.same (o1.off 1 0 (by omega) rfl rfl)) (by omega) (by omega) (by rw [lb]; exact hT.ib) 18446744073709551615
      have o3 := o2.turned 1 rfl t3
      obtain ⟨C', σ4, g4, e4, t4⟩ := crash_spec L (k + 2) (((d3.idle s1).same t2.same (o1.off 2 0 (by omega) rfl rfl)).same t3.same (o2.off 2 1 (by omega) rfl rfl)) (by omega) (by omega) (by rw [lc]; exact hT.ic) 0
      have a4 := (e2.same t3.same (o2.off 0 1 (by omega) rfl rfl)).same t4.same (o3.off 0 2 (by omega) rfl rfl)
      have b4 := e3.same t4.same (o3.off 1 2 (by omega) rfl rfl)
      obtain ⟨σ5, g5, s5⟩ := image_spec L (k + 1) hL (by rw [lay_len]; omega) (by simp) a4
      obtain ⟨σ6, g6, s6⟩ := image_spec L (k + 1) hL (by rw [lay_len]; omega) (by simp) (b4.idle s5)
      obtain ⟨σ7, g7, s7⟩ := image_spec L (k + 1) hL (by rw [lay_len]; omega) (by simp) ((e4.idle s5).idle s6)
      have x1 : (pic (lay (bit keep) 0 Sa Wa) []).extract 0 512 = (pic Sa []).extract 0 512 := by
        refine ext_pic (by rw [lay_len]; exact la) la (img_same 8 fun j hj => ?_)
        rw [List.getD_eq_getElem?_getD, List.getD_eq_getElem?_getD, lay_out _ j Wa 0 Sa (fun w hw => by have := h8 w hw; omega)]
      have x2 : pic (lay (bit 18446744073709551615) 0 Sb Wb) [] = pic Sb Wb := by
        unfold pic
        rw [lay_len, lay_all _ _ _ _ bit_full]
        rw [img_same (S' := Sb) (W' := Wb) Sb.length fun j hj => ?_]
        rw [List.getD_eq_getElem?_getD, look_lay j Wb 0 16 Sb _ hT.ib (getD_some hj)]
        rfl
      have x3 : pic (lay (bit 0) 0 Sc Wc) [] = pic Sc [] := by rw [lay_none Wc 0 Sc _ bit_zero]
      have z0 : (IntKind.wrap .i64 (IntKind.wrap .i64 (((([] : List Lw).length : Nat) : Int) + ((([] : List Lw).length : Nat) : Int)) + ((([] : List Lw).length : Nat) : Int)) == 0) = true := rfl
      rw [decide_eq_false (by omega), br_false, g1, bnd_some, asS_s, g2, bnd_some, asT_t, toList0, endl_n, g3, bnd_some, asT_t, toList0, endl_n, g4, bnd_some, asT_t, toList0, endl_n, g5, bnd_some, asS_s, need_of (by rw [pic_size (by rw [lay_len]; exact la)]; rfl), need_of (by rw [pic_size la]; rfl), x1, beq_self_eq_true, br_true,
        g6, bnd_some, asS_s, x2, beq_self_eq_true, br_true, g7, bnd_some, asS_s, x3, beq_self_eq_true, br_true, loose_spec (((a4.idle s5).idle s6).idle s7), bnd_some, asI_i, loose_spec (((b4.idle s5).idle s6).idle s7), bnd_some, asI_i, loose_spec (((e4.idle s5).idle s6).idle s7), bnd_some, asI_i, z0]
      exact ⟨σ7, rfl⟩
    · have hget : sp[i]? = some sp[i] := List.getElem?_eq_getElem (by omega)
      obtain ⟨t1, σ1, g1, h1, ht1, ht1', s1⟩ := full_spec L (k + 4) (by omega) σ (c8 (IntKind.wrap .i64 (100 + (i : Int))))
      obtain ⟨q0, e0, hat⟩ := hH.ld (hT.kept.step s1 (by simp)) hget
      generalize sp[i] = o at hat
      have hw : IntKind.wrap .i64 ((i : Int) + 1) = ((i + 1 : Nat) : Int) := by rw [wrap_in _ (by omega) (by omega)]; omega
      have hM := Mod_in o.i
      have hl := low_in (Mod o.i)
      have h8' : IntKind.wrap .i64 (8 + ibit .and .i64 (Mod o.i) 7) = 8 + ibit .and .i64 (Mod o.i) 7 := wrap_in _ (by omega) (by omega)
      obtain ⟨σ2, σ3, σ4, g2, g3, g4, hT4⟩ := three_fresh hT s1 ht1 L (k + 2) (by omega) h1 ht1' (i := 8 + ibit .and .i64 (Mod o.i) 7) (j := Mod o.i) (l := Mod o.i) (by omega) hM hM
      rw [decide_eq_true (by omega), br_true, wrap_c8, g1, bnd_some, asSl_s, need_of (by simp [inRange]; omega), e0, adr_some, hat 1 (.int .i64 o.i) _ (by omega) rfl (by simp), asI_i, show ibit .and .i64 o.i 15 = Mod o.i from rfl, h8', g2, bnd_some, g3, bnd_some, g4, bnd_some, hw, ← e0]
      exact l18 L k hL hlen hH keep n (i + 1) σ4 _ _ _ m (by omega) (by omega) hT4 hm (fun w hw' => by
        rcases List.mem_append.1 hw' with hw' | hw'
        · exact h8 w hw'
        · simp at hw'; subst hw'; simp only; omega)

theorem s7 (L k : Nat) (hL : 400 < L) {σ0 : St} {ad ad2 : Option Addr} {sp sp2 : List Op} (hlen : sp.length ≤ 150) (hH : Holds σ0 4 c4 ad sp) (hlen2 : sp2.length ≤ 150) (hH2 : Holds σ0 4 c4 ad2 sp2) {a b c : Nat} (keep : Int) {Sa Sb Sc : List Sec} : ∀ (n i : Nat) (σ : St) (Wa Wb Wc : List Lw),
    i ≤ sp.length → sp.length - i < n → Three σ0 σ a b c Sa Sb Sc Wa Wb Wc i →
    ∃ σ9, lpAt Tryd.prog env L (k + 5) 6 Q7 [] n [(0, .slice ad sp.length 0), (1, .slice ad2 sp2.length 0), (2, .int .u64 keep), (7, ptr a), (8, ptr b), (9, ptr c), (46, .int .i64 sp.length), (47, .int .i64 i)] σ = some (.bool true, σ9)
  | 0, i, σ, Wa, Wb, Wc, _, h, _ => by omega
  | n + 1, i, σ, Wa, Wb, Wc, hi, h, hT => by
    rw [f6_l7]
    by_cases hie : i = sp.length
    · obtain ⟨A, B, C, d1, d2, d3, o⟩ := hT.ex
      have wa := hT.wa
      have wb := hT.wb
      have wc := hT.wc
      have la := hT.la
      have lb := hT.lb
      have lc := hT.lc
      obtain ⟨A', σ1, g1, e1, t1⟩ := flush_spec L (k + 2) d1 (by omega) (by omega) (by rw [la]; exact hT.ia)
      have o1 := o.turned 0 rfl t1
      obtain ⟨C', σ2, g2, e2, t2⟩ := flush_spec L (k + 2) (d3.same t1.same (o.off 2 0 (by omega) rfl rfl)) (by omega) (by omega) (by rw [lc]; exact hT.ic)
      have o2 := o1.turned 2 rfl t2
      have a2 := e1.same t2.same (o1.off 0 2 (by omega) rfl rfl)
      have b2 := (d2.same t1.same (o.off 1 0 (by omega) rfl rfl)).same t2.same (o1.off 1 2 (by omega) rfl rfl)
      obtain ⟨σ3, g3, s3⟩ := image_spec L (k + 1) hL (by rw [lay_len]; omega) (by simp) a2
      obtain ⟨σ4, g4, s4⟩ := image_spec L (k + 1) hL (by rw [lay_len]; omega) (by simp) (e2.idle s3)
      rw [decide_eq_false (by omega), br_false, g1, bnd_some, asT_t, toList0, endl_n, g2, bnd_some, asT_t, toList0, endl_n, g3, bnd_some, asS_s, g4, bnd_some, asS_s]
      exact l18 L k hL hlen2 hH2 keep L 0 σ4 [] Wb [] sp.length (by omega) (by omega) ⟨⟨A', B, C', (a2.idle s3).idle s4, (b2.idle s3).idle s4, (e2.idle s3).idle s4, (o2.idle s3).idle s4⟩, by rw [lay_len]; exact la, lb, by rw [lay_len]; exact lc, by simp, by omega, by simp, InR.nil _, hT.ib, InR.nil _⟩ (by omega) (by simp)
    · have hget : sp[i]? = some sp[i] := List.getElem?_eq_getElem (by omega)
      obtain ⟨t1, σ1, g1, h1, ht1, ht1', s1⟩ := full_spec L (k + 4) (by omega) σ (c8 (IntKind.wrap .i64 ((i : Int) + 1)))
      obtain ⟨q0, e0, hat⟩ := hH.ld (hT.kept.step s1 (by simp)) hget
      generalize sp[i] = o at hat
      have hM := Mod_in o.i
      have hl := low_in (Mod o.i)
      obtain ⟨σ2, σ3, σ4, g2, g3, g4, hT4⟩ := three_fresh hT s1 ht1 L (k + 2) (by omega) h1 ht1' (i := ibit .and .i64 (Mod o.i) 7) (j := Mod o.i) (l := Mod o.i) (by omega) hM hM
      rw [decide_eq_true (by omega), br_true, wrap_c8, g1, bnd_some, asSl_s, need_of (by simp [inRange]; omega), e0, adr_some, hat 1 (.int .i64 o.i) _ (by omega) rfl (by simp), asI_i, show ibit .and .i64 o.i 15 = Mod o.i from rfl, g2, bnd_some, eqNil_nil, not_true, br_false, g3, bnd_some, eqNil_nil, not_true, br_false, g4, bnd_some, eqNil_nil, not_true, br_false, wrap_in ((i : Int) + 1) (by omega) (by omega), ← e0]
      exact s7 L k hL hlen hH hlen2 hH2 keep n (i + 1) σ4 _ _ _ (by omega) (by omega) hT4

theorem stays_holds (L k : Nat) (hL : 400 < L) {σ : St} {ad ad2 : Option Addr} {sp sp2 : List Op} (hH : Holds σ 4 c4 ad sp) (hH2 : Holds σ 4 c4 ad2 sp2) (keep : Int) :
    ∃ σ9, evCall Tryd.prog env L (k + 6) 6 [.slice ad sp.length 0, .slice ad2 sp2.length 0, .int .u64 keep] σ = some (.bool true, σ9) := by
  rw [f6_eq]
  have hk0 : Kept' σ.next σ σ := ⟨Nat.le_refl _, fun _ _ => rfl⟩
  obtain ⟨σ1, g1, s1⟩ := awake_spec L (k + 1) (by omega) σ
  have hk1 := hk0.step s1 (by simp)
  obtain ⟨σa, ga, _⟩ := awake_spec L (k + 1) (by omega) σ1
  rw [g1, bnd_some, asB_b, not_true, br_false]
  obtain ⟨x, hx, hx2⟩ := few_spec L (k + 4) (z := 0) (by omega) hH hk1
  rw [hx, bnd_some, asB_b]
  cases x with
  | false =>
    rw [not_false, br_true, ga, bnd_some, asB_b]
    exact ⟨σa, rfl⟩
  | true =>
    obtain ⟨y, hy, hy2⟩ := few_spec L (k + 4) (z := 0) (by omega) hH2 hk1
    rw [not_true, br_false, hy, bnd_some, asB_b]
    cases y with
    | false =>
      rw [not_false, br_true, ga, bnd_some, asB_b]
      exact ⟨σa, rfl⟩
    | true =>
      obtain ⟨a, A, σ2, g2, d2, s2, f2⟩ := new_spec L (k + 4) σ1 16
      obtain ⟨b, B, σ3, g3, d3, s3, f3⟩ := new_spec L (k + 4) σ2 16
      obtain ⟨c, C, σ4, g4, d4, s4, f4⟩ := new_spec L (k + 4) σ3 16
      rw [show (mx 0 (mn 16 1024)).toNat = 16 from rfl] at d2 d3 d4
      have hO1 : Owns σ σ1 [] := ⟨hk1, by simp, by simp⟩
      have hO2 : Owns σ σ2 [A] := hO1.more s2 (fun q hq => ⟨f2 q hq, d2.lt q hq⟩)
      have hO3 : Owns σ σ3 [B, A] := hO2.more s3 (fun q hq => ⟨f3 q hq, d3.lt q hq⟩)
      have hO4 : Owns σ σ4 [C, B, A] := hO3.more s4 (fun q hq => ⟨f4 q hq, d4.lt q hq⟩)
      have hnn : ∀ a : Nat, (some (⟨a, 0, none⟩ : Addr)).isNone = false := fun _ => rfl
      rw [not_true, br_false, g2, bnd_some, asP_p, g3, bnd_some, asP_p, g4, bnd_some, asP_p, hnn, br_false, hnn, br_false, hnn, br_false]
      have hl1 := (hx2 rfl).1
      exact s7 L k hL (hx2 rfl).1 hH (hy2 rfl).1 hH2 keep L 0 σ4 [] [] [] (by omega) (by omega) ⟨⟨A, B, C, (d2.idle s3).idle s4, d3.idle s4, d4, hO4.pick [2, 1, 0] (by decide)⟩, List.length_replicate, List.length_replicate, List.length_replicate, by simp, by simp, by simp, InR.nil _, InR.nil _, InR.nil _⟩

end Go.AM.Dk
