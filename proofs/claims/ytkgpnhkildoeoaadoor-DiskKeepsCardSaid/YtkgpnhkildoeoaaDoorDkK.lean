/-
  DiskKeeps, in plain words.
-/
import Derived.Test.YtkgpnhkildoeoaaDoorDkB
set_option linter.unusedVariables false
set_option linter.unusedSimpArgs false
set_option linter.unusedSectionVars false
namespace Go.AM.Dk
open Go.Proofs

theorem there_nil (L k : Nat) (σ : St) (i : Int) : ∃ v σ', evCall Tryd.prog env L (k + 2) 30 [.pointer none, .int .i64 i] σ = some (v, σ') ∧ Err σ' v 5 i ∧ Same σ σ' [] := by
  rw [f30_nil]
  obtain ⟨v, σ', g, e, s⟩ := wrap_spec L k σ i 5 (by decide)
  by_cases h0 : i < 0
  · rw [decide_eq_true h0, br_true, g]
    exact ⟨v, σ', rfl, e, s⟩
  · rw [decide_eq_false h0, br_false, f16_nil, bnd_some, asI_i, decide_eq_true (by omega), br_true, g]
    exact ⟨v, σ', rfl, e, s⟩
theorem read_nil (L k : Nat) (σ : St) (i : Int) : ∃ v σ', evCall Tryd.prog env L (k + 3) 15 [.pointer none, .int .i64 i] σ = some (.tuple #[.slice none 0 0, v], σ') ∧ Err σ' v 5 i ∧ Same σ σ' [] := by
  obtain ⟨v, σ', g, e, s⟩ := there_nil L k σ i
  rw [f15_nil, g, bnd_some, e.nil, not_false, br_true]
  exact ⟨v, σ', rfl, e, s⟩
theorem write_nil (L k : Nat) (σ : St) (i : Int) (ad : Option Addr) (n z : Nat) : ∃ v σ', evCall Tryd.prog env L (k + 3) 13 [.pointer none, .int .i64 i, .slice ad n z] σ = some (v, σ') ∧ Err σ' v 5 i ∧ Same σ σ' [] := by
  obtain ⟨v, σ', g, e, s⟩ := there_nil L k σ i
  rw [f13_nil, g, bnd_some, e.nil, not_false, br_true]
  exact ⟨v, σ', rfl, e, s⟩
theorem flush_nil (L k : Nat) (σ : St) : evCall Tryd.prog env L (k + 2) 12 [.pointer none] σ = some (.tuple #[], σ) := by
  rw [f12_nil, f28_nil, bnd_some, asT_t, toList0, endl_n]
theorem crash_nil (L k : Nat) (σ : St) (u : Int) : ∃ σ', evCall Tryd.prog env L (k + 2) 17 [.pointer none, .int .u64 u] σ = some (.tuple #[], σ') ∧ Same σ σ' [] := by
  rw [f17_nil, f28_nil, bnd_some, asT_t, toList0, endl_n]
  exact ⟨_, rfl, Same.new _ _ _⟩

/-- A byte of a block of one's own is turned. -/
theorem turn_byte {σ : St} {t : Nat} {l : List UInt8} {e : TypeId} (h : σ.get t = some (.own (by8 l) e)) {i : Nat} (hi : i < l.length) (x : Int) : ∃ σ', (∀ p, p = 0 + i → ∀ K : St → Res, σ.put t p [.int .u8 x] K = K σ') ∧ Same σ σ' [t] ∧ σ'.next = σ.next := by
  refine ⟨σ.set t (.own ((by8 l).set i (.int .u8 x)) e), fun p hp K => ?_, Same.set _ _ _, rfl⟩
  subst hp
  rw [Nat.zero_add]
  exact put_int h i .u8 x (by rw [by8_len]; exact hi) K

theorem keeps_holds (L k : Nat) (hL : 400 < L) (σ : St) (a0 a1 : Int) (o : Op) (h0 : 0 ≤ a0 ∧ a0 ≤ 255) (h1 : 0 ≤ a1 ∧ a1 ≤ 255) :
    ∃ σ9, evCall Tryd.prog env L (k + 5) 7 [.int .u8 a0, .int .u8 a1, .agg (c4 o).toArray] σ = some (.bool true, σ9) := by
  rw [show Value.agg (c4 o).toArray = .agg [.int .i64 o.kind, .int .i64 o.i, .int .u64 o.keep, .string o.b].toArray from rfl, f7_eq]
  generalize hσ1 : σ.new (.own [.int .i64 o.kind, .int .i64 o.i, .int .u64 o.keep, .string o.b] 30) = σ1
  have p1 : σ1.get σ.next = some (.own [.int .i64 o.kind, .int .i64 o.i, .int .u64 o.keep, .string o.b] 30) := by rw [← hσ1, get_new_same]
  have n1 : σ1.next = σ.next + 1 := by rw [← hσ1]; rfl
  obtain ⟨σ2, g2, s2⟩ := awake_spec L k (by omega) σ1
  have par : ∀ {σ' : St}, Same σ1 σ' [] → σ'.get σ.next = some (.own [.int .i64 o.kind, .int .i64 o.i, .int .u64 o.keep, .string o.b] 30) := fun hs => by rw [hs.2 _ (by omega) (by simp)]; exact p1
  rw [g2, bnd_some, asB_b, not_true, br_false, lds_all (n := 4) (par s2) rfl, uncons_c, asI_i, uncons_c, asI_i, uncons_c, asI_i, uncons_c, asS_s, endl_n]
  generalize hσ3 : σ2.new (.own [.int .i64 o.kind, .int .i64 o.i, .int .u64 o.keep, .string o.b] 30) = σ3
  have p3 : σ3.get σ2.next = some (.own [.int .i64 o.kind, .int .i64 o.i, .int .u64 o.keep, .string o.b] 30) := by rw [← hσ3, get_new_same]
  have s3 : Same σ2 σ3 [] := by rw [← hσ3]; exact Same.new _ _ _
  have n3 : σ3.next = σ2.next + 1 := by rw [← hσ3]; rfl
  have hH : Holds σ3 4 c4 (some ⟨σ2.next, 0, none⟩) [o] := fun _ => ⟨σ2.next, c4 o, rfl, by simp [St.cells, p3, Blk.cells, c4], by omega, by simp [c4], fun i x hi j v hj hv => by
    cases i with
    | zero => simp at hi; subst hi; simpa using hv
    | succ i => simp at hi⟩
  obtain ⟨b, hb, _⟩ := few_spec L (k + 3) (z := 4) (by omega) hH ⟨Nat.le_refl _, fun _ _ => rfl⟩
  rw [show ([o] : List Op).length = 1 from rfl] at hb
  rw [hb, bnd_some, asB_b]
  cases b with
  | false =>
    obtain ⟨σ4, g4, _⟩ := awake_spec L k (by omega) σ3
    rw [not_false, br_true, g4, bnd_some, asB_b]
    exact ⟨σ4, rfl⟩
  | true =>
    obtain ⟨c, hc⟩ : ∃ c : UInt8, a1 = (c.toNat : Int) := ⟨c8 a1, by rw [← wrap_c8, show IntKind.wrap .u8 a1 = a1 % 256 from rfl]; omega⟩
    obtain ⟨m, rfl⟩ := Int.eq_ofNat_of_zero_le h0.1
    subst hc
    have s13 := s2.trans s3
    obtain ⟨σ4, g4, s4⟩ := crash_nil L (k + 2) σ3 o.keep
    rw [not_true, br_false, flush_nil L (k + 2), bnd_some, asT_t, toList0, endl_n, ld_at (par s13) 2 _ rfl, asI_i, g4, bnd_some, asT_t, toList0, endl_n]
    have s14 := s13.trans s4
    generalize hσ5 : σ4.new (.own [.slice none 0 0, .slice none 0 0] 58) = σ5
    have z5 : Disk σ5 σ4.next [σ4.next] [] [] := ⟨⟨[], [], none, 0, none, 0, rfl, by rw [← hσ5, get_new_same]; rfl, Row.nil _ _ _ _, Row.nil _ _ _ _, by simp, by simp, by simp⟩, by rw [← hσ5]; simp⟩
    have s5 : Same σ4 σ5 [] := by rw [← hσ5]; exact Same.new _ _ _
    have s15 := s14.trans s5
    obtain ⟨v6, σ6, g6, e6, s6⟩ := read_nil L (k + 1) σ5 o.i
    obtain ⟨σ7, g7, s7⟩ := code_spec L (k + 2) e6
    have s17 := (s15.trans s6).trans s7
    obtain ⟨t8, σ8, g8, h8, _, ht8, s8⟩ := full_spec L (k + 3) (by omega) σ7 c
    have s18 := s17.trans s8
    obtain ⟨v9, σ9, g9, e9, s9⟩ := write_nil L (k + 1) σ8 o.i (some ⟨t8, 0, none⟩) 64 1
    obtain ⟨σ10, g10, s10⟩ := code_spec L (k + 2) e9
    have s5_10 := (((s6.trans s7).trans s8).trans s9).trans s10
    have z10 := z5.idle s5_10
    obtain ⟨t11, σ11, g11, h11, _, ht11, s11⟩ := full_spec L (k + 3) (by omega) σ10 c
    obtain ⟨v12, σ12, g12, e12, s12⟩ := write_out L (k + 1) (z10.idle s11) (z := 1) (Bytes.own h11 ht11) (by simp) (i := 0) (by simp)
    rw [(fsec c).2] at g12
    obtain ⟨σ13, g13, s13'⟩ := code_spec L (k + 2) e12
    have b5 : ((5 : Int) != 5) = false := rfl
    rw [ld_at (par s15) 1 _ rfl, asI_i, g6, bnd_some, asT_t, toList2, uncons_c, asSl_s, uncons_c, endl_n, show (((0 : Nat) : Int) != 0) = false from rfl, br_false, g7, bnd_some, asI_i, b5, br_false, ld_at (par s17) 1 _ rfl, asI_i, g8, bnd_some, asSl_s, ld_at (par s18) 1 _ rfl, asI_i, chk_same, g9, bnd_some, g10, bnd_some, asI_i, b5, br_false,
      f16_nil, bnd_some, asI_i, f24_nil, bnd_some, asI_i, len_spec z10 L (k + 3), bnd_some, asI_i, show (IntKind.wrap .i64 (IntKind.wrap .i64 (0 + 0) + ((([] : List Sec).length : Nat) : Int)) != 0) = false from rfl, br_false, g11, bnd_some, asSl_s, g12, bnd_some, g13, bnd_some, asI_i, b5, br_false]
    -- a disk
    obtain ⟨a, F, σ14, g14, d14, s14', f14⟩ := new_spec L (k + 3) σ13 256
    rw [show (mx 0 (mn 256 1024)).toNat = 256 from rfl] at d14
    obtain ⟨t15, σ15, g15, h15, ht15, ht15', s15'⟩ := full_spec L (k + 3) (by omega) σ14 c
    have hm : m < 256 := by omega
    obtain ⟨F16, σ16, g16, d16, T16⟩ := write_ok L (k + 1) (d14.idle s15') (z := 1) (b := fsec c) (Bytes.own h15 ht15') (by simp) (i := (m : Nat)) (by omega) (by rw [List.length_replicate]; omega)
    have n15 : t15 ∉ F := fun hx => by have := d14.lt _ hx; omega
    have n16 : t15 ∉ F16 := fun hx => by
      rcases (T16.sub _ hx).1 with h | h
      · exact n15 h
      · omega
    have h16 : σ16.get t15 = some (.own (by8 (fsec c).1) 5) := (T16.same.2 _ ht15' n15).trans h15
    have ht16 : t15 < σ16.next := by have := T16.same.1; omega
    obtain ⟨r16, o16, e16, at16⟩ := (Bytes.own h16 ht16).at (i := 5) (b := c) rfl
    cases e16
    obtain ⟨σ17, put17, s17', n17⟩ := turn_byte h16 (i := 5) (by rw [(fsec c).2]; omega) (ibit .xor .u8 (c.toNat : Int) 255)
    have d17 := d16.same s17' (fun q hq => by simp; rintro rfl; exact n16 hq)
    have hgz : (List.replicate 256 zsec)[m]? = some zsec := by rw [List.getElem?_replicate, if_pos hm]
    obtain ⟨t18, σ18, g18, h18, ht18, ht18', s18'⟩ := read_ok L (k + 1) d17 (by simp; omega) (by simp) hgz
    have l18 : look (m : Nat) zsec ([] ++ [⟨(m : Nat), fsec c⟩]) = fsec c := if_pos rfl
    rw [l18] at h18
    have d18 := d17.idle s18'
    obtain ⟨r18, o18, e18, at18⟩ := (Bytes.own h18 ht18').at (i := 6) (b := c) rfl
    cases e18
    obtain ⟨σ19, put19, s19, n19⟩ := turn_byte h18 (i := 6) (by rw [(fsec c).2]; omega) (ibit .xor .u8 (c.toNat : Int) 255)
    have d19 := d18.same s19 (fun q hq => by simp; rintro rfl; have := d17.lt _ hq; omega)
    obtain ⟨F20, σ20, g20, d20, T20⟩ := flush_spec L (k + 1) d19 (by simp; omega) (by simp) ((InR.nil _).snoc (by omega) (by rw [List.length_replicate]; omega) _)
    have hg20 : (lay (fun _ => true) 0 (List.replicate 256 zsec) ([] ++ [⟨(m : Nat), fsec c⟩]))[m]? = some (fsec c) := by
      rw [look_lay m _ 0 256 _ zsec ((InR.nil _).snoc (by omega) (by omega) _) hgz, l18]
    obtain ⟨t21, σ21, g21, h21, ht21, ht21', s21⟩ := read_ok L (k + 1) d20 (by simp; omega) (by simp) hg20
    rw [show look (m : Nat) (fsec c) [] = fsec c from rfl] at h21
    obtain ⟨r21, o21, e21, at21⟩ := (Bytes.own h21 ht21').at (i := 7) (b := c) rfl
    cases e21
    obtain ⟨σ22, put22, s22, n22⟩ := turn_byte h21 (i := 7) (by rw [(fsec c).2]; omega) (ibit .xor .u8 (c.toNat : Int) 255)
    have d22 := (d20.idle s21).same s22 (fun q hq => by simp; rintro rfl; have := d20.lt _ hq; omega)
    obtain ⟨t23, σ23, g23, h23, ht23, ht23', s23⟩ := read_ok L (k + 1) d22 (by simp; omega) (by simp) hg20
    rw [show look (m : Nat) (fsec c) [] = fsec c from rfl] at h23
    obtain ⟨t24, σ24, g24, h24, ht24, ht24', s24⟩ := full_spec L (k + 3) (by omega) σ23 c
    have B23 := Bytes.own h23 ht23'
    have B23' := B23.same s24 (by simp)
    have B24 := Bytes.own h24 ht24'
    have h64 : (((64 : Nat) : Int) != 64) = false := rfl
    have hin : ∀ x : Int, 0 ≤ x → x < 64 → ∀ K : Res, need (inRange x ((64 : Nat) : Int)) K = K := fun x h1 h2 K => need_of (by simp [inRange]; omega) K
    have hwm : IntKind.wrap .i64 ((m : Nat) : Int) = ((m : Nat) : Int) := wrap_in _ (by omega) (by omega)
    rw [g14, bnd_some, asP_p, g15, bnd_some, asSl_s, hwm, g16, bnd_some, eqNil_nil, not_true, br_false, hin 5 (by omega) (by omega), adr_some, at16 _ rfl, asI_i, hin 5 (by omega) (by omega), adr_some, put17 _ rfl, g18, bnd_some, asT_t, toList2, uncons_c, asSl_s, uncons_c, endl_n, h64, br_false, hin 6 (by omega) (by omega), adr_some, at18 _ rfl, asI_i, hin 6 (by omega) (by omega), adr_some, put19 _ rfl,
      g20, bnd_some, asT_t, toList0, endl_n, g21, bnd_some, asT_t, toList2, uncons_c, asSl_s, uncons_c, endl_n, h64, br_false, hin 7 (by omega) (by omega), adr_some, at21 _ rfl, asI_i, hin 7 (by omega) (by omega), adr_some, put22 _ rfl, g23, bnd_some, asT_t, toList2, uncons_c, asSl_s, uncons_c, endl_n, eqNil_nil, br_true, B23.row 64 (fsec c).2.symm, asBy_by8, g24, bnd_some, asSl_s, B23'.row 64 (fsec c).2.symm, asBy_by8, chk_same, B24.row 64 (fsec c).2.symm, asBy_by8, beq_self_eq_true]
    exact ⟨σ24, rfl⟩

end Go.AM.Dk
