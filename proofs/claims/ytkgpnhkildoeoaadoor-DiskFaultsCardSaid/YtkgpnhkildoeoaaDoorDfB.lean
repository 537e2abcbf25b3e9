/-
  THE DISK, more: what a script asks; what is read behind a flush; awake.
-/
import Derived.Test.YtkgpnhkildoeoaaDoorDfA
import Derived.Test.YtkgpnhkildoeoaaDoorAm17
set_option linter.unusedVariables false
set_option linter.unusedSimpArgs false
set_option linter.unusedSectionVars false
namespace Go.AM.Df
open Go.Proofs

def c8 (x : Int) : UInt8 := UInt8.ofNat (x % 256).toNat
theorem wrap_c8 (x : Int) : IntKind.wrap .u8 x = ((c8 x).toNat : Int) := by
  rw [show IntKind.wrap .u8 x = x % 256 from rfl]
  unfold c8
  rw [UInt8.toNat_ofNat']
  omega
theorem toList3 (x y z : Value) : (#[x, y, z] : Array Value).toList = [x, y, z] := rfl

theorem InR.nil (n : Nat) : InR n [] := by simp [InR]
theorem InR.snoc {n : Nat} {W : List Lw} (h : InR n W) {i : Int} (h0 : 0 ≤ i) (h1 : i < n) (b : Sec) : InR n (W ++ [⟨i, b⟩]) := by
  intro w hw
  rcases List.mem_append.1 hw with hw | hw
  · exact h w hw
  · simp at hw; subst hw; exact ⟨h0, h1⟩
theorem look_snoc (i : Int) (w : Lw) : ∀ (W : List Lw) (s : Sec), look i s (W ++ [w]) = if w.at_ = i then w.b else look i s W
  | [], s => rfl
  | v :: W, s => by
    rw [List.cons_append]
    unfold look
    exact look_snoc i w W _
/-- Behind a flush a sector is as it was read. -/
theorem look_lay (j : Nat) : ∀ (W : List Lw) (k n : Nat) (S : List Sec) (s : Sec), InR n W → S[j]? = some s → (lay (fun _ => true) k S W)[j]? = some (look j s W)
  | [], k, n, S, s, _, h => h
  | w :: W, k, n, S, s, hin, h => by
    unfold lay look
    rw [if_pos rfl]
    have h0 := hin w (by simp)
    refine look_lay j W (k + 1) n _ _ (fun v hv => hin v (by simp [hv])) ?_
    rw [List.getElem?_set]
    have hj := (List.getElem?_eq_some_iff.1 h).1
    by_cases hw : w.at_.toNat = j
    · rw [if_pos hw, if_pos (by omega), if_pos (by omega)]
    · rw [if_neg hw, if_neg (by omega)]; exact h

structure Op where
  kind : Int
  i : Int
  keep : Int
  b : ByteArray
def c4 (o : Op) : List Value := [.int .i64 o.kind, .int .i64 o.i, .int .u64 o.keep, .string o.b]
theorem c4_len (o : Op) : (c4 o).length = 4 := rfl

set_option maxRecDepth 20000 in
theorem opOf {σ : St} {row : List Value} (h : Img Tryd.prog σ 30 row) : ∃ o : Op, row = c4 o := by
  obtain ⟨h1, h2⟩ := h.struct_inv Tryd.underlying30
  have hl : row.length = 4 := by rw [h1]; kernel_rfl
  match row, hl with
  | [x, y, z, s], _ =>
    have hx := h2 _ (List.mem_of_getElem? (i := 0) rfl)
    have hy := h2 _ (List.mem_of_getElem? (i := 1) rfl)
    have hz := h2 _ (List.mem_of_getElem? (i := 2) rfl)
    have hs := h2 _ (List.mem_of_getElem? (i := 3) rfl)
    have e3 : Tryd.prog.cellsOf 3 = 1 := by kernel_rfl
    have e28 : Tryd.prog.cellsOf 28 = 1 := by kernel_rfl
    have e9 : Tryd.prog.cellsOf 9 = 1 := by kernel_rfl
    simp only [e3] at hx hy
    simp only [e28] at hz
    simp only [e9] at hs
    obtain ⟨n, w1, v1⟩ := Img.int_inv Tryd.underlying3 hx
    obtain ⟨m, w2, v2⟩ := Img.int_inv Tryd.underlying3 hy
    obtain ⟨u, w3, v3⟩ := Img.int_inv Tryd.underlying28 hz
    obtain ⟨t, w4, v4⟩ := Img.str_inv Tryd.underlying9 hs
    simp at w1 w2 w3 w4
    exact ⟨⟨n, m, u, t⟩, by rw [w1, w2, w3, w4]; rfl⟩

theorem few_loop (L k : Nat) {σ0 σ : St} {ad : Option Addr} {z : Nat} {l : List Op} (hl : l.length ≤ 150) (hH : Holds σ0 4 c4 ad l) (hK : Kept' σ0.next σ0 σ) : ∀ (n i : Nat), i ≤ l.length → l.length - i < n →
    ∃ b, lpAt Tryd.prog env L k 10 [true, true, false, true] [] n [(0, .slice ad l.length z), (8, .int .i64 l.length), (9, .int .i64 i)] σ = some (.bool b, σ) ∧ (b = true → ∀ o ∈ l.drop i, o.b.size ≤ 300)
  | 0, i, _, h => by omega
  | n + 1, i, hi, h => by
    rw [f10_l4]
    by_cases hil : i = l.length
    · rw [decide_eq_false (by omega), br_false]; exact ⟨true, rfl, fun _ => by rw [List.drop_of_length_le (by omega)]; simp⟩
    · have hget : l[i]? = some l[i] := List.getElem?_eq_getElem (by omega)
      have hdrop : l.drop i = l[i] :: l.drop (i + 1) := List.drop_eq_getElem_cons (by omega)
      obtain ⟨q, e, hat⟩ := hH.ld hK hget
      rw [hdrop]
      generalize l[i] = o at hat
      obtain ⟨b, hb, hb2⟩ := few_loop L k hl hH hK n (i + 1) (by omega) (by omega)
      rw [decide_eq_true (by omega), br_true, need_of (by simp [inRange]; omega), e, adr_some, hat 3 (.string o.b) _ (by omega) rfl (by simp), asS_s, wrap_in ((i : Int) + 1) (by omega) (by omega), ← e]
      by_cases hs : ((o.b.size : Nat) : Int) > 300
      · rw [decide_eq_true hs, br_true]; exact ⟨false, rfl, by simp⟩
      · rw [decide_eq_false hs, br_false]
        refine ⟨b, by rw [← hb]; rfl, fun h o' ho' => ?_⟩
        rcases List.mem_cons.1 ho' with rfl | ho'
        · omega
        · exact hb2 h o' ho'

theorem few_spec (L k : Nat) (hL : 400 < L) {σ0 σ : St} {ad : Option Addr} {z : Nat} {l : List Op} (hH : Holds σ0 4 c4 ad l) (hK : Kept' σ0.next σ0 σ) :
    ∃ b, evCall Tryd.prog env L (k + 1) 10 [.slice ad l.length z] σ = some (.bool b, σ) ∧ (b = true → l.length ≤ 150 ∧ ∀ o ∈ l, o.b.size ≤ 300) := by
  rw [f10_eq]
  by_cases hl : l.length > 150
  · rw [decide_eq_true (by omega), br_true]; exact ⟨false, rfl, by simp⟩
  · rw [decide_eq_false (by omega), br_false]
    obtain ⟨b, hb, hb2⟩ := few_loop L k (z := z) (by omega) hH hK L 0 (by omega) (by omega)
    exact ⟨b, hb, fun h => ⟨by omega, by simpa using hb2 h⟩⟩

/-- A sector of a disk that is there, written. -/
theorem write_ok (L k : Nat) {σ : St} {a : Nat} {F : List Nat} {S : List Sec} {W : List Lw} (h : Disk σ a F S W) {ad : Option Addr} {z : Nat} {b : Sec} {G : List Nat} (hB : Bytes σ ad b.1 G) (hW : W.length ≤ 100000) {i : Int} (h0 : 0 ≤ i) (h1 : i < S.length) :
    ∃ F' σ', evCall Tryd.prog env L (k + 3) 13 [ptr a, .int .i64 i, .slice ad 64 z] σ = some (.nilIface, σ') ∧ Disk σ' a F' S (W ++ [⟨i, b⟩]) ∧ Turn σ σ' F F' := by
  obtain ⟨v, σ', g, h2⟩ := write_spec h L k (z := z) hB hW i
  rw [b.2] at g
  rcases h2 with ⟨F', hl, _, _, rfl, hD, hT⟩ | ⟨h2, _⟩ | ⟨_, h2, _⟩
  · exact ⟨F', σ', g, hD, hT⟩
  · exact absurd ⟨h0, h1⟩ h2
  · exact absurd b.2 h2
theorem write_out (L k : Nat) {σ : St} {a : Nat} {F : List Nat} {S : List Sec} {W : List Lw} (h : Disk σ a F S W) {ad : Option Addr} {z : Nat} {l : List UInt8} {G : List Nat} (hB : Bytes σ ad l G) (hW : W.length ≤ 100000) {i : Int} (h0 : ¬ (0 ≤ i ∧ i < S.length)) :
    ∃ v σ', evCall Tryd.prog env L (k + 3) 13 [ptr a, .int .i64 i, .slice ad l.length z] σ = some (v, σ') ∧ Err σ' v 5 i ∧ Same σ σ' [] := by
  obtain ⟨v, σ', g, h2⟩ := write_spec h L k (z := z) hB hW i
  rcases h2 with ⟨F', hl, h1, h2, _⟩ | ⟨_, h2, h3⟩ | ⟨h1, _⟩
  · exact absurd ⟨h1, h2⟩ h0
  · exact ⟨v, σ', g, h2, h3⟩
  · exact absurd h1 h0
theorem read_ok (L k : Nat) {σ : St} {a : Nat} {F : List Nat} {S : List Sec} {W : List Lw} (h : Disk σ a F S W) (hL : W.length < L) (hW : W.length ≤ 100000) {i : Nat} {s : Sec} (hs : S[i]? = some s) :
    ∃ t σ', evCall Tryd.prog env L (k + 3) 15 [ptr a, .int .i64 i] σ = some (.tuple #[.slice (some ⟨t, 0, none⟩) 64 0, .nilIface], σ') ∧ σ'.get t = some (.own (sc (look i s W)) 68) ∧ σ.next ≤ t ∧ t < σ'.next ∧ Same σ σ' [] := by
  have hi := (List.getElem?_eq_some_iff.1 hs).1
  obtain ⟨v, σ', g, hs', h2⟩ := read_spec h L k hL hW i
  rcases h2 with ⟨s', t, h1, h2, h3, rfl, h4, h5, h6⟩ | ⟨v', h1, _⟩
  · rw [Int.toNat_natCast, hs] at h3
    cases h3
    exact ⟨t, σ', g, h4, h5, h6, hs'⟩
  · exact absurd ⟨by omega, by omega⟩ h1

/-- What a program that does nothing answers wrongly. -/
theorem awake_spec (L k : Nat) (hL : 64 < L) (σ : St) : ∃ σ', evCall Tryd.prog env L (k + 4) 9 [] σ = some (.bool true, σ') ∧ Same σ σ' [] := by
  rw [f9_eq]
  obtain ⟨a, F, σ1, g1, h1, s1, hF⟩ := new_spec L (k + 2) σ 2
  rw [show (mx 0 (mn 2 1024)).toNat = 2 from rfl] at h1
  obtain ⟨t2, σ2, g2, h2, ht2, ht2', s2⟩ := full_spec L (k + 2) hL σ1 7
  rw [show (((7 : UInt8).toNat : Nat) : Int) = 7 from rfl] at g2
  obtain ⟨F3, σ3, g3, h3, T3⟩ := write_ok L k (h1.idle s2) (z := 1) (b := fsec 7) (Bytes.own h2 ht2') (by simp) (i := 1) (by omega) (by simp)
  obtain ⟨t4, σ4, g4, h4, ht4, ht4', s4⟩ := full_spec L (k + 2) hL σ3 7
  rw [show (((7 : UInt8).toNat : Nat) : Int) = 7 from rfl] at g4
  obtain ⟨v5, σ5, g5, e5, s5⟩ := write_out L k (h3.idle s4) (z := 1) (Bytes.own h4 ht4') (by simp) (i := 2) (by simp)
  rw [(fsec 7).2] at g5
  obtain ⟨σ6, g6, s6⟩ := code_spec L (k + 1) e5
  have h6 := ((h3.idle s4).idle s5).idle s6
  obtain ⟨t7, σ7, g7, h7, ht7, ht7', s7⟩ := read_ok L k h6 (by simp; omega) (by simp) (i := 1) (s := zsec) rfl
  rw [show ((1 : Nat) : Int) = 1 from rfl] at g7
  obtain ⟨r, o, e, hat⟩ := (Bytes.own h7 ht7').at (i := 0) (b := 7) rfl
  cases e
  rw [g1, bnd_some, asP_p, show (some (⟨a, 0, none⟩ : Addr)).isNone = false from rfl, br_false, len_spec h1, bnd_some, asI_i, show ((((List.replicate 2 zsec).length : Nat) : Int) != 2) = false from rfl, br_false, g2, bnd_some, asSl_s, g3, bnd_some, eqNil_nil, not_true, br_false, g4, bnd_some, asSl_s, g5, bnd_some, g6, bnd_some, asI_i, show ((5 : Int) != 5) = false from rfl, br_false,
    g7, bnd_some, asT_t, toList2, uncons_c, asSl_s, uncons_c, endl_n, eqNil_nil, br_true, show (((64 : Nat) : Int) == 64) = true from rfl, br_true, need_of (by rfl), adr_some, hat _ rfl, asI_i, show ((((7 : UInt8).toNat : Nat) : Int) == 7) = true from rfl, br_true, loose_spec (h6.idle s7), bnd_some, asI_i]
  have hT := T3.same
  have n1 := s1.1
  have n2 := s2.1
  refine ⟨σ7, rfl, ((((((s1.trans s2).fresh hT (fun x hx => .inr (hF x hx))).trans s4).trans s5).trans s6).trans s7)⟩

end Go.AM.Df
