/-
  RoundOrder, in plain words: the order of the answers plays no part.
-/
import Derived.Test.YtmbofnomfmhmdaaRdD
import Derived.Test.YtmbofnomfmhmdaaRdC
import Derived.Laws.Bits64
set_option linter.unusedVariables false
set_option linter.unusedSimpArgs false
namespace Go.AM

/-- One element is another one. -/
theorem Row.put {α : Type} {cells : α → List Value} {sz : Nat} {e : TypeId} {σ : St} {ad : Option Addr} {z : Nat} {qs : List Nat} {l : List α} (h : Row cells sz e σ ad z qs l) (hc : ∀ a, (cells a).length = sz) (h1 : ∀ a, (cells a).all oneCell = true) {i : Nat} (hi : i < l.length) (x : α) :
    ∃ q σ', ad = some ⟨q, 0, none⟩ ∧ (∀ (o : Nat), o = i * sz → ∀ K : St → Res, σ.put q o (cells x) K = K σ') ∧ Row cells sz e σ' ad z qs (l.set i x) ∧ Same σ σ' qs ∧ σ'.next = σ.next := by
  rcases h.is with ⟨_, e2, _⟩ | ⟨q, rest, e1, e2, e3, e4⟩
  · subst e2; simp at hi
  · have hlen := flat_length cells sz hc l
    have hm : (i + 1) * sz ≤ l.length * sz := Nat.mul_le_mul_right _ hi
    rw [Nat.add_mul, Nat.one_mul] at hm
    have hl0 := flat_length cells sz hc (l.take i)
    rw [List.length_take, Nat.min_eq_left (by omega)] at hl0
    have hxl := hc x
    have hil := hc l[i]
    have hdec : l.flatMap cells = (l.take i).flatMap cells ++ (cells l[i] ++ (l.drop (i + 1)).flatMap cells) := by
      have : l = l.take i ++ (l[i] :: l.drop (i + 1)) := by rw [List.getElem_cons_drop, List.take_append_drop]
      conv => lhs; rw [this]
      rw [List.flatMap_append, List.flatMap_cons]
    have hset : (l.set i x).flatMap cells = (l.take i).flatMap cells ++ (cells x ++ (l.drop (i + 1)).flatMap cells) := by
      rw [List.set_eq_take_append_cons_drop, if_pos hi, List.flatMap_append, List.flatMap_cons]
    refine ⟨q, σ.set q (.own (over (l.flatMap cells ++ rest) (i * sz) (cells x)) e), e2, fun o ho K => by subst ho; exact put_own K e4 (by rw [List.length_append]; omega) (h1 x), ⟨fun y hy => by have := h.lt y hy; simpa using this, .inr ⟨q, rest, e1, e2, e3, ?_⟩⟩, by rw [e1]; exact Same.set _ _ _, rfl⟩
    rw [get_set_same, hset]
    unfold over
    rw [hdec]
    have t1 : ((l.take i).flatMap cells ++ (cells l[i] ++ (l.drop (i + 1)).flatMap cells) ++ rest).take (i * sz) = (l.take i).flatMap cells := by
      rw [List.append_assoc, ← hl0, List.take_left]
    have t2 : ((l.take i).flatMap cells ++ (cells l[i] ++ (l.drop (i + 1)).flatMap cells) ++ rest).drop (i * sz + (cells x).length) = (l.drop (i + 1)).flatMap cells ++ rest := by
      rw [hxl, ← List.drop_drop, List.append_assoc, ← hl0, List.drop_left, List.append_assoc, ← hil, List.drop_left]
    rw [t1, t2]
    simp only [List.append_assoc]

end Go.AM
namespace Go.AM.Rd
open Go.Proofs

abbrev U64 := { n : Int // 0 ≤ n ∧ n ≤ 18446744073709551615 }
def cu64 (o : U64) : List Value := [.int .u64 o.1]

/-- What is told lies apart from the round. -/
theorem owns_told {σ0 σ σ' : St} {F F' q : List Nat} {Es : List (List Nat)} (h : Owns σ0 σ (F :: Es)) (hT : Turn σ σ' F F') (hq : ∀ x ∈ q, σ.next ≤ x ∧ x ∉ F') (hl : ∀ x ∈ q, x < σ'.next) : Owns σ0 σ' [F', q] := by
  have h1 : Owns σ0 σ' (F' :: Es) := h.turned 0 rfl hT
  refine ⟨h1.kept, fun G hG x hx => ?_, fun i j A B hij ha hb x hA hB => ?_⟩
  · simp only [List.mem_cons, List.not_mem_nil, or_false] at hG
    rcases hG with rfl | rfl
    · exact h1.own _ (by simp) x hx
    · have := hq x hx; have := hl x hx; have := h.kept.1; omega
  · match i, j with
    | 0, 0 => omega
    | 0, 1 => simp at ha hb; subst ha; subst hb; exact (hq x hB).2 hA
    | 1, 0 => simp at ha hb; subst ha; subst hb; exact (hq x hA).2 hB
    | 1, 1 => omega
    | 0, j + 2 => simp at hb
    | 1, j + 2 => simp at hb
    | i + 2, _ => simp at ha

section
variable (L k : Nat) {s0 : Int} {r : Int} {ad1 ad2 : Option Addr} {l : List Int} {ord : List U64} {σ0 : St} {a : Nat}

/-- Each in the order of the volumes. -/
theorem same_loop {m0 : Nat} (hl : l.length ≤ 20) (hH : Holds σ0 1 c1 ad1 l) (hr : IntKind.wrap .i64 ((1 : Int) + IntKind.wrap .i64 s0) = r) (p : Int) {σ : St} (hk : Kept' σ0.next σ0 σ) {ad : Option Addr} {z : Nat} {q : List Nat} (hR : Row c3i 3 37 σ ad z q (l.map fun v => (p, v, r))) {N : Nat}
    (go : ∃ σ9, lpAt Try.prog env L (k + 5) 4 [true, true, true, true, true, false, true, false, true, false, true, true, false, true] [m0] L [(0, .int .u16 s0), (1, .slice ad1 l.length 0), (2, .slice ad2 N 0), (7, .pointer (some ⟨a, 0, none⟩)), (8, .slice ad l.length z), (10, .int .i64 p), (79, .int .i64 N), (80, .int .i64 (0 : Int))] σ = some (.bool true, σ9)) : ∀ n i : Nat, i ≤ l.length → l.length - i < n →
    ∃ σ9, lpAt Try.prog env L (k + 5) 4 [true, true, true, true, true, false, true, false, true, false, true, false, true] [m0] n [(0, .int .u16 s0), (1, .slice ad1 l.length 0), (2, .slice ad2 N 0), (7, .pointer (some ⟨a, 0, none⟩)), (8, .slice ad l.length z), (10, .int .i64 p), (59, .int .i64 l.length), (60, .int .i64 i)] σ = some (.bool true, σ9)
  | 0, i, _, h => by omega
  | n + 1, i, hi, h => by
    rw [f4_l13]
    by_cases hie : i = l.length
    · rw [decide_eq_false (by omega), br_false]; exact go
    · have hget : l[i]? = some l[i] := List.getElem?_eq_getElem (by omega)
      have hgetm : (l.map fun v => (p, v, r))[i]? = some (p, l[i], r) := by rw [List.getElem?_map, hget]; rfl
      obtain ⟨q0, e0, hat⟩ := hR.lds c3i_len hgetm
      obtain ⟨q1, e1, hat1⟩ := hH.ld hk hget
      have ih := same_loop hl hH hr p hk hR go n (i + 1) (by omega) (by omega)
      rw [e0, e1] at ih
      rw [decide_eq_true (by omega), br_true, need_of (by simp [inRange]; omega), e0, adr_some, hat _ (by simp), show c3i (p, l[i], r) = [.int .i64 p, .int .i64 l[i], .int .i64 r] from rfl, uncons_c, asI_i, uncons_c, asI_i, uncons_c, asI_i, endl_n, need_of (by simp [inRange]; omega), e1, adr_some, hat1 0 (.int .i64 l[i]) _ (by omega) rfl (by simp), asI_i, need_true, need_true, hr,
        show (!(p == p && (l[i] == l[i] && (r == r && true)))) = false by simp, br_false, wrap_in _ (by omega) (by omega)]
      exact ih

/-- They are put into another order. -/
theorem mix_loop {m0 : Nat} (hN : ord.length ≤ 50) (hH2 : Holds σ0 1 cu64 ad2 ord) (p : Int) {F q : List Nat} {s : RS} {ad : Option Addr} {z : Nat} {out0 : List (Int × Int × Int)} (hol : 0 < out0.length) (hol2 : out0.length ≤ 20) {ln : Nat}
    (go : ∀ (σ : St) (out : List (Int × Int × Int)), Rnd σ a F s → Owns σ0 σ [F, q] → Row c3i 3 37 σ ad z q out → out.Perm out0 → ∃ σ9, lpAt Try.prog env L (k + 5) 4 [true, true, true, true, true, false, true, false, true, false, true, true, true, true, false, true] [m0] L [(0, .int .u16 s0), (1, .slice ad1 ln 0), (2, .slice ad2 ord.length 0), (7, .pointer (some ⟨a, 0, none⟩)), (8, .slice ad out0.length z), (10, .int .i64 p), (14, .slice none 0 0), (106, .int .i64 out0.length), (107, .int .i64 (0 : Int))] σ = some (.bool true, σ9)) : ∀ (n i : Nat) (σ : St) (out : List (Int × Int × Int)), i ≤ ord.length → ord.length - i < n → Rnd σ a F s → Owns σ0 σ [F, q] → Row c3i 3 37 σ ad z q out → out.Perm out0 →
    ∃ σ9, lpAt Try.prog env L (k + 5) 4 [true, true, true, true, true, false, true, false, true, false, true, true, false, true] [m0] n [(0, .int .u16 s0), (1, .slice ad1 ln 0), (2, .slice ad2 ord.length 0), (7, .pointer (some ⟨a, 0, none⟩)), (8, .slice ad out0.length z), (10, .int .i64 p), (79, .int .i64 ord.length), (80, .int .i64 i)] σ = some (.bool true, σ9)
  | 0, i, σ, out, _, h, _, _, _, _ => by omega
  | n + 1, i, σ, out, hi, h, hS, hO, hR, hp => by
    rw [f4_l19]
    by_cases hie : i = ord.length
    · rw [decide_eq_false (by omega), br_false]; exact go σ out hS hO hR hp
    · have hget : ord[i]? = some ord[i] := List.getElem?_eq_getElem (by omega)
      obtain ⟨q1, e1, hat1⟩ := hH2.ld hO.kept hget
      have hb := ord[i].2
      have hv := hat1 0 (.int .u64 ord[i].1) (0 + (i : Int).toNat * 1) (by omega) rfl (by simp)
      generalize ord[i].1 = u at hb hv
      obtain ⟨m, rfl⟩ := Int.eq_ofNat_of_zero_le hb.1
      have hlen := hp.length_eq
      have hwu : IntKind.wrap .u64 (out0.length : Int) = (out0.length : Int) := by rw [IntKind.wrap_u64]; omega
      have hk : m % out0.length < out.length := by rw [hlen]; exact Nat.mod_lt _ hol
      have hidx : IntKind.wrap .i64 (Int.tmod (m : Int) (out0.length : Int)) = ((m % out0.length : Nat) : Int) := by
        rw [show Int.tmod (m : Int) (out0.length : Int) = ((m % out0.length : Nat) : Int) from rfl, wrap_in _ (by omega) (by omega)]
      generalize m % out0.length = j at hk hidx
      have h0l : 0 < out.length := by omega
      have hg0 : out[0]? = some out[0] := List.getElem?_eq_getElem h0l
      have hgj : out[j]? = some out[j] := List.getElem?_eq_getElem hk
      obtain ⟨q0, e0, hat⟩ := hR.lds c3i_len hg0
      obtain ⟨q0', e0', hatj⟩ := hR.lds c3i_len hgj
      have : q0' = q0 := by rw [e0] at e0'; cases e0'; rfl
      subst this
      have hperm : ((out.set 0 out[j]).set j out[0]).Perm out := List.set_set_perm h0l hk
      obtain ⟨q2, σ1, e2, p1, hR1, hs1, n1⟩ := hR.put c3i_len c3i_one h0l out[j]
      have : q2 = q0' := by rw [e0] at e2; cases e2; rfl
      subst this
      obtain ⟨q3, σ2, e3, p2, hR2, hs2, n2⟩ := hR1.put c3i_len c3i_one (i := j) (by simpa using hk) out[0]
      have : q3 = q2 := by rw [e0] at e3; cases e3; rfl
      subst this
      generalize out[0] = x0 at hat p2 hR2 hperm
      generalize out[j] = xj at hatj p1 hR1 p2 hR2 hperm hs2
      have hs12 := hs1.trans hs2
      have hoff := hO.off 0 1 (by omega) rfl rfl
      have ih := mix_loop hN hH2 p hol hol2 go n (i + 1) σ2 _ (by omega) (by omega) (hS.same hs12 hoff) (hO.turn 1 rfl hs12 (fun x hx => ⟨.inl hx, by have := hO.lt 1 rfl x hx; omega⟩)) hR2 (hperm.trans hp)
      rw [e0, e1] at ih
      have pp1 := p1 (0 + 0) (by omega)
      have pp2 := p2 (0 + (j : Int).toNat * 3) (by simp)
      rw [show c3i xj = [.int .i64 xj.1, .int .i64 xj.2.1, .int .i64 xj.2.2] from rfl] at pp1
      rw [show c3i x0 = [.int .i64 x0.1, .int .i64 x0.2.1, .int .i64 x0.2.2] from rfl] at pp2
      have hA : asI .u64 (Value.int .u64 (m : Int)) = fun K : Int → Res => K (m : Int) := by funext K; exact asI_i _ _ K
      rw [decide_eq_true (by omega), br_true, need_of (by simp [inRange]; omega), e1, adr_some, hv, asI_i, hwu, need_of (bne_iff_ne.2 (by omega)), hidx, need_of (by simp [inRange]; omega), e0, adr_some, hatj _ (by simp), show c3i xj = [.int .i64 xj.1, .int .i64 xj.2.1, .int .i64 xj.2.2] from rfl, uncons_c, asI_i, uncons_c, asI_i, uncons_c, asI_i, endl_n, need_of (by simp [inRange]; omega), adr_some, hat _ (by omega), show c3i x0 = [.int .i64 x0.1, .int .i64 x0.2.1, .int .i64 x0.2.2] from rfl, uncons_c, asI_i, uncons_c, asI_i, uncons_c, asI_i, endl_n,
        need_of (by simp [inRange]; omega), adr_some, pp1, need_of (by simp [inRange]; omega), adr_some, pp2, wrap_in _ (by omega) (by omega)]
      exact ih

end
end Go.AM.Rd
