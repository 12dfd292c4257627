/- What SumParts computes is true for every input: in whatever parts bytes come their sum is the same; one bit turned, and it is another one. -/
import Derived.Test.YtmklgjcflgjbjaaQSumPartsx1
import Derived.Test.YtmklgjcflgjbjaaCrc
namespace Go.Proofs.Ytmklgjcflgjbjaa.Pure.LSumParts
open Go.RowKit Go.Proofs.Ytmklgjcflgjbjaa Go.Proofs.Ytmklgjcflgjbjaa.QSumParts Go.Proofs.YtmklgjcflgjbjaaW.PrintWords Go.Proofs.YtmklgjcflgjbjaaW.PrintLast Go.Proofs.YtmklgjcflgjbjaaW.PrintMore Mth _root_.Go.Proofs.Ytmklgjcflgjbjaa.Sum
theorem awake_val : pluviallaw03_awake.f = some true := rfl
theorem sumOf_val {l : List (List Int)} (h : Bytes l.flatten) : sum_Of.f l = some (4294967295 - ((crcB (BitVec.allOnes 32) l.flatten).toNat : Int)) := congrArg some (sum_val h)
theorem flip_ne {b j : Int} (hb : 0 ≤ b ∧ b ≤ 255) (hj : 0 ≤ j ∧ j ≤ 7) : 0 ≤ Go.bits .xor .u8 b (shl .u8 1 j) ∧ Go.bits .xor .u8 b (shl .u8 1 j) ≤ 255 ∧ Go.bits .xor .u8 b (shl .u8 1 j) ≠ b := by
  have hx := xor8_bound b (shl .u8 1 j)
  refine ⟨hx.1, by omega, ?_⟩
  have hm : 0 < shl .u8 1 j ∧ shl .u8 1 j < 256 := by
    have hc : j = 0 ∨ j = 1 ∨ j = 2 ∨ j = 3 ∨ j = 4 ∨ j = 5 ∨ j = 6 ∨ j = 7 := by omega
    rcases hc with rfl | rfl | rfl | rfl | rfl | rfl | rfl | rfl <;> decide
  intro h
  have e := xor_u8 (a := b) (b := shl .u8 1 j) ⟨hb.1, by omega⟩ ⟨by omega, hm.2⟩
  rw [h] at e
  have e2 := congrArg (bv b ^^^ ·) e
  simp only [← BitVec.xor_assoc, BitVec.xor_self, BitVec.zero_xor] at e2
  have := bv_inj (a := 0) (b := shl .u8 1 j) (by omega) ⟨by omega, by omega⟩ (by rw [← e2]; rfl)
  omega
theorem tail_val {x : List Int} (hx : Bytes x) (hl : x.length ≤ 1000000) {a1 a2 : Int} (h1 : 0 ≤ a1 ∧ a1 ≤ 65535) (h2 : 0 ≤ a2 ∧ a2 ≤ 255) (k : Nat) :
    pluviallaw03_SumParts.j1 (k + 1) a1 a2 x (4294967295 - ((crcB (BitVec.allOnes 32) x).toNat : Int)) false = some true := by
  simp only [pluviallaw03_SumParts.j1, Bool.false_eq_true, if_false]
  by_cases c : (x.length : Int) = 0
  · rw [if_pos c, awake_val]; rfl
  rw [if_neg c]
  simp only [Option.bind_some, List.nil_append]
  have em : Int.tmod a1 (x.length : Int) = ((a1.toNat % x.length : Nat) : Int) := by
    obtain ⟨n, rfl⟩ := Int.eq_ofNat_of_zero_le h1.1
    rw [Int.tmod_eq_emod_of_nonneg (by omega)]; simp
  have hlt : a1.toNat % x.length < x.length := Nat.mod_lt _ (by omega)
  have em2 : Int.tmod a2 8 = a2 % 8 := Int.tmod_eq_emod_of_nonneg h2.1
  rw [if_pos (by simp only [List.length_nil]; omega), if_neg c, w64 (by omega) (by omega), em, em2, if_pos (by omega), if_pos (by omega), if_pos (by omega), awake_val, Option.bind_some, if_pos rfl]
  generalize a1.toNat % x.length = i at hlt
  rw [Int.toNat_natCast]
  have er : rd x (i : Int) = x[i] := by unfold rd; simp [hlt]
  rw [er]
  have hb := hx x[i] (List.getElem_mem hlt)
  obtain ⟨f1, f2, f3⟩ := flip_ne hb (j := a2 % 8) (by omega)
  generalize Go.bits .xor .u8 x[i] (shl .u8 1 (a2 % 8)) = y at f1 f2 f3
  have es : x.set i y = x.take i ++ y :: x.drop (i + 1) := by rw [List.set_eq_take_append_cons_drop, if_pos hlt]
  have eo : x = x.take i ++ x[i] :: x.drop (i + 1) := by rw [← List.drop_eq_getElem_cons hlt, List.take_append_drop]
  have hbs : Bytes (x.set i y) := by
    intro z hz
    rcases List.mem_or_eq_of_mem_set hz with h | h
    · exact hx z h
    · rw [h]; exact ⟨f1, f2⟩
  have e1 : ([x.set i y] : List (List Int)).flatten = x.set i y := by simp
  have e2 : ([x] : List (List Int)).flatten = x := by simp
  have ht := sum_turn (pre := x.take i) (post := x.drop (i + 1)) (x := y) (y := x[i]) (l := [x.set i y]) (m := [x]) (by rw [e1, es]) (by rw [e2]; exact eo) (by rw [e1]; exact hbs) (by rw [e2]; exact hx) f3
  rw [sum_val (by rw [e1]; exact hbs), sum_val (by rw [e2]; exact hx), e1, e2] at ht
  rw [sumOf_val (by rw [e1]; exact hbs), Option.bind_some, e1]
  congr 1
  rw [bne_iff_ne]
  exact ht
theorem loop_val (l : List (List Int)) (hl : ∀ x ∈ l, Bytes x) (hlen : l.length ≤ 9223372036854775807) {a1 a2 : Int} (h1 : 0 ≤ a1 ∧ a1 ≤ 65535) (h2 : 0 ≤ a2 ∧ a2 ≤ 255) : ∀ (d k n : Nat), l.length - n = d → n ≤ l.length → (n = 0 ∨ l.length ≤ 20) → ((l.take n).flatten).length ≤ 300 * n → d + 2 < k →
    pluviallaw03_SumParts.l0 k l a1 a2 ((l.take n).flatten) l (l.length : Int) (n : Int) = some true := by
  intro d
  induction d with
  | zero =>
    intro k n hd hn hs hf hk
    obtain ⟨k, rfl⟩ : ∃ m, k = m + 2 := ⟨k - 2, by omega⟩
    have hnl : n = l.length := by omega
    have hB : Bytes l.flatten := by
      intro x hx
      obtain ⟨y, hy, hxy⟩ := List.mem_flatten.1 hx
      exact hl y hy x hxy
    have hll : l.flatten.length ≤ 6000 := by
      rw [hnl, List.take_length] at hf
      rcases hs with h | h <;> omega
    simp only [pluviallaw03_SumParts.l0]
    rw [if_neg (by omega), hnl, List.take_length, sumOf_val hB, Option.bind_some]
    have e1 : ([l.flatten] : List (List Int)).flatten = l.flatten := by simp
    have e2 : ([l.flatten, []] : List (List Int)).flatten = l.flatten := by simp
    rw [sumOf_val (by rw [e1]; exact hB), Option.bind_some, e1, if_pos rfl, sumOf_val (by rw [e2]; exact hB), Option.bind_some, e2, bne_self_eq_false]
    exact tail_val hB (by omega) h1 h2 k
  | succ d ih =>
    intro k n hd hn hs hf hk
    obtain ⟨k, rfl⟩ : ∃ m, k = m + 1 := ⟨k - 1, by omega⟩
    have c : n < l.length := by omega
    have er : rd_L1 l (n : Int) = l[n] := by unfold rd_L1; simp [c]
    simp only [pluviallaw03_SumParts.l0]
    rw [if_pos (by omega), if_pos (by omega), if_pos (by omega), er]
    by_cases c1 : (l[n].length : Int) > 300
    · rw [if_pos c1, awake_val]; rfl
    rw [if_neg c1]
    by_cases c2 : (l.length : Int) > 20
    · rw [if_pos c2, awake_val]; rfl
    have ef : (l.take n).flatten ++ l[n] = (l.take (n + 1)).flatten := by rw [List.take_succ_eq_append_getElem c, List.flatten_append]; simp
    rw [if_neg c2, if_pos (by omega), w64 (by omega) (by omega), ef, show (n : Int) + 1 = ((n + 1 : Nat) : Int) from by omega]
    exact ih k (n + 1) (by omega) (by omega) (.inr (by omega)) (by rw [← ef, List.length_append]; omega) (by omega)
theorem main (l : List (List Int)) (a1 a2 : Int) (hl : ∀ x ∈ l, Bytes x) (hlen : l.length ≤ 9223372036854775807) (h1 : 0 ≤ a1 ∧ a1 ≤ 65535) (h2 : 0 ≤ a2 ∧ a2 ≤ 255) : ∃ k, pluviallaw03_SumParts.f k l a1 a2 = some true :=
  ⟨l.length + 10, loop_val l hl hlen h1 h2 l.length (l.length + 10) 0 rfl (Nat.zero_le _) (.inl rfl) (by simp) (by omega)⟩
end Go.Proofs.Ytmklgjcflgjbjaa.Pure.LSumParts
