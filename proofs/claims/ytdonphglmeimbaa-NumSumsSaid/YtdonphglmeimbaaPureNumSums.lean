/- What NumSums computes is true for every input: the sums of counts and of whole numbers are the document's. It holds for all whole numbers of its parameters, no condition. -/
import Derived.Test.YtdonphglmeimbaaQNumSumsx2
import Derived.Test.YtdonphglmeimbaaMth
namespace Go.Proofs.Ytdonphglmeimbaa.Pure.LNumSums
open Go.RowKit Go.Proofs.Ytdonphglmeimbaa.QNumSums Go.Proofs.YtdonphglmeimbaaW.PrintWords Go.Proofs.YtdonphglmeimbaaW.PrintLast Go.Proofs.YtdonphglmeimbaaW.PrintMore Mth
def addS : Int → List Int → Int × Int
  | s, [] => (s, 0)
  | s, x :: l => if s + x ≤ 18446744073709551615 then addS (s + x) l else (0, 5)
def sumL : List Int → Int
  | [] => 0
  | x :: l => x + sumL l
def intS (t : Int) : Int × Int := if -9223372036854775808 ≤ t ∧ t ≤ 9223372036854775807 then (t, 0) else (0, 5)
theorem rd_at {l : List Int} {n : Nat} (h : n < l.length) : rd l (n : Int) = l[n] := by
  unfold rd; simp [h]
theorem add_loop (l : List Int) (hl : ∀ x ∈ l, 0 ≤ x ∧ x ≤ 18446744073709551615) (hm : l.length ≤ 4611686018427387904) (d : Nat) : ∀ (k n : Nat) (s : Int), 0 ≤ s → s ≤ 18446744073709551615 → l.length - n = d → n ≤ l.length → d < k →
    num_Add.l0 k s l (l.length : Int) (n : Int) = some (addS s (l.drop n)) := by
  induction d with
  | zero =>
    intro k n s h0 h1 hd hn hk
    obtain ⟨k, rfl⟩ : ∃ m, k = m + 1 := ⟨k - 1, by omega⟩
    simp only [num_Add.l0]
    rw [if_neg (by omega), List.drop_eq_nil_of_le (by omega)]; rfl
  | succ d ih =>
    intro k n s h0 h1 hd hn hk
    obtain ⟨k, rfl⟩ : ∃ m, k = m + 1 := ⟨k - 1, by omega⟩
    have hlt : n < l.length := by omega
    have hx := hl _ (List.getElem_mem hlt)
    simp only [num_Add.l0]
    rw [if_pos (by omega), if_pos (by omega), if_pos (by omega), rd_at hlt, List.drop_eq_getElem_cons hlt]
    unfold bits_Add64.f
    rw [if_pos ⟨h0, hx.1, by omega, by omega⟩, Option.bind_some]
    simp only [addS]
    by_cases hs : s + l[n] ≤ 18446744073709551615
    · rw [if_pos hs, if_pos (by omega), w64 (x := (n : Int) + 1) (by omega) (by omega), show (s + l[n] + 0) % 18446744073709551616 = s + l[n] from by omega]
      exact ih k (n + 1) (s + l[n]) (by omega) hs (by omega) (by omega) (by omega)
    · rw [if_neg hs, if_neg (by omega)]
theorem add_val (l : List Int) (hl : ∀ x ∈ l, 0 ≤ x ∧ x ≤ 18446744073709551615) (hm : l.length ≤ 4611686018427387904) {k : Nat} (hk : l.length < k) : num_Add.f k l = some (addS 0 l) := by
  unfold num_Add.f
  exact add_loop l hl hm l.length k 0 0 (by omega) (by omega) (by omega) (by omega) (by omega)
theorem int_loop (l : List Int) (hl : ∀ x ∈ l, -9223372036854775808 ≤ x ∧ x ≤ 9223372036854775807) (hm : l.length ≤ 1000000) (d : Nat) : ∀ (k n : Nat) (high low : Int), -(n : Int) ≤ high → high ≤ n → 0 ≤ low → low ≤ 18446744073709551615 → l.length - n = d → n ≤ l.length → d < k →
    num_AddInt.l0 k high low l (l.length : Int) (n : Int) = some (intS (high * 18446744073709551616 + low + sumL (l.drop n))) := by
  induction d with
  | zero =>
    intro k n high low a0 a1 h0 h1 hd hn hk
    obtain ⟨k, rfl⟩ : ∃ m, k = m + 1 := ⟨k - 1, by omega⟩
    simp only [num_AddInt.l0]
    rw [if_neg (by omega), List.drop_eq_nil_of_le (by omega)]
    show _ = some (intS (high * 18446744073709551616 + low + 0))
    unfold intS wrap64
    split
    · rw [if_pos (by omega)]; congr 2; omega
    · rw [if_neg (by omega)]
  | succ d ih =>
    intro k n high low a0 a1 h0 h1 hd hn hk
    obtain ⟨k, rfl⟩ : ∃ m, k = m + 1 := ⟨k - 1, by omega⟩
    have hlt : n < l.length := by omega
    have hx := hl _ (List.getElem_mem hlt)
    simp only [num_AddInt.l0]
    rw [if_pos (by omega), if_pos (by omega), if_pos (by omega), rd_at hlt, List.drop_eq_getElem_cons hlt]
    unfold bits_Add64.f
    rw [wu64, if_pos ⟨h0, by omega, by omega, by omega⟩, Option.bind_some]
    simp only []
    rw [w64 (x := (low + l[n] % 18446744073709551616 + 0) / 18446744073709551616) (by omega) (by omega), w64 (x := l[n] / 9223372036854775808 + _) (by omega) (by omega), w64 (x := high + _) (by omega) (by omega), w64 (x := (n : Int) + 1) (by omega) (by omega)]
    refine (ih k (n + 1) _ _ (by omega) (by omega) (by omega) (by omega) (by omega) (by omega) (by omega)).trans ?_
    simp only [sumL]
    congr 2
    omega
theorem int_val (l : List Int) (hl : ∀ x ∈ l, -9223372036854775808 ≤ x ∧ x ≤ 9223372036854775807) (hm : l.length ≤ 1000000) {k : Nat} (hk : l.length < k) : num_AddInt.f k l = some (intS (sumL l)) := by
  unfold num_AddInt.f
  refine (int_loop l hl hm l.length k 0 0 0 (by omega) (by omega) (by omega) (by omega) (by omega) (by omega) hk).trans ?_
  simp
theorem sub_val {a b : Int} (ha : 0 ≤ a ∧ a ≤ 18446744073709551615) (hb : 0 ≤ b ∧ b ≤ 18446744073709551615) : num_Sub.f a b = some (if b > a then (0, 5) else (a - b, 0)) := by
  unfold num_Sub.f
  split
  · rfl
  · rw [wu64]; congr 2; omega
theorem subint_val {a b : Int} (ha : -9223372036854775808 ≤ a ∧ a ≤ 9223372036854775807) (hb : -9223372036854775808 ≤ b ∧ b ≤ 9223372036854775807) : num_SubInt.f a b = some (intS (a - b)) := by
  unfold num_SubInt.f intS
  by_cases h1 : a < b
  · by_cases h2 : wrap64 (a - b) < 0
    · rw [decide_eq_true h1, decide_eq_true h2]
      simp only [bne_self_eq_false, Bool.false_eq_true, if_false]
      unfold wrap64 at h2 ⊢
      rw [if_pos (by omega)]; congr 2; omega
    · rw [decide_eq_true h1, decide_eq_false h2]
      simp only [Bool.bne_false, if_true]
      unfold wrap64 at h2
      rw [if_neg (by omega)]
  · by_cases h2 : wrap64 (a - b) < 0
    · rw [decide_eq_false h1, decide_eq_true h2]
      simp only [Bool.bne_true, Bool.not_false, if_true]
      unfold wrap64 at h2
      rw [if_neg (by omega)]
    · rw [decide_eq_false h1, decide_eq_false h2]
      simp only [bne_self_eq_false, Bool.false_eq_true, if_false]
      unfold wrap64 at h2 ⊢
      rw [if_pos (by omega)]; congr 2; omega
theorem refadd_loop (l : List Int) (hl : ∀ x ∈ l, 0 ≤ x ∧ x ≤ 18446744073709551615) (hm : l.length ≤ 4611686018427387904) (d : Nat) : ∀ (k n : Nat) (s : Int), 0 ≤ s → s ≤ 18446744073709551615 → l.length - n = d → n ≤ l.length → d < k →
    pluvialref01_Add.l0 k l s (n : Int) = some (addS s (l.drop n)) := by
  induction d with
  | zero =>
    intro k n s h0 h1 hd hn hk
    obtain ⟨k, rfl⟩ : ∃ m, k = m + 1 := ⟨k - 1, by omega⟩
    simp only [pluvialref01_Add.l0]
    rw [if_neg (by omega), List.drop_eq_nil_of_le (by omega)]; rfl
  | succ d ih =>
    intro k n s h0 h1 hd hn hk
    obtain ⟨k, rfl⟩ : ∃ m, k = m + 1 := ⟨k - 1, by omega⟩
    have hlt : n < l.length := by omega
    have hx := hl _ (List.getElem_mem hlt)
    simp only [pluvialref01_Add.l0]
    rw [if_pos (by omega), if_pos (by omega), rd_at hlt, List.drop_eq_getElem_cons hlt, wu64, wu64]
    simp only [addS]
    by_cases hs : s + l[n] ≤ 18446744073709551615
    · rw [if_pos hs, if_neg (by omega), w64 (x := (n : Int) + 1) (by omega) (by omega), show (s + l[n]) % 18446744073709551616 = s + l[n] from by omega]
      exact ih k (n + 1) (s + l[n]) (by omega) hs (by omega) (by omega) (by omega)
    · rw [if_neg hs, if_pos (by omega)]
theorem refadd_val (l : List Int) (hl : ∀ x ∈ l, 0 ≤ x ∧ x ≤ 18446744073709551615) (hm : l.length ≤ 4611686018427387904) {k : Nat} (hk : l.length < k) : pluvialref01_Add.f k l = some (addS 0 l) := by
  unfold pluvialref01_Add.f
  exact refadd_loop l hl hm l.length k 0 0 (by omega) (by omega) (by omega) (by omega) (by omega)
theorem tdiv_tmod (x : Int) : Int.tdiv x 4294967296 * 4294967296 + Int.tmod x 4294967296 = x := by
  rw [Int.mul_comm]; exact Int.mul_tdiv_add_tmod x 4294967296
theorem refint_loop (l : List Int) (hl : ∀ x ∈ l, -9223372036854775808 ≤ x ∧ x ≤ 9223372036854775807) (hm : l.length ≤ 1000000) (d : Nat) : ∀ (k n : Nat) (high low : Int), -(n : Int) * 2147483649 ≤ high → high ≤ n * 2147483649 → 0 ≤ low → low ≤ n * 4294967296 → l.length - n = d → n ≤ l.length → d < k →
    pluvialref01_AddInt.l0 k l high low (n : Int) = some (intS (high * 4294967296 + low + sumL (l.drop n))) := by
  induction d with
  | zero =>
    intro k n high low a0 a1 h0 h1 hd hn hk
    obtain ⟨k, rfl⟩ : ∃ m, k = m + 1 := ⟨k - 1, by omega⟩
    simp only [pluvialref01_AddInt.l0]
    rw [if_neg (by omega), List.drop_eq_nil_of_le (by omega)]
    show _ = some (intS (high * 4294967296 + low + 0))
    have hn' : (n : Int) ≤ 1000000 := by omega
    rw [Int.tdiv_eq_ediv_of_nonneg h0, Int.tmod_eq_emod_of_nonneg h0, w64 (x := low / 4294967296) (by omega) (by omega), w64 (x := high + low / 4294967296) (by omega) (by omega)]
    unfold intS
    by_cases c1 : high + low / 4294967296 > 2147483647
    · rw [if_pos c1, if_neg (by omega)]
    · rw [if_neg c1]
      by_cases c2 : high + low / 4294967296 < -2147483648
      · rw [if_pos c2, if_neg (by omega)]
      · rw [if_neg c2, if_pos (by omega), w64 (x := (high + low / 4294967296) * 4294967296) (by omega) (by omega), w64 (by omega) (by omega)]
        congr 2; omega
  | succ d ih =>
    intro k n high low a0 a1 h0 h1 hd hn hk
    obtain ⟨k, rfl⟩ : ∃ m, k = m + 1 := ⟨k - 1, by omega⟩
    have hlt : n < l.length := by omega
    have hx := hl _ (List.getElem_mem hlt)
    have hn' : (n : Int) ≤ 1000000 := by omega
    have ht := tdiv_tmod l[n]
    have hb1 := Int.lt_tmod_of_pos l[n] (show (0 : Int) < 4294967296 by omega)
    have hb2 := Int.tmod_lt_of_pos l[n] (show (0 : Int) < 4294967296 by omega)
    simp only [pluvialref01_AddInt.l0]
    rw [if_pos (by omega), if_pos (by omega), rd_at hlt, List.drop_eq_getElem_cons hlt]
    generalize Int.tdiv l[n] 4294967296 = q at ht ⊢
    generalize Int.tmod l[n] 4294967296 = r at ht hb1 hb2 ⊢
    have hqb : -2147483648 ≤ q ∧ q ≤ 2147483648 := by omega
    by_cases c : r < 0
    · rw [if_pos c, w64 (x := q) (by omega) (by omega), w64 (x := q - 1) (by omega) (by omega), w64 (x := high + (q - 1)) (by omega) (by omega), w64 (x := r + 4294967296) (by omega) (by omega), w64 (x := low + (r + 4294967296)) (by omega) (by omega), w64 (x := (n : Int) + 1) (by omega) (by omega)]
      refine (ih k (n + 1) _ _ (by omega) (by omega) (by omega) (by omega) (by omega) (by omega) (by omega)).trans ?_
      simp only [sumL]
      congr 2
      omega
    · rw [if_neg c, w64 (x := q) (by omega) (by omega), w64 (x := high + q) (by omega) (by omega), w64 (x := low + r) (by omega) (by omega), w64 (x := (n : Int) + 1) (by omega) (by omega)]
      refine (ih k (n + 1) _ _ (by omega) (by omega) (by omega) (by omega) (by omega) (by omega) (by omega)).trans ?_
      simp only [sumL]
      congr 2
      omega
theorem refint_val (l : List Int) (hl : ∀ x ∈ l, -9223372036854775808 ≤ x ∧ x ≤ 9223372036854775807) (hm : l.length ≤ 1000000) {k : Nat} (hk : l.length < k) : pluvialref01_AddInt.f k l = some (intS (sumL l)) := by
  unfold pluvialref01_AddInt.f
  refine (refint_loop l hl hm l.length k 0 0 0 (by omega) (by omega) (by omega) (by omega) (by omega) (by omega) hk).trans ?_
  simp
theorem awake_val : pluviallaw01_awake.f = some true := by decide +kernel
theorem sums_j3 (c d : Int) (hc : -9223372036854775808 ≤ c ∧ c ≤ 9223372036854775807) (hd : -9223372036854775808 ≤ d ∧ d ≤ 9223372036854775807) (k : Nat) : pluviallaw01_NumSums.j3 (k + 4) c d false = some true := by
  simp only [pluviallaw01_NumSums.j3, Bool.false_eq_true, if_false]
  rw [subint_val hc hd, Option.bind_some]
  by_cases h : d = -9223372036854775808
  · rw [if_pos h, awake_val, Option.bind_some, if_pos rfl]
    congr 1
    unfold intS
    by_cases h2 : c < 0
    · rw [if_pos (by omega), decide_eq_true h2]; rfl
    · rw [if_neg (by omega), decide_eq_false h2]; rfl
  · rw [if_neg h, w64 (x := -d) (by omega) (by omega), refint_val [c, -d] (by intro x hx; simp at hx; omega) (by simp) (by simp), awake_val]
    have e : sumL [c, -d] = c - d := by simp [sumL]; omega
    rw [e]
    simp
theorem sums_j2 (a b c d : Int) (ha : 0 ≤ a ∧ a ≤ 18446744073709551615) (hb : 0 ≤ b ∧ b ≤ 18446744073709551615) (hc : -9223372036854775808 ≤ c ∧ c ≤ 9223372036854775807) (hd : -9223372036854775808 ≤ d ∧ d ≤ 9223372036854775807) (k : Nat) : pluviallaw01_NumSums.j2 (k + 5) a b c d false = some true := by
  have hj := sums_j3 c d hc hd k
  simp only [pluviallaw01_NumSums.j2, Bool.false_eq_true, if_false]
  rw [sub_val ha hb, Option.bind_some]
  by_cases h : b > a
  · rw [if_pos h, if_pos h, if_pos rfl, if_pos rfl, if_neg (by omega)]; exact hj
  · rw [if_neg h, if_neg h, if_pos (by omega), wu64, if_pos (show a - b = (a - b) % 18446744073709551616 by omega)]
    exact hj
theorem main : pluviallaw01_NumSums.Pure := by
  intro l m a b c d _ hl2 hl _ hm2 hm ha hb hc hd
  have ha' := wf_u64 ha
  have hb' := wf_u64 hb
  have hc' := wf_i64 hc
  have hd' := wf_i64 hd
  refine ⟨2000, ?_⟩
  have hj : pluviallaw01_NumSums.j0 2000 l m a b c d true = some true := by
    simp only [pluviallaw01_NumSums.j0, if_true, awake_val, Option.bind_some]
  unfold pluviallaw01_NumSums.f
  by_cases c1 : (l.length : Int) > 1000
  · rw [if_pos c1]; exact hj
  · rw [if_neg c1]
    by_cases c2 : (m.length : Int) > 1000
    · rw [decide_eq_true c2]; exact hj
    · rw [decide_eq_false c2]
      have hl' : ∀ x ∈ l, 0 ≤ x ∧ x ≤ 18446744073709551615 := fun x hx => wf_u64 (hl x hx)
      have hm' : ∀ x ∈ m, -9223372036854775808 ≤ x ∧ x ≤ 9223372036854775807 := fun x hx => wf_i64 (hm x hx)
      simp only [pluviallaw01_NumSums.j0, Bool.false_eq_true, if_false]
      rw [add_val l hl' (by omega) (by omega), refadd_val l hl' (by omega) (by omega)]
      simp only [Option.bind_some, if_true, bne_self_eq_false, pluviallaw01_NumSums.j1, Bool.false_eq_true, if_false]
      rw [int_val m hm' (by omega) (by omega), refint_val m hm' (by omega) (by omega)]
      simp only [Option.bind_some, if_true, bne_self_eq_false]
      exact sums_j2 a b c d ha' hb' hc' hd' 1993
end Go.Proofs.Ytdonphglmeimbaa.Pure.LNumSums
namespace Go.Proofs.Ytdonphglmeimbaa.Pure
theorem NumSums : Go.Proofs.Ytdonphglmeimbaa.QNumSums.pluviallaw01_NumSums.Pure := LNumSums.main
end Go.Proofs.Ytdonphglmeimbaa.Pure
