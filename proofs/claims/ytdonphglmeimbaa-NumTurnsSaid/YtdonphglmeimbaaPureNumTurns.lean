/- What NumTurns computes is true for every input: sums and products may be turned about. It holds for all whole numbers of its parameters, no condition. -/
import Derived.Test.YtdonphglmeimbaaQNumTurnsx3
import Derived.Test.YtdonphglmeimbaaMth
namespace Go.Proofs.Ytdonphglmeimbaa.Pure.LNumTurns
open Go.RowKit Go.Proofs.Ytdonphglmeimbaa.QNumTurns Go.Proofs.YtdonphglmeimbaaW.PrintWords Go.Proofs.YtdonphglmeimbaaW.PrintLast Go.Proofs.YtdonphglmeimbaaW.PrintMore Mth
def addS : Int → List Int → Int × Int
  | s, [] => (s, 0)
  | s, x :: l => if s + x ≤ 18446744073709551615 then addS (s + x) l else (0, 5)
def sumL : List Int → Int
  | [] => 0
  | x :: l => x + sumL l
def intS (t : Int) : Int × Int := if -9223372036854775808 ≤ t ∧ t ≤ 9223372036854775807 then (t, 0) else (0, 5)
theorem rd_at {l : List Int} {n : Nat} (h : n < l.length) : rd l (n : Int) = l[n] := by
  unfold rd; simp [h]
theorem add_loop (l : List Int) (hl : ∀ x ∈ l, 0 ≤ x ∧ x ≤ 18446744073709551615) (hm : l.length ≤ 4611686018427387904) (d : Nat) : ∀ (k n : Nat) (s : Int), 0 ≤ s → s ≤ 18446744073709551615 → l.length - n = d → n ≤ l.length → d < k →
    num_Add.l0 k s l (l.length : Int) (n : Int) = some (addS s (l.drop n)) := by
  induction d with
  | zero =>
    intro k n s h0 h1 hd hn hk
    obtain ⟨k, rfl⟩ : ∃ m, k = m + 1 := ⟨k - 1, by omega⟩
    simp only [num_Add.l0]
    rw [if_neg (by omega), List.drop_eq_nil_of_le (by omega)]; rfl
  | succ d ih =>
    intro k n s h0 h1 hd hn hk
    obtain ⟨k, rfl⟩ : ∃ m, k = m + 1 := ⟨k - 1, by omega⟩
    have hlt : n < l.length := by omega
    have hx := hl _ (List.getElem_mem hlt)
    simp only [num_Add.l0]
    rw [if_pos (by omega), if_pos (by omega), if_pos (by omega), rd_at hlt, List.drop_eq_getElem_cons hlt]
    unfold bits_Add64.f
    rw [if_pos ⟨h0, hx.1, by omega, by omega⟩, Option.bind_some]
    simp only [addS]
    by_cases hs : s + l[n] ≤ 18446744073709551615
    · rw [if_pos hs, if_pos (by omega), w64 (x := (n : Int) + 1) (by omega) (by omega), show (s + l[n] + 0) % 18446744073709551616 = s + l[n] from by omega]
      exact ih k (n + 1) (s + l[n]) (by omega) hs (by omega) (by omega) (by omega)
    · rw [if_neg hs, if_neg (by omega)]
theorem add_val (l : List Int) (hl : ∀ x ∈ l, 0 ≤ x ∧ x ≤ 18446744073709551615) (hm : l.length ≤ 4611686018427387904) {k : Nat} (hk : l.length < k) : num_Add.f k l = some (addS 0 l) := by
  unfold num_Add.f
  exact add_loop l hl hm l.length k 0 0 (by omega) (by omega) (by omega) (by omega) (by omega)
theorem int_loop (l : List Int) (hl : ∀ x ∈ l, -9223372036854775808 ≤ x ∧ x ≤ 9223372036854775807) (hm : l.length ≤ 1000000) (d : Nat) : ∀ (k n : Nat) (high low : Int), -(n : Int) ≤ high → high ≤ n → 0 ≤ low → low ≤ 18446744073709551615 → l.length - n = d → n ≤ l.length → d < k →
    num_AddInt.l0 k high low l (l.length : Int) (n : Int) = some (intS (high * 18446744073709551616 + low + sumL (l.drop n))) := by
  induction d with
  | zero =>
    intro k n high low a0 a1 h0 h1 hd hn hk
    obtain ⟨k, rfl⟩ : ∃ m, k = m + 1 := ⟨k - 1, by omega⟩
    simp only [num_AddInt.l0]
    rw [if_neg (by omega), List.drop_eq_nil_of_le (by omega)]
    show _ = some (intS (high * 18446744073709551616 + low + 0))
    unfold intS wrap64
    split
    · rw [if_pos (by omega)]; congr 2; omega
    · rw [if_neg (by omega)]
  | succ d ih =>
    intro k n high low a0 a1 h0 h1 hd hn hk
    obtain ⟨k, rfl⟩ : ∃ m, k = m + 1 := ⟨k - 1, by omega⟩
    have hlt : n < l.length := by omega
    have hx := hl _ (List.getElem_mem hlt)
    simp only [num_AddInt.l0]
    rw [if_pos (by omega), if_pos (by omega), if_pos (by omega), rd_at hlt, List.drop_eq_getElem_cons hlt]
    unfold bits_Add64.f
    rw [wu64, if_pos ⟨h0, by omega, by omega, by omega⟩, Option.bind_some]
    simp only []
    rw [w64 (x := (low + l[n] % 18446744073709551616 + 0) / 18446744073709551616) (by omega) (by omega), w64 (x := l[n] / 9223372036854775808 + _) (by omega) (by omega), w64 (x := high + _) (by omega) (by omega), w64 (x := (n : Int) + 1) (by omega) (by omega)]
    refine (ih k (n + 1) _ _ (by omega) (by omega) (by omega) (by omega) (by omega) (by omega) (by omega)).trans ?_
    simp only [sumL]
    congr 2
    omega
theorem int_val (l : List Int) (hl : ∀ x ∈ l, -9223372036854775808 ≤ x ∧ x ≤ 9223372036854775807) (hm : l.length ≤ 1000000) {k : Nat} (hk : l.length < k) : num_AddInt.f k l = some (intS (sumL l)) := by
  unfold num_AddInt.f
  refine (int_loop l hl hm l.length k 0 0 0 (by omega) (by omega) (by omega) (by omega) (by omega) (by omega) hk).trans ?_
  simp
theorem sub_val {a b : Int} (ha : 0 ≤ a ∧ a ≤ 18446744073709551615) (hb : 0 ≤ b ∧ b ≤ 18446744073709551615) : num_Sub.f a b = some (if b > a then (0, 5) else (a - b, 0)) := by
  unfold num_Sub.f
  split
  · rfl
  · rw [wu64]; congr 2; omega
theorem subint_val {a b : Int} (ha : -9223372036854775808 ≤ a ∧ a ≤ 9223372036854775807) (hb : -9223372036854775808 ≤ b ∧ b ≤ 9223372036854775807) : num_SubInt.f a b = some (intS (a - b)) := by
  unfold num_SubInt.f intS
  by_cases h1 : a < b
  · by_cases h2 : wrap64 (a - b) < 0
    · rw [decide_eq_true h1, decide_eq_true h2]
      simp only [bne_self_eq_false, Bool.false_eq_true, if_false]
      unfold wrap64 at h2 ⊢
      rw [if_pos (by omega)]; congr 2; omega
    · rw [decide_eq_true h1, decide_eq_false h2]
      simp only [Bool.bne_false, if_true]
      unfold wrap64 at h2
      rw [if_neg (by omega)]
  · by_cases h2 : wrap64 (a - b) < 0
    · rw [decide_eq_false h1, decide_eq_true h2]
      simp only [Bool.bne_true, Bool.not_false, if_true]
      unfold wrap64 at h2
      rw [if_neg (by omega)]
    · rw [decide_eq_false h1, decide_eq_false h2]
      simp only [bne_self_eq_false, Bool.false_eq_true, if_false]
      unfold wrap64 at h2 ⊢
      rw [if_pos (by omega)]; congr 2; omega
theorem mul_val {a b : Int} (ha : 0 ≤ a ∧ a ≤ 18446744073709551615) (hb : 0 ≤ b ∧ b ≤ 18446744073709551615) : num_Mul.f a b = some (a * b / 18446744073709551616, a * b % 18446744073709551616) := by
  unfold num_Mul.f bits_Mul64.f
  rw [if_pos ⟨ha, hb⟩, Option.bind_some]
theorem less_val (p q : Int) : num_Wide_Less.f (p / 18446744073709551616) (p % 18446744073709551616) (q / 18446744073709551616) (q % 18446744073709551616) = some (decide (p < q)) := by
  unfold num_Wide_Less.f
  by_cases h : p / 18446744073709551616 < q / 18446744073709551616
  · rw [if_pos h, decide_eq_true (by omega)]
  · rw [if_neg h]
    by_cases h2 : p / 18446744073709551616 = q / 18446744073709551616
    · rw [if_pos h2]; congr 1
      rw [Bool.eq_iff_iff]; simp only [decide_eq_true_eq]; omega
    · rw [if_neg h2, decide_eq_false (by omega)]
theorem ratio_val {a b c d : Int} (ha : 0 ≤ a ∧ a ≤ 18446744073709551615) (hb : 0 ≤ b ∧ b ≤ 18446744073709551615) (hc : 0 ≤ c ∧ c ≤ 18446744073709551615) (hd : 0 ≤ d ∧ d ≤ 18446744073709551615) :
    num_Ratio.f a b c d = some (if a * d < c * b then -1 else if c * b < a * d then 1 else 0) := by
  unfold num_Ratio.f
  rw [mul_val ha hd, mul_val hc hb]
  simp only [Option.bind_some]
  rw [less_val, less_val]
  simp only [Option.bind_some, decide_eq_true_eq]
  split
  · rfl
  · split <;> rfl
theorem awake_val : pluviallaw01_awake.f = some true := by decide +kernel
theorem addS_eq (l : List Int) : ∀ (s : Int), s ≤ 18446744073709551615 → (∀ x ∈ l, 0 ≤ x) → addS s l = if s + sumL l ≤ 18446744073709551615 then (s + sumL l, 0) else (0, 5) := by
  have hpos : ∀ l : List Int, (∀ x ∈ l, 0 ≤ x) → 0 ≤ sumL l := by
    intro l
    induction l with
    | nil => intro _; exact Int.le_refl _
    | cons y l ih =>
      intro h
      have h1 := ih (fun z hz => h z (List.mem_cons_of_mem _ hz))
      have h2 := h y (by simp)
      show 0 ≤ y + sumL l
      omega
  induction l with
  | nil =>
    intro s hs _
    rw [show sumL [] = 0 from rfl, if_pos (by omega), Int.add_zero]; rfl
  | cons x l ih =>
    intro s hs hx
    have h0 := hpos l (fun y hy => hx y (List.mem_cons_of_mem _ hy))
    have hx0 := hx x (by simp)
    rw [show sumL (x :: l) = x + sumL l from rfl]
    simp only [addS]
    by_cases h : s + x ≤ 18446744073709551615
    · rw [if_pos h, ih (s + x) h (fun y hy => hx y (List.mem_cons_of_mem _ hy)), show s + x + sumL l = s + (x + sumL l) from by omega]
    · rw [if_neg h, if_neg (by omega)]
theorem turns_j2 (a b c m n : Int) (ha : 0 ≤ a ∧ a ≤ 18446744073709551615) (hb : 0 ≤ b ∧ b ≤ 18446744073709551615) (hc : 0 ≤ c ∧ c ≤ 18446744073709551615) (hm : -9223372036854775808 ≤ m ∧ m ≤ 9223372036854775807) (hn : -9223372036854775808 ≤ n ∧ n ≤ 9223372036854775807) : pluviallaw01_NumTurns.j2 11 a b c m n = some true := by
  simp only [pluviallaw01_NumTurns.j2]
  rw [int_val [m, n, m] (by intro x hx; simp at hx; omega) (by simp) (by simp), int_val [m, m, n] (by intro x hx; simp at hx; omega) (by simp) (by simp), awake_val, ratio_val ha hb hc hc, ratio_val hc hc ha hb]
  have e : sumL [m, n, m] = sumL [m, m, n] := by simp [sumL]; omega
  rw [e]
  simp only [Option.bind_some, if_true, Int.mul_comm c a, Int.mul_comm b c]
  by_cases h1 : a * c < c * b
  · have h2 : ¬ c * b < a * c := by omega
    rw [if_pos h1, if_neg h2, if_pos h1]; decide +kernel
  · rw [if_neg h1]
    by_cases h2 : c * b < a * c
    · rw [if_pos h2, if_pos h2]; decide +kernel
    · rw [if_neg h2, if_neg h2, if_neg h1]; decide +kernel
theorem turns_j1 (a b c m n : Int) (ha : 0 ≤ a ∧ a ≤ 18446744073709551615) (hb : 0 ≤ b ∧ b ≤ 18446744073709551615) (hc : 0 ≤ c ∧ c ≤ 18446744073709551615) (hm : -9223372036854775808 ≤ m ∧ m ≤ 9223372036854775807) (hn : -9223372036854775808 ≤ n ∧ n ≤ 9223372036854775807) : pluviallaw01_NumTurns.j1 12 a b c m n = some true := by
  have h2 := turns_j2 a b c m n ha hb hc hm hn
  simp only [pluviallaw01_NumTurns.j1]
  rw [int_val [m, n] (by intro x hx; simp at hx; omega) (by simp) (by simp), Option.bind_some, h2]
  have e : sumL [m, n] = m + n := by simp [sumL]
  rw [e]
  by_cases h : -9223372036854775808 ≤ m + n ∧ m + n ≤ 9223372036854775807
  · have e1 : intS (m + n) = (m + n, 0) := by unfold intS; rw [if_pos h]
    have e2 : intS (m + n - n) = (m, 0) := by unfold intS; rw [if_pos (by omega)]; congr 1; omega
    rw [e1]
    simp only [if_true]
    rw [subint_val h hn, e2]
    simp
  · have e1 : intS (m + n) = (0, 5) := by unfold intS; rw [if_neg h]
    rw [e1]
    simp
theorem turns_j0 (a b c m n : Int) (ha : 0 ≤ a ∧ a ≤ 18446744073709551615) (hb : 0 ≤ b ∧ b ≤ 18446744073709551615) (hc : 0 ≤ c ∧ c ≤ 18446744073709551615) (hm : -9223372036854775808 ≤ m ∧ m ≤ 9223372036854775807) (hn : -9223372036854775808 ≤ n ∧ n ≤ 9223372036854775807) : pluviallaw01_NumTurns.j0 13 a b c m n false = some true := by
  have h2 := turns_j1 a b c m n ha hb hc hm hn
  simp only [pluviallaw01_NumTurns.j0, Bool.false_eq_true, if_false]
  rw [add_val [a, b] (by intro x hx; simp at hx; omega) (by simp) (by simp), Option.bind_some, h2, addS_eq [a, b] 0 (by omega) (by intro x hx; simp at hx; omega)]
  have e : 0 + sumL [a, b] = a + b := by simp [sumL]
  rw [e]
  by_cases h : a + b ≤ 18446744073709551615
  · rw [if_pos h]
    simp only [if_true]
    rw [sub_val ⟨by omega, h⟩ hb, if_neg (by omega)]
    simp
  · rw [if_neg h]
    simp
theorem main : pluviallaw01_NumTurns.Pure := by
  intro a b c m n ha hb hc hm hn
  have ha' := wf_u64 ha
  have hb' := wf_u64 hb
  have hc' := wf_u64 hc
  refine ⟨13, ?_⟩
  have h0 := turns_j0 a b c m n ha' hb' hc' (wf_i64 hm) (wf_i64 hn)
  unfold pluviallaw01_NumTurns.f
  rw [add_val [a, b, c] (by intro x hx; simp at hx; omega) (by simp) (by simp), add_val [c, a, b] (by intro x hx; simp at hx; omega) (by simp) (by simp), addS_eq [a, b, c] 0 (by omega) (by intro x hx; simp at hx; omega), addS_eq [c, a, b] 0 (by omega) (by intro x hx; simp at hx; omega), mul_val ha' hb', mul_val hb' ha', Int.mul_comm b a]
  have e : 0 + sumL [a, b, c] = 0 + sumL [c, a, b] := by simp [sumL]; omega
  rw [e]
  simp only [Option.bind_some, if_true, beq_self_eq_true, Bool.not_true, Bool.or_false]
  exact h0
end Go.Proofs.Ytdonphglmeimbaa.Pure.LNumTurns
namespace Go.Proofs.Ytdonphglmeimbaa.Pure
theorem NumTurns : Go.Proofs.Ytdonphglmeimbaa.QNumTurns.pluviallaw01_NumTurns.Pure := LNumTurns.main
end Go.Proofs.Ytdonphglmeimbaa.Pure
