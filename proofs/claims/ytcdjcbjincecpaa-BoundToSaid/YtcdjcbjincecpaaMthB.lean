import Derived.Test.YtcdjcbjincecpaaMth
namespace Go.Proofs.Ytcdjcbjincecpaa.Mth
open Go.RowKit Go.Proofs.YtcdjcbjincecpaaW.PrintWords Go.Proofs.YtcdjcbjincecpaaW.PrintLast Go.Proofs.YtcdjcbjincecpaaW.PrintMore

/-- is it a schema -/
def rt (s : Int) : Bool := decide (-4 ≤ s) && decide (s ≤ 8)
/-- a bucket's units -/
def sz (s : Int) : Int := 2 ^ (8 - s).toNat
def most (s : Int) : Int := if rt s = true then 262144 / sz s else 0
def inB (s i : Int) : Bool := rt s && decide (1 - most s ≤ i) && decide (i ≤ most s)
def unitsV (s i : Int) : Int := if rt s = true then wrap64 (i * sz s) else 0
def toV (f t i : Int) : Int × Int := if rt f = true ∧ rt t = true ∧ t ≤ f then (if inB f i = true then (upq i (f - t).toNat, 0) else (0, 4)) else (0, 20)
def ofV (s u : Int) : Int × Bool := if rt s = true ∧ -262144 < u ∧ u ≤ 262144 then (upq u (8 - s).toNat, true) else (0, false)

theorem rt_iff {s : Int} : rt s = true ↔ -4 ≤ s ∧ s ≤ 8 := by simp [rt]
theorem rt_neg {s : Int} (h : ¬ rt s = true) : rt s = false := by simpa using h
theorem cases13 {s : Int} (h : rt s = true) : s = -4 ∨ s = -3 ∨ s = -2 ∨ s = -1 ∨ s = 0 ∨ s = 1 ∨ s = 2 ∨ s = 3 ∨ s = 4 ∨ s = 5 ∨ s = 6 ∨ s = 7 ∨ s = 8 := by
  rw [rt_iff] at h; omega
theorem sz_pos (s : Int) : 0 < sz s := pow_pos' _
theorem sz_most {s : Int} (h : rt s = true) : most s * sz s = 262144 ∧ 64 ≤ most s ∧ most s ≤ 262144 ∧ sz s ≤ 4096 := by
  rcases cases13 h with rfl | rfl | rfl | rfl | rfl | rfl | rfl | rfl | rfl | rfl | rfl | rfl | rfl <;> decide +kernel
theorem most_le (s : Int) : 0 ≤ most s ∧ most s ≤ 262144 := by
  by_cases h : rt s = true
  · have := sz_most h; omega
  · unfold most; rw [if_neg h]; omega
theorem sz_step {f t : Int} (hf : f ≤ 8) (h : t ≤ f) : sz t = sz f * 2 ^ (f - t).toNat := by
  unfold sz
  rw [← Int.pow_add]; congr 1; omega
theorem most_step {f t : Int} (hf : rt f = true) (ht : rt t = true) (h : t ≤ f) : most f = most t * 2 ^ (f - t).toNat := by
  have h1 := (sz_most hf).1
  have h2 := (sz_most ht).1
  rw [sz_step (rt_iff.1 hf).2 h] at h2
  have hp := sz_pos f
  refine Int.eq_of_mul_eq_mul_right (Int.ne_of_gt hp) ?_
  rw [h1, ← h2, Int.mul_assoc, Int.mul_comm (sz f)]
theorem upq_iff (x a : Int) (n : Nat) : upq x n = a ↔ (a - 1) * 2 ^ n < x ∧ x ≤ a * 2 ^ n := by
  have hp := pow_pos' n
  have e1 := Int.ediv_mul_le (-x) (Int.ne_of_gt hp)
  have e2 := Int.lt_ediv_add_one_mul_self (-x) hp
  unfold upq
  constructor
  · intro h
    have : (-x) / 2 ^ n = -a := by omega
    rw [this] at e1 e2
    rw [Int.neg_mul] at e1
    rw [show (-a + 1) = -(a - 1) from by omega, Int.neg_mul] at e2
    omega
  · intro ⟨h1, h2⟩
    have g : (-x) / 2 ^ n = -a := by
      refine Int.le_antisymm ?_ ?_
      · have : (-x) / 2 ^ n < -a + 1 := by
          rw [Int.ediv_lt_iff_lt_mul hp, show (-a + 1) = -(a - 1) from by omega, Int.neg_mul]; omega
        omega
      · rw [Int.le_ediv_iff_mul_le hp, Int.neg_mul]; omega
    omega
/-- an index of a finer schema leads to an index of a coarser one -/
theorem in_up {f t i : Int} (hf : rt f = true) (ht : rt t = true) (h : t ≤ f) (hi : inB f i = true) : inB t (upq i (f - t).toNat) = true := by
  have hm := most_step hf ht h
  obtain ⟨a, ha⟩ : ∃ a, upq i (f - t).toNat = a := ⟨_, rfl⟩
  have hu := (upq_iff i a _).1 ha
  have hp := pow_pos' (f - t).toNat
  rw [ha]
  simp only [inB, hf, ht, Bool.true_and, Bool.and_eq_true, decide_eq_true_eq] at hi ⊢
  rw [hm] at hi
  obtain ⟨p, hpe⟩ : ∃ p : Int, (2 : Int) ^ (f - t).toNat = p := ⟨_, rfl⟩
  rw [hpe] at hu hi hp
  constructor
  · -- a*p ≥ i ≥ 1 - most t * p
    have : (-(most t)) * p < a * p := by rw [Int.neg_mul]; omega
    have := Int.lt_of_mul_lt_mul_right this (by omega)
    omega
  · have : (a - 1) * p < most t * p := by omega
    have := Int.lt_of_mul_lt_mul_right this (by omega)
    omega
theorem in_bounds {s i : Int} (h : inB s i = true) : rt s = true ∧ 1 - most s ≤ i ∧ i ≤ most s ∧ -262144 < i ∧ i ≤ 262144 := by
  simp only [inB, Bool.and_eq_true, decide_eq_true_eq] at h
  have := most_le s
  exact ⟨h.1.1, h.1.2, h.2, by omega, by omega⟩
theorem mul_sz_bound {s i : Int} (h : rt s = true) (B : Int) (h0 : -B ≤ i) (h1 : i ≤ B) (hB : 0 ≤ B) : -(B * 4096) ≤ i * sz s ∧ i * sz s ≤ B * 4096 := by
  have h4 := (sz_most h).2.2.2
  have hp := sz_pos s
  have a1 : i * sz s ≤ B * sz s := Int.mul_le_mul_of_nonneg_right h1 (by omega)
  have a2 : B * sz s ≤ B * 4096 := Int.mul_le_mul_of_nonneg_left h4 hB
  have a3 : (-B) * sz s ≤ i * sz s := Int.mul_le_mul_of_nonneg_right h0 (by omega)
  rw [Int.neg_mul] at a3
  omega
theorem units_eq {s i : Int} (h : rt s = true) (h0 : -1099511627777 ≤ i) (h1 : i ≤ 1099511627777) : unitsV s i = i * sz s := by
  have := mul_sz_bound h 1099511627777 h0 h1 (by omega)
  unfold unitsV
  rw [if_pos h, w64 (by omega) (by omega)]
/-- the document's way to say that a schema has an index -/
theorem in_ref (s i : Int) : inB s i = (rt s && (decide (-262144 < i) && (decide (i ≤ 262144) && (decide (-262144 < unitsV s i) && decide (unitsV s i ≤ 262144))))) := by
  cases h : rt s with
  | false => simp [inB, h]
  | true =>
    by_cases hb : -262144 < i ∧ i ≤ 262144
    · rw [units_eq h (by omega) (by omega)]
      have hm := (sz_most h).1
      have hp := sz_pos s
      rw [Bool.eq_iff_iff]
      simp only [inB, h, Bool.true_and, hb.1, hb.2, decide_true, Bool.and_eq_true, decide_eq_true_eq]
      constructor
      · intro ⟨h1, h2⟩
        have a1 := Int.mul_lt_mul_of_pos_right (show -(most s) < i by omega) hp
        have a2 := Int.mul_le_mul_of_nonneg_right h2 (Int.le_of_lt hp)
        rw [Int.neg_mul] at a1
        omega
      · intro ⟨h1, h2⟩
        have a1 := Int.lt_of_mul_lt_mul_right (a := sz s) (b := -(most s)) (c := i) (by rw [Int.neg_mul]; omega) (by omega)
        have a2 : i ≤ most s := Int.le_of_mul_le_mul_right (show i * sz s ≤ most s * sz s by omega) hp
        omega
    · have := most_le s
      have e1 : inB s i = false := by
        simp only [inB, h, Bool.true_and, Bool.and_eq_false_iff, decide_eq_false_iff_not]
        omega
      rw [e1]
      symm
      by_cases h1 : -262144 < i
      · have h2 : ¬ i ≤ 262144 := fun h2 => hb ⟨h1, h2⟩
        simp [h2]
      · simp [h1]
end Go.Proofs.Ytcdjcbjincecpaa.Mth
