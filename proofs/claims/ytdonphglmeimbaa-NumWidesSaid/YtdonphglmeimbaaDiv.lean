/- Arithmetic of a long division by two digits: a lemma text without any function of the program; no condition but what each lemma states. -/
import Derived.Test.YtdonphglmeimbaaMth
import Derived.Lib.ItoaNum
namespace Go.Proofs.Ytdonphglmeimbaa.Mth
open Go.RowKit Go.Proofs.YtdonphglmeimbaaW.PrintWords Go.Proofs.YtdonphglmeimbaaW.PrintLast Go.Proofs.YtdonphglmeimbaaW.PrintMore

/-- a digit's setting: the divisor Y of two digits a, b (a with its top bit), U less than Y, the next digit d -/
structure Dg (Y a b U d : Int) : Prop where
  y : Y = a * 4294967296 + b
  b0 : 0 ≤ b
  b1 : b ≤ 4294967295
  a0 : 2147483648 ≤ a
  a1 : a ≤ 4294967295
  u0 : 0 ≤ U
  u1 : U < Y
  d0 : 0 ≤ d
  d1 : d ≤ 4294967295
namespace Dg
variable {Y a b U d : Int}
theorem ypos (h : Dg Y a b U d) : 0 < Y := by have := h.y; have := h.b0; have := h.a0; omega
theorem ymax (h : Dg Y a b U d) : Y ≤ 18446744073709551615 := by have := h.y; have := h.b1; have := h.a1; omega
theorem q_lt (h : Dg Y a b U d) : 0 ≤ (U * 4294967296 + d) / Y ∧ (U * 4294967296 + d) / Y < 4294967296 := by
  have hp := h.ypos
  have := h.u0; have := h.u1; have := h.d0; have := h.d1
  refine ⟨Int.ediv_nonneg (by omega) (by omega), ?_⟩
  exact Int.ediv_lt_of_lt_mul hp (by omega)
theorem mulY (h : Dg Y a b U d) (q : Int) : q * Y = q * a * 4294967296 + q * b := by
  rw [h.y, Int.mul_add, Int.mul_assoc]
theorem over (h : Dg Y a b U d) {q r : Int} (e : q * a + r = U) (ht : 4294967296 ≤ q ∨ 4294967296 * r + d < q * b) : (U * 4294967296 + d) / Y < q := by
  have hp := h.ypos
  rcases ht with ht | ht
  · have := h.q_lt; omega
  · refine Int.ediv_lt_of_lt_mul hp ?_
    rw [h.mulY q]; omega
theorem done (h : Dg Y a b U d) {q r : Int} (e : q * a + r = U) (ht : q * b ≤ 4294967296 * r + d) : q ≤ (U * 4294967296 + d) / Y := by
  refine Int.le_ediv_of_mul_le h.ypos ?_
  rw [h.mulY q]; omega
theorem init (h : Dg Y a b U d) : (U * 4294967296 + d) / Y ≤ U / a ∧ U / a ≤ 4294967297 ∧ U / a * a + U % a = U ∧ 0 ≤ U % a ∧ U % a < 4294967296 ∧ 0 ≤ U / a := by
  have ha : 0 < a := by have := h.a0; omega
  have hp := h.ypos
  have e := Int.ediv_mul_add_emod U a
  have m0 := Int.emod_nonneg U (Int.ne_of_gt ha)
  have m1 := Int.emod_lt_of_pos U ha
  have := h.a1; have := h.a0; have := h.u1; have := h.y; have := h.b1; have := h.b0; have := h.d1; have := h.d0; have := h.u0
  have q0 : 0 ≤ U / a := Int.ediv_nonneg (by omega) (by omega)
  refine ⟨?_, ?_, e, m0, by omega, q0⟩
  · have : (U * 4294967296 + d) / Y < U / a + 1 := by
      refine Int.ediv_lt_of_lt_mul hp ?_
      rw [h.mulY (U / a + 1)]
      have e1 : (U / a + 1) * a = U / a * a + a := by rw [Int.add_mul, Int.one_mul]
      have e2 : 0 ≤ (U / a + 1) * b := Int.mul_nonneg (by omega) (by omega)
      rw [e1]; omega
    omega
  · have : U / a < 4294967298 := by
      refine Int.ediv_lt_of_lt_mul ha ?_
      omega
    omega
theorem qb_bound (h : Dg Y a b U d) {q : Int} (q0 : 0 ≤ q) (q1 : q ≤ 4294967297) : 0 ≤ q * b ∧ q * b ≤ 18446744073709551615 := by
  have := h.b0; have := h.b1
  have e1 : q * b ≤ 4294967297 * b := Int.mul_le_mul_of_nonneg_right q1 (by omega)
  exact ⟨Int.mul_nonneg q0 (by omega), by omega⟩
/-- behind a step down with a rest that is too great for a digit: the quotient is met -/
theorem stop (h : Dg Y a b U d) {q r : Int} (e : q * a + r = U) (q1 : q ≤ 4294967296) (hr : 4294967296 ≤ r) : q ≤ (U * 4294967296 + d) / Y := by
  have := h.b0; have := h.b1; have := h.d0
  have e1 : q * b ≤ 4294967296 * b := Int.mul_le_mul_of_nonneg_right q1 (by omega)
  exact h.done e (by omega)
theorem step (q r : Int) (e : q * a + r = U) : (q - 1) * a + (r + a) = U := by
  rw [Int.sub_mul, Int.one_mul]; omega
theorem rest (h : Dg Y a b U d) : U * 4294967296 + d - (U * 4294967296 + d) / Y * Y = (U * 4294967296 + d) % Y ∧ 0 ≤ (U * 4294967296 + d) % Y ∧ (U * 4294967296 + d) % Y < Y := by
  have hp := h.ypos
  have e := Int.ediv_mul_add_emod (U * 4294967296 + d) Y
  exact ⟨by omega, Int.emod_nonneg _ (Int.ne_of_gt hp), Int.emod_lt_of_pos _ hp⟩
end Dg
/-- two digits' quotient and rest, one behind the other -/
theorem two_digits (U d1 d0 Y : Int) (hY : 0 < Y) :
    (U * 4294967296 + d1) / Y * 4294967296 + ((U * 4294967296 + d1) % Y * 4294967296 + d0) / Y = (U * 18446744073709551616 + d1 * 4294967296 + d0) / Y ∧
    ((U * 4294967296 + d1) % Y * 4294967296 + d0) % Y = (U * 18446744073709551616 + d1 * 4294967296 + d0) % Y := by
  generalize hV : U * 4294967296 + d1 = V
  have e1 := Int.ediv_mul_add_emod V Y
  have eN : U * 18446744073709551616 + d1 * 4294967296 + d0 = V / Y * 4294967296 * Y + (V % Y * 4294967296 + d0) := by
    have : V / Y * 4294967296 * Y = V / Y * Y * 4294967296 := by rw [Int.mul_assoc, Int.mul_comm 4294967296, ← Int.mul_assoc]
    rw [this]; omega
  rw [eN]
  constructor
  · rw [Int.add_comm (V / Y * 4294967296 * Y), Int.add_mul_ediv_right _ _ (Int.ne_of_gt hY)]; omega
  · rw [Int.add_comm (V / Y * 4294967296 * Y), Int.add_mul_emod_self_right]
/-- '|' of bits that have none in common -/
theorem or_add_u64 {A B : Int} {n : Nat} (hA : 0 ≤ A) (hB : 0 ≤ B) (hB2 : B < 2 ^ n) (hs : A * 2 ^ n + B ≤ 18446744073709551615) : Go.bits .or .u64 (A * 2 ^ n) B = A * 2 ^ n + B := by
  obtain ⟨a, rfl⟩ := Int.eq_ofNat_of_zero_le hA
  obtain ⟨b, rfl⟩ := Int.eq_ofNat_of_zero_le hB
  have hb : b < 2 ^ n := by exact_mod_cast hB2
  have hN : ((a * 2 ^ n : Nat) : Int) = (a : Int) * 2 ^ n := by push_cast; rfl
  show IntKind.u64.wrap ((BitVec.ofInt 64 ((a : Int) * 2 ^ n) ||| BitVec.ofInt 64 (b : Int)).toNat : Int) = _
  rw [← hN] at hs ⊢
  obtain ⟨c, hc⟩ : ∃ c, a * 2 ^ n = c := ⟨_, rfl⟩
  have t1 : (BitVec.ofInt 64 ((a * 2 ^ n : Nat) : Int)).toNat = a * 2 ^ n := by
    have h := ofInt_toNat 64 ((a * 2 ^ n : Nat) : Int)
    rw [hc] at h hs ⊢
    omega
  have t2 : (BitVec.ofInt 64 (b : Int)).toNat = b := by
    have h := ofInt_toNat 64 (b : Int)
    rw [hc] at hs
    omega
  rw [BitVec.toNat_or, t1, t2, ← Nat.shiftLeft_eq, ← Nat.shiftLeft_add_eq_or_of_lt hb, Nat.shiftLeft_eq, wu64]
  rw [hc] at hs ⊢
  omega
end Go.Proofs.Ytdonphglmeimbaa.Mth
