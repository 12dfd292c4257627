/- What BoundSteps computes is true for every input: by two steps to a coarser schema as by one; whole numbers of its kinds, no condition. -/
import Derived.Test.YtcdjcbjincecpaaPBoundStepsx1
import Derived.Test.YtcdjcbjincecpaaMthB
namespace Go.Proofs.Ytcdjcbjincecpaa.Pure.LBoundSteps
open Go.RowKit Go.Proofs.Ytcdjcbjincecpaa.PBoundSteps Go.Proofs.YtcdjcbjincecpaaW.PrintWords Go.Proofs.YtcdjcbjincecpaaW.PrintLast Go.Proofs.YtcdjcbjincecpaaW.PrintMore Mth
theorem right_val (s : Int) : bound_Right.f s = some (rt s) := by
  unfold bound_Right.f rt
  by_cases h : s ≥ -4
  · rw [if_pos h]; simp [show -4 ≤ s from h]
  · rw [if_neg h]; simp [show ¬ -4 ≤ s from h]
theorem shift_val {s : Int} (h : rt s = true) : bound_shift.f s = some (8 - s) := by
  unfold bound_shift.f
  have := rt_iff.1 h
  rw [w64 (by omega) (by omega), wu64]; congr 1; omega
theorem most_val (s : Int) : bound_Most.f s = some (most s) := by
  unfold bound_Most.f
  rw [right_val, Option.bind_some]
  by_cases h : rt s = true
  · have := rt_iff.1 h
    rw [if_pos h, shift_val h, Option.bind_some, if_pos (by omega), shr_eq (by omega)]
    unfold most sz; rw [if_pos h]
  · rw [if_neg h]; unfold most; rw [if_neg h]
theorem least_val (s : Int) : bound_Least.f s = some (1 - most s) := by
  unfold bound_Least.f
  have := most_le s
  rw [most_val, Option.bind_some, w64 (x := -most s) (by omega) (by omega), w64 (by omega) (by omega)]; congr 1; omega
theorem in_val (s i : Int) : bound_In.f s i = some (inB s i) := by
  unfold bound_In.f inB
  rw [right_val, Option.bind_some]
  by_cases h : rt s = true
  · rw [if_pos h, least_val, Option.bind_some]
    by_cases h2 : i ≥ 1 - most s
    · rw [if_pos h2, most_val, Option.bind_some, h]; simp [show 1 - most s ≤ i from h2]
    · rw [if_neg h2]; simp [show ¬ 1 - most s ≤ i from h2]
  · rw [if_neg h, rt_neg h]; rfl
theorem units_val (s i : Int) : bound_Units.f s i = some (unitsV s i) := by
  unfold bound_Units.f unitsV
  rw [right_val, Option.bind_some]
  by_cases h : rt s = true
  · have := rt_iff.1 h
    rw [if_pos h, if_pos h, shift_val h, Option.bind_some, if_pos (by omega)]
    unfold shl sz
    rw [Nat.min_eq_left (by show (8 - s).toNat ≤ 64; omega), wi64]
  · rw [if_neg h, if_neg h]
theorem low_val (s i : Int) : bound_Low.f s i = some (unitsV s (wrap64 (i - 1))) := by
  unfold bound_Low.f
  rw [units_val, Option.bind_some]
theorem num_up {x k : Int} (hk0 : 0 ≤ k) (hk : k ≤ 64) (h0 : -4611686018427387904 ≤ x) (h1 : x ≤ 4611686018427387904) : num_Up.f x k = some (upq x k.toNat) := by
  unfold num_Up.f; rw [if_pos hk0, up_val hk h0 h1]
theorem to_val {f t i : Int} (hf : -9223372036854775808 ≤ f ∧ f ≤ 9223372036854775807) (k : Nat) : bound_To.f (k + 1) f t i = some (toV f t i) := by
  unfold bound_To.f toV
  rw [right_val, right_val, Option.bind_some]
  by_cases h1 : rt f = true
  · rw [if_pos h1, Option.bind_some]
    by_cases h2 : rt t = true
    · rw [if_pos h2]
      simp only [bound_To.j0]
      have b1 := rt_iff.1 h1
      have b2 := rt_iff.1 h2
      by_cases h3 : t ≤ f
      · rw [if_neg (by simpa using h3), if_pos ⟨h1, h2, h3⟩, in_val, Option.bind_some]
        by_cases h4 : inB f i = true
        · have := in_bounds h4
          rw [if_pos h4, if_pos h4, w64 (x := f - t) (by omega) (by omega), wu64, show (f - t) % 18446744073709551616 = f - t from by omega, num_up (by omega) (by omega) (by omega) (by omega), Option.bind_some]
        · rw [if_neg h4, if_neg h4]
      · rw [if_pos (by simpa using h3), if_neg (by simp [h3])]
    · rw [if_neg h2, if_neg (by simp [h2])]; simp [bound_To.j0]
  · rw [if_neg h1, if_neg (by simp [h1])]; simp [bound_To.j0]
theorem awake_val (k : Nat) : pluviallaw04_awake.f (k + 1) = some true := by
  unfold pluviallaw04_awake.f
  rw [to_val (by omega), to_val (by omega), units_val]
  decide +kernel
theorem toV_ok {f t i : Int} (h1 : rt f = true) (h2 : rt t = true) (h3 : t ≤ f) (h4 : inB f i = true) : toV f t i = (upq i (f - t).toNat, 0) := by
  unfold toV; rw [if_pos ⟨h1, h2, h3⟩, if_pos h4]
theorem toV_no {f t i : Int} (h : ¬ (rt f = true ∧ rt t = true ∧ t ≤ f ∧ inB f i = true)) : (toV f t i).2 ≠ 0 := by
  unfold toV
  by_cases h1 : rt f = true ∧ rt t = true ∧ t ≤ f
  · rw [if_pos h1, if_neg (fun h4 => h ⟨h1.1, h1.2.1, h1.2.2, h4⟩)]; decide
  · rw [if_neg h1]; decide
set_option maxHeartbeats 1000000 in
theorem main : pluviallaw04_BoundSteps.Pure := by
  intro f m t i h0 h1 h2 h3
  have b0 := wf_i8 h0
  have b1 := wf_i8 h1
  have b2 := wf_i8 h2
  have b3 := wf_i32 h3
  refine ⟨3, ?_⟩
  unfold pluviallaw04_BoundSteps.f
  rw [w64 (x := f) (by omega) (by omega), w64 (x := m) (by omega) (by omega), w64 (x := t) (by omega) (by omega), w64 (x := i) (by omega) (by omega)]
  rw [to_val (by omega), to_val (by omega)]
  simp only [Option.bind_some]
  by_cases hA : rt f = true ∧ rt t = true ∧ t ≤ f ∧ inB f i = true
  · obtain ⟨hf, ht, htf, hi⟩ := hA
    rw [toV_ok hf ht htf hi]
    simp only [if_true]
    by_cases hB : rt f = true ∧ rt m = true ∧ m ≤ f ∧ inB f i = true
    · obtain ⟨_, hm, hmf, _⟩ := hB
      rw [toV_ok hf hm hmf hi]
      simp only [bne_self_eq_false, pluviallaw04_BoundSteps.j0, Bool.false_eq_true, if_false]
      rw [to_val (by omega)]
      simp only [Option.bind_some]
      have him := in_up hf hm hmf hi
      by_cases htm : t ≤ m
      · rw [toV_ok hm ht htm him]
        simp only [if_true]
        have bf := rt_iff.1 hf
        have bt' := rt_iff.1 ht
        have hn : IntKind.u64.wrap (wrap64 (f - t)) = f - t := by rw [w64 (by omega) (by omega), wu64]; omega
        rw [hn, if_pos (by omega), least_val]
        obtain ⟨a, ha⟩ : ∃ a, upq i (f - t).toNat = a := ⟨_, rfl⟩
        have hia := in_up hf ht htf hi
        have hst := most_step hf ht htf
        have hsz := sz_step bf.2 htf
        have hms := sz_most hf
        have hmt := sz_most ht
        rw [ha] at hia ⊢
        have ba := in_bounds hia
        obtain ⟨P, hP⟩ : ∃ P : Int, (2 : Int) ^ (f - t).toNat = P := ⟨_, rfl⟩
        have hPp : 0 < P := by rw [← hP]; exact pow_pos' _
        have hPb : P ≤ 262144 := by
          rw [hP] at hst
          have q1 : 1 * P ≤ most t * P := Int.mul_le_mul_of_nonneg_right (by omega) (by omega)
          omega
        have hPs : P ≤ 4096 := by
          rw [hP] at hst
          have q1 : 64 * P ≤ most t * P := Int.mul_le_mul_of_nonneg_right (by omega) (by omega)
          omega
        have hshl : shl .i64 1 (f - t) = P := by
          unfold shl
          rw [Nat.min_eq_left (by show (f - t).toNat ≤ 64; omega), wi64, Int.one_mul, hP]
          exact w64 (by omega) (by omega)
        rw [hshl]
        have q1 : (a - 1) * P ≤ 262144 * 4096 := by
          have z1 : (a - 1) * P ≤ 262144 * P := Int.mul_le_mul_of_nonneg_right (by omega) (by omega)
          omega
        have q2 : -(262144 * 4096) ≤ (a - 1) * P := by
          have z1 : (-262144) * P ≤ (a - 1) * P := Int.mul_le_mul_of_nonneg_right (by omega) (by omega)
          omega
        rw [w64 (x := a - 1) (by omega) (by omega), w64 (x := (a - 1) * P) (by omega) (by omega)]
        rw [w64 (x := (a - 1) * P + 1) (by omega) (by omega), w64 (x := (a - 1) * P + 1 + P) (by omega) (by omega)]
        rw [w64 (x := (a - 1) * P + 1 + P - 1) (by omega) (by omega)]
        have el : (a - 1) * P + 1 + P - 1 = a * P := by rw [Int.sub_mul, Int.one_mul]; omega
        rw [el]
        -- the first finer bucket and the last one
        rw [hP] at hst hsz
        have r1 : 1 - most f ≤ (a - 1) * P + 1 := by
          have z1 : (-(most t)) * P ≤ (a - 1) * P := Int.mul_le_mul_of_nonneg_right (by omega) (by omega)
          rw [Int.neg_mul] at z1; omega
        have r2 : a * P ≤ most f := by
          rw [hst]; exact Int.mul_le_mul_of_nonneg_right (by omega) (by omega)
        have r3 : (a - 1) * P + 1 ≤ a * P := by rw [← el]; omega
        have emx : mx ((a - 1) * P + 1) (1 - most f) = (a - 1) * P + 1 := by unfold mx; rw [if_neg (by omega)]
        have emn : mn (a * P) (most f) = a * P := by unfold mn; split <;> omega
        rw [Option.bind_some, emx, most_val, to_val (by omega)]
        simp only [Option.bind_some]
        rw [emn, to_val (by omega), awake_val]
        simp only [Option.bind_some]
        have i1 : inB f ((a - 1) * P + 1) = true := by
          simp only [inB, hf, Bool.true_and, Bool.and_eq_true, decide_eq_true_eq]; omega
        have i2 : inB f (a * P) = true := by
          simp only [inB, hf, Bool.true_and, Bool.and_eq_true, decide_eq_true_eq]; omega
        have e1 : upq ((a - 1) * P + 1) (f - t).toNat = a := by rw [upq_iff, hP]; omega
        have e2 : upq (a * P) (f - t).toNat = a := by rw [upq_iff, hP]; omega
        have e3 : upq (upq i (f - m).toNat) (m - t).toNat = a := by
          have := rt_iff.1 hm
          rw [up_up, show (f - m).toNat + (m - t).toNat = (f - t).toNat from by omega, ha]
        rw [toV_ok hf ht htf i1, toV_ok hf ht htf i2, e1, e2, e3]
        simp only [if_true]
        rw [low_val, low_val, units_val, units_val]
        simp only [Option.bind_some]
        rw [w64 (x := (a - 1) * P + 1 - 1) (by omega) (by omega), w64 (x := a - 1) (by omega) (by omega)]
        rw [units_eq hf (by omega) (by omega), units_eq ht (by omega) (by omega), units_eq hf (by omega) (by omega), units_eq ht (by omega) (by omega), hsz]
        have s1 : ((a - 1) * P + 1 - 1) * sz f = (a - 1) * (sz f * P) := by
          rw [show (a - 1) * P + 1 - 1 = (a - 1) * P from by omega, Int.mul_comm (sz f), Int.mul_assoc]
        have s2 : a * P * sz f = a * (sz f * P) := by rw [Int.mul_comm (sz f), Int.mul_assoc]
        rw [s1, s2]
        simp
      · have hne := toV_no (f := m) (t := t) (i := upq i (f - m).toNat) (fun h => htm h.2.2.1)
        rw [if_neg hne, awake_val]
        simp only [Option.bind_some, if_true]
        rw [decide_eq_true (by omega)]
    · have hne := toV_no hB
      rw [show ((toV f m i).2 != 0) = true from by simp [hne]]
      simp only [pluviallaw04_BoundSteps.j0, if_true, awake_val, Option.bind_some]
  · have hne := toV_no hA
    rw [if_neg hne]
    simp only [pluviallaw04_BoundSteps.j0, if_true, awake_val, Option.bind_some]
end Go.Proofs.Ytcdjcbjincecpaa.Pure.LBoundSteps
namespace Go.Proofs.Ytcdjcbjincecpaa.Pure
theorem BoundSteps : Go.Proofs.Ytcdjcbjincecpaa.PBoundSteps.pluviallaw04_BoundSteps.Pure := LBoundSteps.main
end Go.Proofs.Ytcdjcbjincecpaa.Pure
