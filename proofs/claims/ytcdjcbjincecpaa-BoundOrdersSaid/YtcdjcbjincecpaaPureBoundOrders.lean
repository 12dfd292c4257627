/- What BoundOrders computes is true for every input: buckets of one schema lie side by side. It holds for all whole numbers of its parameters, no condition. -/
import Derived.Test.YtcdjcbjincecpaaQBoundOrdersx3
import Derived.Test.YtcdjcbjincecpaaMthB
namespace Go.Proofs.Ytcdjcbjincecpaa.Pure.LBoundOrders
open Go.RowKit Go.Proofs.Ytcdjcbjincecpaa.QBoundOrders Go.Proofs.YtcdjcbjincecpaaW.PrintWords Go.Proofs.YtcdjcbjincecpaaW.PrintLast Go.Proofs.YtcdjcbjincecpaaW.PrintMore Mth
theorem right_val (s : Int) : bound_Right.f s = some (rt s) := by
  unfold bound_Right.f rt
  by_cases h : s ≥ -4
  · rw [if_pos h]; simp [show -4 ≤ s from h]
  · rw [if_neg h]; simp [show ¬ -4 ≤ s from h]
theorem shift_val {s : Int} (h : rt s = true) : bound_shift.f s = some (8 - s) := by
  unfold bound_shift.f
  have := rt_iff.1 h
  rw [w64 (by omega) (by omega), wu64]; congr 1; omega
theorem most_val (s : Int) : bound_Most.f s = some (most s) := by
  unfold bound_Most.f
  rw [right_val, Option.bind_some]
  by_cases h : rt s = true
  · have := rt_iff.1 h
    rw [if_pos h, shift_val h, Option.bind_some, if_pos (by omega), shr_eq (by omega)]
    unfold most sz; rw [if_pos h]
  · rw [if_neg h]; unfold most; rw [if_neg h]
theorem least_val (s : Int) : bound_Least.f s = some (1 - most s) := by
  unfold bound_Least.f
  have := most_le s
  rw [most_val, Option.bind_some, w64 (x := -most s) (by omega) (by omega), w64 (by omega) (by omega)]; congr 1; omega
theorem in_val (s i : Int) : bound_In.f s i = some (inB s i) := by
  unfold bound_In.f inB
  rw [right_val, Option.bind_some]
  by_cases h : rt s = true
  · rw [if_pos h, least_val, Option.bind_some]
    by_cases h2 : i ≥ 1 - most s
    · rw [if_pos h2, most_val, Option.bind_some, h]; simp [show 1 - most s ≤ i from h2]
    · rw [if_neg h2]; simp [show ¬ 1 - most s ≤ i from h2]
  · rw [if_neg h, rt_neg h]; rfl
theorem units_val (s i : Int) : bound_Units.f s i = some (unitsV s i) := by
  unfold bound_Units.f unitsV
  rw [right_val, Option.bind_some]
  by_cases h : rt s = true
  · have := rt_iff.1 h
    rw [if_pos h, if_pos h, shift_val h, Option.bind_some, if_pos (by omega)]
    unfold shl sz
    rw [Nat.min_eq_left (by show (8 - s).toNat ≤ 64; omega), wi64]
  · rw [if_neg h, if_neg h]
theorem low_val (s i : Int) : bound_Low.f s i = some (unitsV s (wrap64 (i - 1))) := by
  unfold bound_Low.f
  rw [units_val, Option.bind_some]
theorem num_up {x k : Int} (hk0 : 0 ≤ k) (hk : k ≤ 64) (h0 : -4611686018427387904 ≤ x) (h1 : x ≤ 4611686018427387904) : num_Up.f x k = some (upq x k.toNat) := by
  unfold num_Up.f; rw [if_pos hk0, up_val hk h0 h1]
theorem to_val {f t i : Int} (hf : -9223372036854775808 ≤ f ∧ f ≤ 9223372036854775807) (k : Nat) : bound_To.f (k + 1) f t i = some (toV f t i) := by
  unfold bound_To.f toV
  rw [right_val, right_val, Option.bind_some]
  by_cases h1 : rt f = true
  · rw [if_pos h1, Option.bind_some]
    by_cases h2 : rt t = true
    · rw [if_pos h2]
      simp only [bound_To.j0]
      have b1 := rt_iff.1 h1
      have b2 := rt_iff.1 h2
      by_cases h3 : t ≤ f
      · rw [if_neg (by simpa using h3), if_pos ⟨h1, h2, h3⟩, in_val, Option.bind_some]
        by_cases h4 : inB f i = true
        · have := in_bounds h4
          rw [if_pos h4, if_pos h4, w64 (x := f - t) (by omega) (by omega), wu64, show (f - t) % 18446744073709551616 = f - t from by omega, num_up (by omega) (by omega) (by omega) (by omega), Option.bind_some]
        · rw [if_neg h4, if_neg h4]
      · rw [if_pos (by simpa using h3), if_neg (by simp [h3])]
    · rw [if_neg h2, if_neg (by simp [h2])]; simp [bound_To.j0]
  · rw [if_neg h1, if_neg (by simp [h1])]; simp [bound_To.j0]
theorem awake_val (k : Nat) : pluviallaw04_awake.f (k + 1) = some true := by
  unfold pluviallaw04_awake.f
  rw [to_val (by omega), to_val (by omega), units_val]
  decide +kernel
theorem of_val {s u : Int} (hs : -9223372036854775808 ≤ s ∧ s ≤ 9223372036854775807) (k : Nat) : bound_Of.f (k + 1) s u = some (ofV s u) := by
  unfold bound_Of.f ofV
  rw [right_val, Option.bind_some]
  by_cases h1 : rt s = true
  · have b1 := rt_iff.1 h1
    rw [if_pos h1]
    by_cases h2 : u ≤ -262144
    · rw [if_pos h2, if_neg (by omega)]; simp [bound_Of.j0]
    · rw [if_neg h2]
      simp only [bound_Of.j0]
      by_cases h3 : u > 262144
      · rw [if_pos (by simpa using h3), if_neg (by omega)]
      · rw [if_neg (by simpa using h3), if_pos ⟨h1, by omega, by omega⟩, shift_val h1, Option.bind_some, num_up (by omega) (by omega) (by omega) (by omega), Option.bind_some]
  · rw [if_neg h1, if_neg (by simp [h1])]; simp [bound_Of.j0]
theorem whole_val (s u : Int) : bound_Whole.f s u = some (rt s && decide (u % sz s = 0)) := by
  unfold bound_Whole.f
  rw [right_val, Option.bind_some]
  by_cases h : rt s = true
  · have b := rt_iff.1 h
    rw [if_pos h, shift_val h, Option.bind_some, if_pos (by omega), h, Bool.true_and]
    have e : shl .i64 1 (8 - s) = sz s := by
      have := sz_most h
      have hp := sz_pos s
      unfold shl
      rw [Nat.min_eq_left (by show (8 - s).toNat ≤ 64; omega), wi64, Int.one_mul]
      exact w64 (by have : (2 : Int) ^ (8 - s).toNat = sz s := rfl; omega) (by have : (2 : Int) ^ (8 - s).toNat = sz s := rfl; omega)
    have := sz_most h
    have hp := sz_pos s
    rw [e, w64 (by omega) (by omega)]
    have hn : (8 - s).toNat < 63 := by omega
    have := mask_low u hn
    unfold sz
    rw [this]
    congr 1
  · rw [if_neg h, rt_neg h]; rfl
theorem of_in {s u : Int} (h : rt s = true) (h0 : -262144 < u) (h1 : u ≤ 262144) : inB s (upq u (8 - s).toNat) = true := by
  obtain ⟨c, hc⟩ : ∃ c, upq u (8 - s).toNat = c := ⟨_, rfl⟩
  have hi := (upq_iff u c _).1 hc
  have hm := sz_most h
  have hp := sz_pos s
  rw [hc]
  rw [show (2 : Int) ^ (8 - s).toNat = sz s from rfl] at hi
  have a1 : -(most s) < c := Int.lt_of_mul_lt_mul_right (a := sz s) (by rw [Int.neg_mul]; omega) (by omega)
  have a2 : c - 1 < most s := Int.lt_of_mul_lt_mul_right (a := sz s) (by omega) (by omega)
  simp only [inB, h, Bool.true_and, Bool.and_eq_true, decide_eq_true_eq]; omega
theorem has_fine {s t i : Int} (hs : rt s = true) (ht : rt t = true) (h : t ≤ s) (hi : inB s i = true) : bound_Has.f 0 t (upq i (s - t).toNat) 0 s i = some true := by
  have hk := in_up hs ht h hi
  obtain ⟨k, hkk⟩ : ∃ k, upq i (s - t).toNat = k := ⟨_, rfl⟩
  have hu := (upq_iff i k _).1 hkk
  rw [hkk] at hk ⊢
  have b1 := in_bounds hi
  have b2 := in_bounds hk
  have hsz := sz_step (rt_iff.1 hs).2 h
  have hp := sz_pos s
  obtain ⟨P, hP⟩ : ∃ P : Int, (2 : Int) ^ (s - t).toNat = P := ⟨_, rfl⟩
  rw [hP] at hu hsz
  unfold bound_Has.f
  rw [if_pos rfl, in_val, in_val, hk, hi]
  simp only [Option.bind_some, if_true]
  rw [low_val, low_val, units_val, units_val, w64 (x := k - 1) (by omega) (by omega), w64 (x := i - 1) (by omega) (by omega)]
  simp only [Option.bind_some]
  rw [units_eq ht (by omega) (by omega), units_eq ht (by omega) (by omega), units_eq hs (by omega) (by omega), units_eq hs (by omega) (by omega), hsz]
  have m1 : (k - 1) * P * sz s ≤ (i - 1) * sz s := Int.mul_le_mul_of_nonneg_right (by omega) (by omega)
  have m2 : i * sz s ≤ k * P * sz s := Int.mul_le_mul_of_nonneg_right (by omega) (by omega)
  have e1 : (k - 1) * (sz s * P) = (k - 1) * P * sz s := by rw [Int.mul_comm (sz s), Int.mul_assoc]
  have e2 : k * (sz s * P) = k * P * sz s := by rw [Int.mul_comm (sz s), Int.mul_assoc]
  rw [e1, e2, if_pos m1, decide_eq_true m2]
set_option maxHeartbeats 1000000 in
theorem main : pluviallaw04_BoundOrders.Pure := by
  intro s t u h0 h1 h2
  have b0 := wf_i8 h0
  have b1 := wf_i8 h1
  have b2 := wf_i32 h2
  refine ⟨5, ?_⟩
  unfold pluviallaw04_BoundOrders.f
  rw [w64 (x := s) (by omega) (by omega), w64 (x := t) (by omega) (by omega), w64 (x := u) (by omega) (by omega), of_val (by omega)]
  simp only [Option.bind_some]
  by_cases hA : rt s = true ∧ -262144 < u ∧ u ≤ 262144
  · have eA : ofV s u = (upq u (8 - s).toNat, true) := by unfold ofV; rw [if_pos hA]
    obtain ⟨hs, hu0, hu1⟩ := hA
    have hin := of_in hs hu0 hu1
    obtain ⟨i, hi⟩ : ∃ i, upq u (8 - s).toNat = i := ⟨_, rfl⟩
    have hc := (upq_iff u i _).1 hi
    rw [show (2 : Int) ^ (8 - s).toNat = sz s from rfl] at hc
    rw [eA]
    rw [hi] at hin ⊢
    have bi := in_bounds hin
    simp only [if_true]
    rw [low_val, units_val, low_val, w64 (x := i - 1) (by omega) (by omega), w64 (x := i + 1) (by omega) (by omega), w64 (x := i + 1 - 1) (by omega) (by omega), show i + 1 - 1 = i from by omega, in_val, hin]
    simp only [Option.bind_some, if_true, Bool.not_true]
    rw [units_eq hs (by omega) (by omega), units_eq hs (by omega) (by omega), if_neg (by omega), if_neg (by omega)]
    simp only [pluviallaw04_BoundOrders.j0, Bool.false_eq_true, if_false]
    rw [of_val (by omega)]
    simp only [Option.bind_some]
    by_cases hB : rt t = true ∧ -262144 < u ∧ u ≤ 262144
    · have eB : ofV t u = (upq u (8 - t).toNat, true) := by unfold ofV; rw [if_pos hB]
      have ht := hB.1
      rw [eB]
      simp only [if_true]
      by_cases hts : t > s
      · rw [decide_eq_true hts]
        simp only [pluviallaw04_BoundOrders.j1, if_true, awake_val, Option.bind_some]
      · have hle : t ≤ s := by omega
        have rs := rt_iff.1 hs
        rw [decide_eq_false hts]
        simp only [pluviallaw04_BoundOrders.j1, Bool.false_eq_true, if_false]
        have eT : toV s t i = (upq i (s - t).toNat, 0) := by unfold toV; rw [if_pos ⟨hs, ht, hle⟩, if_pos hin]
        have eu : upq i (s - t).toNat = upq u (8 - t).toNat := by
          rw [← hi, up_up]; congr 1; omega
        have hh := has_fine hs ht hle hin
        rw [eu] at hh eT
        rw [to_val (by omega), eT, awake_val, hh, whole_val, whole_val]
        simp only [Option.bind_some, if_true, hs, ht, Bool.true_and]
        by_cases hw : u % sz t = 0
        · rw [if_pos (decide_eq_true hw)]
          have hd : sz s ∣ u := Int.dvd_trans ⟨_, sz_step rs.2 hle⟩ (Int.dvd_of_emod_eq_zero hw)
          rw [decide_eq_true (Int.emod_eq_zero_of_dvd hd)]
        · rw [if_neg (by simpa using hw)]
    · have eB : ofV t u = (0, false) := by unfold ofV; rw [if_neg hB]
      rw [eB]
      simp only [Bool.false_eq_true, if_false, pluviallaw04_BoundOrders.j1, if_true, awake_val, Option.bind_some]
  · have eA : ofV s u = (0, false) := by unfold ofV; rw [if_neg hA]
    rw [eA, awake_val, right_val]
    simp only [Bool.false_eq_true, if_false, if_true, Option.bind_some]
    by_cases hs : rt s = true
    · rw [if_pos hs]
      by_cases hu : u ≤ -262144
      · rw [if_pos hu]
      · rw [if_neg hu, decide_eq_true]
        by_cases hu2 : u ≤ 262144
        · exact absurd ⟨hs, by omega, hu2⟩ hA
        · omega
    · rw [if_neg hs]
end Go.Proofs.Ytcdjcbjincecpaa.Pure.LBoundOrders
namespace Go.Proofs.Ytcdjcbjincecpaa.Pure
theorem BoundOrders : Go.Proofs.Ytcdjcbjincecpaa.QBoundOrders.pluviallaw04_BoundOrders.Pure := LBoundOrders.main
end Go.Proofs.Ytcdjcbjincecpaa.Pure
