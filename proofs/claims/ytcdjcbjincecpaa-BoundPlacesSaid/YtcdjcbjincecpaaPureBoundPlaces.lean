/- What BoundPlaces computes is true for every input: where buckets begin and end is what the document says. It holds for all whole numbers of its parameters, no condition. -/
import Derived.Test.YtcdjcbjincecpaaQBoundPlacesx3
import Derived.Test.YtcdjcbjincecpaaMthB
namespace Go.Proofs.Ytcdjcbjincecpaa.Pure.LBoundPlaces
open Go.RowKit Go.Proofs.Ytcdjcbjincecpaa.QBoundPlaces Go.Proofs.YtcdjcbjincecpaaW.PrintWords Go.Proofs.YtcdjcbjincecpaaW.PrintLast Go.Proofs.YtcdjcbjincecpaaW.PrintMore Mth
theorem right_val (s : Int) : bound_Right.f s = some (rt s) := by
  unfold bound_Right.f rt
  by_cases h : s ≥ -4
  · rw [if_pos h]; simp [show -4 ≤ s from h]
  · rw [if_neg h]; simp [show ¬ -4 ≤ s from h]
theorem shift_val {s : Int} (h : rt s = true) : bound_shift.f s = some (8 - s) := by
  unfold bound_shift.f
  have := rt_iff.1 h
  rw [w64 (by omega) (by omega), wu64]; congr 1; omega
theorem most_val (s : Int) : bound_Most.f s = some (most s) := by
  unfold bound_Most.f
  rw [right_val, Option.bind_some]
  by_cases h : rt s = true
  · have := rt_iff.1 h
    rw [if_pos h, shift_val h, Option.bind_some, if_pos (by omega), shr_eq (by omega)]
    unfold most sz; rw [if_pos h]
  · rw [if_neg h]; unfold most; rw [if_neg h]
theorem least_val (s : Int) : bound_Least.f s = some (1 - most s) := by
  unfold bound_Least.f
  have := most_le s
  rw [most_val, Option.bind_some, w64 (x := -most s) (by omega) (by omega), w64 (by omega) (by omega)]; congr 1; omega
theorem in_val (s i : Int) : bound_In.f s i = some (inB s i) := by
  unfold bound_In.f inB
  rw [right_val, Option.bind_some]
  by_cases h : rt s = true
  · rw [if_pos h, least_val, Option.bind_some]
    by_cases h2 : i ≥ 1 - most s
    · rw [if_pos h2, most_val, Option.bind_some, h]; simp [show 1 - most s ≤ i from h2]
    · rw [if_neg h2]; simp [show ¬ 1 - most s ≤ i from h2]
  · rw [if_neg h, rt_neg h]; rfl
theorem units_val (s i : Int) : bound_Units.f s i = some (unitsV s i) := by
  unfold bound_Units.f unitsV
  rw [right_val, Option.bind_some]
  by_cases h : rt s = true
  · have := rt_iff.1 h
    rw [if_pos h, if_pos h, shift_val h, Option.bind_some, if_pos (by omega)]
    unfold shl sz
    rw [Nat.min_eq_left (by show (8 - s).toNat ≤ 64; omega), wi64]
  · rw [if_neg h, if_neg h]
theorem low_val (s i : Int) : bound_Low.f s i = some (unitsV s (wrap64 (i - 1))) := by
  unfold bound_Low.f
  rw [units_val, Option.bind_some]
theorem num_up {x k : Int} (hk0 : 0 ≤ k) (hk : k ≤ 64) (h0 : -4611686018427387904 ≤ x) (h1 : x ≤ 4611686018427387904) : num_Up.f x k = some (upq x k.toNat) := by
  unfold num_Up.f; rw [if_pos hk0, up_val hk h0 h1]
theorem to_val {f t i : Int} (hf : -9223372036854775808 ≤ f ∧ f ≤ 9223372036854775807) (k : Nat) : bound_To.f (k + 1) f t i = some (toV f t i) := by
  unfold bound_To.f toV
  rw [right_val, right_val, Option.bind_some]
  by_cases h1 : rt f = true
  · rw [if_pos h1, Option.bind_some]
    by_cases h2 : rt t = true
    · rw [if_pos h2]
      simp only [bound_To.j0]
      have b1 := rt_iff.1 h1
      have b2 := rt_iff.1 h2
      by_cases h3 : t ≤ f
      · rw [if_neg (by simpa using h3), if_pos ⟨h1, h2, h3⟩, in_val, Option.bind_some]
        by_cases h4 : inB f i = true
        · have := in_bounds h4
          rw [if_pos h4, if_pos h4, w64 (x := f - t) (by omega) (by omega), wu64, show (f - t) % 18446744073709551616 = f - t from by omega, num_up (by omega) (by omega) (by omega) (by omega), Option.bind_some]
        · rw [if_neg h4, if_neg h4]
      · rw [if_pos (by simpa using h3), if_neg (by simp [h3])]
    · rw [if_neg h2, if_neg (by simp [h2])]; simp [bound_To.j0]
  · rw [if_neg h1, if_neg (by simp [h1])]; simp [bound_To.j0]
theorem awake_val (k : Nat) : pluviallaw04_awake.f (k + 1) = some true := by
  unfold pluviallaw04_awake.f
  rw [to_val (by omega), to_val (by omega), units_val]
  decide +kernel
theorem of_val {s u : Int} (hs : -9223372036854775808 ≤ s ∧ s ≤ 9223372036854775807) (k : Nat) : bound_Of.f (k + 1) s u = some (ofV s u) := by
  unfold bound_Of.f ofV
  rw [right_val, Option.bind_some]
  by_cases h1 : rt s = true
  · have b1 := rt_iff.1 h1
    rw [if_pos h1]
    by_cases h2 : u ≤ -262144
    · rw [if_pos h2, if_neg (by omega)]; simp [bound_Of.j0]
    · rw [if_neg h2]
      simp only [bound_Of.j0]
      by_cases h3 : u > 262144
      · rw [if_pos (by simpa using h3), if_neg (by omega)]
      · rw [if_neg (by simpa using h3), if_pos ⟨h1, by omega, by omega⟩, shift_val h1, Option.bind_some, num_up (by omega) (by omega) (by omega) (by omega), Option.bind_some]
  · rw [if_neg h1, if_neg (by simp [h1])]; simp [bound_Of.j0]
theorem whole_val (s u : Int) : bound_Whole.f s u = some (rt s && decide (u % sz s = 0)) := by
  unfold bound_Whole.f
  rw [right_val, Option.bind_some]
  by_cases h : rt s = true
  · have b := rt_iff.1 h
    rw [if_pos h, shift_val h, Option.bind_some, if_pos (by omega), h, Bool.true_and]
    have e : shl .i64 1 (8 - s) = sz s := by
      have := sz_most h
      have hp := sz_pos s
      unfold shl
      rw [Nat.min_eq_left (by show (8 - s).toNat ≤ 64; omega), wi64, Int.one_mul]
      exact w64 (by have : (2 : Int) ^ (8 - s).toNat = sz s := rfl; omega) (by have : (2 : Int) ^ (8 - s).toNat = sz s := rfl; omega)
    have := sz_most h
    have hp := sz_pos s
    rw [e, w64 (by omega) (by omega)]
    have hn : (8 - s).toNat < 63 := by omega
    have := mask_low u hn
    unfold sz
    rw [this]
    congr 1
  · rw [if_neg h, rt_neg h]; rfl
theorem refright_val (s : Int) : pluvialref04_Right.f s = some (rt s) := by
  unfold pluvialref04_Right.f rt
  by_cases h : s ≥ -4
  · rw [if_pos h]; simp [show -4 ≤ s from h]
  · rw [if_neg h]; simp [show ¬ -4 ≤ s from h]
theorem step_loop (d : Nat) : ∀ (k : Nat) (i : Int) (n : Nat), 8 - i = d → -4 ≤ i → n + d ≤ 12 → d < k → pluvialref04_step.l0 k (2 ^ n) i = some (2 ^ (n + d)) := by
  induction d with
  | zero =>
    intro k i n hd hi hn hk
    obtain ⟨k, rfl⟩ : ∃ m, k = m + 1 := ⟨k - 1, by omega⟩
    simp only [pluvialref04_step.l0]; rw [if_neg (by omega)]; rfl
  | succ d ih =>
    intro k i n hd hi hn hk
    obtain ⟨k, rfl⟩ : ∃ m, k = m + 1 := ⟨k - 1, by omega⟩
    have hpn : (2 : Nat) ^ n ≤ 2 ^ 12 := Nat.pow_le_pow_right (by omega) (by omega)
    have hpi : (2 : Int) ^ n ≤ 2 ^ 12 := by exact_mod_cast hpn
    have hp := pow_pos' n
    simp only [pluvialref04_step.l0]
    rw [if_pos (by omega), w64 (x := i + 1) (by omega) (by omega), w64 (x := 2 ^ n * 2) (by omega) (by omega), show (2 : Int) ^ n * 2 = 2 ^ (n + 1) from (Int.pow_succ 2 n).symm, ih k (i + 1) (n + 1) (by omega) (by omega) (by omega) (by omega), show n + 1 + d = n + (d + 1) from by omega]
theorem refstep_val {s : Int} (h : rt s = true) {k : Nat} (hk : 20 ≤ k) : pluvialref04_step.f k s = some (sz s) := by
  have b := rt_iff.1 h
  unfold pluvialref04_step.f sz
  have := step_loop (8 - s).toNat k s 0 (by omega) (by omega) (by omega) (by omega)
  rw [Nat.zero_add] at this
  exact this
theorem refunits_val (s i : Int) {k : Nat} (hk : 20 ≤ k) : pluvialref04_Units.f k s i = some (unitsV s i) := by
  unfold pluvialref04_Units.f unitsV
  rw [refright_val, Option.bind_some]
  by_cases h : rt s = true
  · rw [if_pos h, if_pos h, refstep_val h hk, Option.bind_some]
  · rw [if_neg h, if_neg h]
theorem refin_val (s i : Int) {k : Nat} (hk : 20 ≤ k) : pluvialref04_In.f k s i = some (inB s i) := by
  unfold pluvialref04_In.f
  rw [in_ref, refright_val, Option.bind_some]
  by_cases h : rt s = true
  · rw [if_pos h, h, Bool.true_and]
    by_cases h1 : -262144 < i
    · rw [if_pos h1]
      by_cases h2 : i ≤ 262144
      · rw [if_pos h2, refunits_val s i hk, Option.bind_some]
        by_cases h3 : -262144 < unitsV s i
        · rw [if_pos h3]; simp [h1, h2, h3]
        · rw [if_neg h3]; simp [h3]
      · rw [if_neg h2]; simp [h2]
    · rw [if_neg h1]; simp [h1]
  · rw [if_neg h, rt_neg h]; rfl
theorem refof_l1 {s u c : Int} (h : rt s = true) (hc : (c - 1) * sz s < u ∧ u ≤ c * sz s) (hb : -262144 ≤ c ∧ c ≤ 262144) {k : Nat} (hk : 21 ≤ k) : pluvialref04_Of.l1 k s u c = some (c, true) := by
  obtain ⟨k, rfl⟩ : ∃ m, k = m + 1 := ⟨k - 1, by omega⟩
  simp only [pluvialref04_Of.l1]
  rw [refunits_val _ _ (by omega), Option.bind_some, w64 (x := c - 1) (by omega) (by omega), units_eq h (by omega) (by omega), if_neg (by omega)]
theorem refof_l0 {s u c : Int} (h : rt s = true) (hc : (c - 1) * sz s < u ∧ u ≤ c * sz s) (hb : -262144 ≤ c ∧ c ≤ 262144) {k : Nat} (hk : 22 ≤ k) : pluvialref04_Of.l0 k s u c = some (c, true) := by
  obtain ⟨k, rfl⟩ : ∃ m, k = m + 1 := ⟨k - 1, by omega⟩
  simp only [pluvialref04_Of.l0]
  rw [refunits_val _ _ (by omega), Option.bind_some, units_eq h (by omega) (by omega), if_neg (by omega)]
  exact refof_l1 h hc hb (by omega)
theorem refof_l0' {s u c : Int} (h : rt s = true) (hc : (c - 1) * sz s < u ∧ u ≤ c * sz s) (hb : -262144 ≤ c ∧ c ≤ 262144) {k : Nat} (hk : 23 ≤ k) : pluvialref04_Of.l0 k s u (c - 1) = some (c, true) := by
  obtain ⟨k, rfl⟩ : ∃ m, k = m + 1 := ⟨k - 1, by omega⟩
  simp only [pluvialref04_Of.l0]
  rw [refunits_val _ _ (by omega), Option.bind_some, units_eq h (by omega) (by omega), if_pos (by omega), w64 (x := c - 1 + 1) (by omega) (by omega), show c - 1 + 1 = c from by omega]
  exact refof_l0 h hc hb (by omega)
theorem refof_val (s u : Int) {k : Nat} (hk : 25 ≤ k) : pluvialref04_Of.f k s u = some (ofV s u) := by
  obtain ⟨k, rfl⟩ : ∃ m, k = m + 1 := ⟨k - 1, by omega⟩
  unfold pluvialref04_Of.f ofV
  rw [refright_val, Option.bind_some]
  by_cases h1 : rt s = true
  · have b1 := rt_iff.1 h1
    rw [if_pos h1]
    by_cases h2 : u ≤ -262144
    · rw [if_pos h2, if_neg (by omega)]; simp [pluvialref04_Of.j0]
    · rw [if_neg h2]
      simp only [pluvialref04_Of.j0]
      by_cases h3 : u > 262144
      · rw [if_pos (by simpa using h3), if_neg (by omega)]
      · have hp := sz_pos s
        rw [if_neg (by simpa using h3), if_pos ⟨h1, by omega, by omega⟩, refstep_val h1 (by omega), Option.bind_some, if_neg (by omega)]
        obtain ⟨c, hc⟩ : ∃ c, upq u (8 - s).toNat = c := ⟨_, rfl⟩
        have hi := (upq_iff u c _).1 hc
        have hb := upq_bound u (8 - s).toNat 262144 (by omega) (by omega)
        have hd := up_down u (8 - s).toNat
        rw [hc] at hb hd ⊢
        rw [show (2 : Int) ^ (8 - s).toNat = sz s from rfl] at hi hd
        have hq : Int.tdiv u (sz s) = c ∨ Int.tdiv u (sz s) = c - 1 := by
          by_cases h : 0 ≤ u
          · rw [Int.tdiv_eq_ediv_of_nonneg h]; omega
          · left
            obtain ⟨y, rfl⟩ : ∃ y, u = -y := ⟨-u, by omega⟩
            rw [Int.neg_tdiv, Int.tdiv_eq_ediv_of_nonneg (by omega), ← hc]
            unfold upq sz; rw [Int.neg_neg]
        rcases hq with e | e
        · rw [e, w64 (by omega) (by omega)]; exact refof_l0 h1 hi hb (by omega)
        · rw [e, w64 (by omega) (by omega)]; exact refof_l0' h1 hi hb (by omega)
  · rw [if_neg h1, if_neg (by simp [h1])]; simp [pluvialref04_Of.j0]
theorem tmod_zero (u : Int) {p : Int} : (Int.tmod u p == 0) = decide (u % p = 0) := by
  rw [Bool.eq_iff_iff]
  simp only [beq_iff_eq, decide_eq_true_eq]
  exact ⟨fun h => Int.emod_eq_zero_of_dvd (Int.dvd_of_tmod_eq_zero h), fun h => Int.tmod_eq_zero_of_dvd (Int.dvd_of_emod_eq_zero h)⟩
theorem in_least {s : Int} (h : rt s = true) : inB s (1 - most s) = true ∧ inB s (1 - most s - 1) = false ∧ inB s (most s) = true ∧ inB s (most s + 1) = false := by
  have := sz_most h
  refine ⟨?_, ?_, ?_, ?_⟩
  · simp only [inB, h, Bool.true_and, Bool.and_eq_true, decide_eq_true_eq]; omega
  · simp only [inB, h, Bool.true_and, Bool.and_eq_false_iff, decide_eq_false_iff_not]; omega
  · simp only [inB, h, Bool.true_and, Bool.and_eq_true, decide_eq_true_eq]; omega
  · simp only [inB, h, Bool.true_and, Bool.and_eq_false_iff, decide_eq_false_iff_not]; omega
theorem places_j2 (s i u : Int) (hs : -9223372036854775808 ≤ s ∧ s ≤ 9223372036854775807) : pluviallaw04_BoundPlaces.j2 60 s i u (ofV s u).1 (ofV s u).2 (ofV s u).1 (ofV s u).2 (rt s && decide (u % sz s = 0)) false = some true := by
  simp only [pluviallaw04_BoundPlaces.j2, Bool.false_eq_true, if_false]
  rw [awake_val, right_val, refright_val, units_val, refunits_val _ _ (by omega), low_val, refunits_val _ _ (by omega), in_val, refin_val _ _ (by omega), whole_val]
  simp
theorem places_j1 (s i u : Int) (hs : -9223372036854775808 ≤ s ∧ s ≤ 9223372036854775807) : pluviallaw04_BoundPlaces.j1 61 s i u (ofV s u).1 (ofV s u).2 (ofV s u).1 (ofV s u).2 (rt s && decide (u % sz s = 0)) = some true := by
  have hm := most_le s
  simp only [pluviallaw04_BoundPlaces.j1]
  rw [least_val, most_val, refright_val]
  simp only [Option.bind_some]
  by_cases h : rt s = true
  · have hl := in_least h
    rw [if_pos h, refin_val _ _ (by omega), w64 (x := 1 - most s - 1) (by omega) (by omega), refin_val _ _ (by omega), refin_val _ _ (by omega), w64 (x := most s + 1) (by omega) (by omega), refin_val _ _ (by omega), hl.1, hl.2.1, hl.2.2.1, hl.2.2.2]
    simp only [Option.bind_some, if_true, Bool.false_eq_true, if_false]
    exact places_j2 s i u hs
  · have e : most s = 0 := by unfold most; rw [if_neg h]
    rw [if_neg h, e, if_pos (by omega)]
    exact places_j2 s i u hs
theorem main : pluviallaw04_BoundPlaces.Pure := by
  intro s i u h0 h1 h2
  have b0 := wf_i64 h0
  refine ⟨63, ?_⟩
  have hj : pluviallaw04_BoundPlaces.j0 63 s i u true = some true := by
    simp only [pluviallaw04_BoundPlaces.j0, if_true, awake_val, Option.bind_some]
  unfold pluviallaw04_BoundPlaces.f
  by_cases c1 : i < -1099511627776
  · rw [if_pos c1]; exact hj
  · rw [if_neg c1]
    by_cases c2 : i > 1099511627776
    · rw [decide_eq_true c2]; exact hj
    · rw [decide_eq_false c2]
      simp only [pluviallaw04_BoundPlaces.j0, Bool.false_eq_true, if_false]
      rw [of_val b0, refof_val s u (by omega), refright_val]
      simp only [Option.bind_some]
      have hmono := pluviallaw04_BoundPlaces.mono_l
      by_cases h : rt s = true
      · have hz : unitsV s 1 = sz s := by rw [units_eq h (by omega) (by omega), Int.one_mul]
        have hp := sz_pos s
        rw [if_pos h, refunits_val _ _ (by omega), Option.bind_some, hz, if_neg (by omega), tmod_zero]
        have := places_j1 s i u b0
        rw [h, Bool.true_and] at this
        exact at_rounds (g := fun k => pluviallaw04_BoundPlaces.j1 k s i u (ofV s u).1 (ofV s u).2 (ofV s u).1 (ofV s u).2 (decide (u % sz s = 0))) (fun k => by first | exact (hmono k).2.1 _ _ _ _ _ _ _ _ | exact (hmono k).1 _ _ _ _ _ _ _ _) (show 61 ≤ 62 by omega) this
      · rw [if_neg h]
        have := places_j1 s i u b0
        rw [rt_neg h, Bool.false_and] at this
        exact at_rounds (g := fun k => pluviallaw04_BoundPlaces.j1 k s i u (ofV s u).1 (ofV s u).2 (ofV s u).1 (ofV s u).2 false) (fun k => by first | exact (hmono k).2.1 _ _ _ _ _ _ _ _ | exact (hmono k).1 _ _ _ _ _ _ _ _) (show 61 ≤ 62 by omega) this
end Go.Proofs.Ytcdjcbjincecpaa.Pure.LBoundPlaces
namespace Go.Proofs.Ytcdjcbjincecpaa.Pure
theorem BoundPlaces : Go.Proofs.Ytcdjcbjincecpaa.QBoundPlaces.pluviallaw04_BoundPlaces.Pure := LBoundPlaces.main
end Go.Proofs.Ytcdjcbjincecpaa.Pure
