/- What BoundTo computes is true for every input: the bucket of a coarser schema is the one of the document. It holds for all whole numbers of its parameters, no condition. -/
import Derived.Test.YtcdjcbjincecpaaQBoundTox5
import Derived.Test.YtcdjcbjincecpaaMthB
namespace Go.Proofs.Ytcdjcbjincecpaa.Pure.LBoundTo
open Go.RowKit Go.Proofs.Ytcdjcbjincecpaa.QBoundTo Go.Proofs.YtcdjcbjincecpaaW.PrintWords Go.Proofs.YtcdjcbjincecpaaW.PrintLast Go.Proofs.YtcdjcbjincecpaaW.PrintMore Mth
theorem right_val (s : Int) : bound_Right.f s = some (rt s) := by
  unfold bound_Right.f rt
  by_cases h : s ≥ -4
  · rw [if_pos h]; simp [show -4 ≤ s from h]
  · rw [if_neg h]; simp [show ¬ -4 ≤ s from h]
theorem shift_val {s : Int} (h : rt s = true) : bound_shift.f s = some (8 - s) := by
  unfold bound_shift.f
  have := rt_iff.1 h
  rw [w64 (by omega) (by omega), wu64]; congr 1; omega
theorem most_val (s : Int) : bound_Most.f s = some (most s) := by
  unfold bound_Most.f
  rw [right_val, Option.bind_some]
  by_cases h : rt s = true
  · have := rt_iff.1 h
    rw [if_pos h, shift_val h, Option.bind_some, if_pos (by omega), shr_eq (by omega)]
    unfold most sz; rw [if_pos h]
  · rw [if_neg h]; unfold most; rw [if_neg h]
theorem least_val (s : Int) : bound_Least.f s = some (1 - most s) := by
  unfold bound_Least.f
  have := most_le s
  rw [most_val, Option.bind_some, w64 (x := -most s) (by omega) (by omega), w64 (by omega) (by omega)]; congr 1; omega
theorem in_val (s i : Int) : bound_In.f s i = some (inB s i) := by
  unfold bound_In.f inB
  rw [right_val, Option.bind_some]
  by_cases h : rt s = true
  · rw [if_pos h, least_val, Option.bind_some]
    by_cases h2 : i ≥ 1 - most s
    · rw [if_pos h2, most_val, Option.bind_some, h]; simp [show 1 - most s ≤ i from h2]
    · rw [if_neg h2]; simp [show ¬ 1 - most s ≤ i from h2]
  · rw [if_neg h, rt_neg h]; rfl
theorem units_val (s i : Int) : bound_Units.f s i = some (unitsV s i) := by
  unfold bound_Units.f unitsV
  rw [right_val, Option.bind_some]
  by_cases h : rt s = true
  · have := rt_iff.1 h
    rw [if_pos h, if_pos h, shift_val h, Option.bind_some, if_pos (by omega)]
    unfold shl sz
    rw [Nat.min_eq_left (by show (8 - s).toNat ≤ 64; omega), wi64]
  · rw [if_neg h, if_neg h]
theorem low_val (s i : Int) : bound_Low.f s i = some (unitsV s (wrap64 (i - 1))) := by
  unfold bound_Low.f
  rw [units_val, Option.bind_some]
theorem num_up {x k : Int} (hk0 : 0 ≤ k) (hk : k ≤ 64) (h0 : -4611686018427387904 ≤ x) (h1 : x ≤ 4611686018427387904) : num_Up.f x k = some (upq x k.toNat) := by
  unfold num_Up.f; rw [if_pos hk0, up_val hk h0 h1]
theorem to_val {f t i : Int} (hf : -9223372036854775808 ≤ f ∧ f ≤ 9223372036854775807) (k : Nat) : bound_To.f (k + 1) f t i = some (toV f t i) := by
  unfold bound_To.f toV
  rw [right_val, right_val, Option.bind_some]
  by_cases h1 : rt f = true
  · rw [if_pos h1, Option.bind_some]
    by_cases h2 : rt t = true
    · rw [if_pos h2]
      simp only [bound_To.j0]
      have b1 := rt_iff.1 h1
      have b2 := rt_iff.1 h2
      by_cases h3 : t ≤ f
      · rw [if_neg (by simpa using h3), if_pos ⟨h1, h2, h3⟩, in_val, Option.bind_some]
        by_cases h4 : inB f i = true
        · have := in_bounds h4
          rw [if_pos h4, if_pos h4, w64 (x := f - t) (by omega) (by omega), wu64, show (f - t) % 18446744073709551616 = f - t from by omega, num_up (by omega) (by omega) (by omega) (by omega), Option.bind_some]
        · rw [if_neg h4, if_neg h4]
      · rw [if_pos (by simpa using h3), if_neg (by simp [h3])]
    · rw [if_neg h2, if_neg (by simp [h2])]; simp [bound_To.j0]
  · rw [if_neg h1, if_neg (by simp [h1])]; simp [bound_To.j0]
theorem awake_val (k : Nat) : pluviallaw04_awake.f (k + 1) = some true := by
  unfold pluviallaw04_awake.f
  rw [to_val (by omega), to_val (by omega), units_val]
  decide +kernel
theorem refright_val (s : Int) : pluvialref04_Right.f s = some (rt s) := by
  unfold pluvialref04_Right.f rt
  by_cases h : s ≥ -4
  · rw [if_pos h]; simp [show -4 ≤ s from h]
  · rw [if_neg h]; simp [show ¬ -4 ≤ s from h]
theorem step_loop (d : Nat) : ∀ (k : Nat) (i : Int) (n : Nat), 8 - i = d → -4 ≤ i → n + d ≤ 12 → d < k → pluvialref04_step.l0 k (2 ^ n) i = some (2 ^ (n + d)) := by
  induction d with
  | zero =>
    intro k i n hd hi hn hk
    obtain ⟨k, rfl⟩ : ∃ m, k = m + 1 := ⟨k - 1, by omega⟩
    simp only [pluvialref04_step.l0]; rw [if_neg (by omega)]; rfl
  | succ d ih =>
    intro k i n hd hi hn hk
    obtain ⟨k, rfl⟩ : ∃ m, k = m + 1 := ⟨k - 1, by omega⟩
    have hpn : (2 : Nat) ^ n ≤ 2 ^ 12 := Nat.pow_le_pow_right (by omega) (by omega)
    have hpi : (2 : Int) ^ n ≤ 2 ^ 12 := by exact_mod_cast hpn
    have hp := pow_pos' n
    simp only [pluvialref04_step.l0]
    rw [if_pos (by omega), w64 (x := i + 1) (by omega) (by omega), w64 (x := 2 ^ n * 2) (by omega) (by omega), show (2 : Int) ^ n * 2 = 2 ^ (n + 1) from (Int.pow_succ 2 n).symm, ih k (i + 1) (n + 1) (by omega) (by omega) (by omega) (by omega), show n + 1 + d = n + (d + 1) from by omega]
theorem refstep_val {s : Int} (h : rt s = true) {k : Nat} (hk : 20 ≤ k) : pluvialref04_step.f k s = some (sz s) := by
  have b := rt_iff.1 h
  unfold pluvialref04_step.f sz
  have := step_loop (8 - s).toNat k s 0 (by omega) (by omega) (by omega) (by omega)
  rw [Nat.zero_add] at this
  exact this
theorem refunits_val (s i : Int) {k : Nat} (hk : 20 ≤ k) : pluvialref04_Units.f k s i = some (unitsV s i) := by
  unfold pluvialref04_Units.f unitsV
  rw [refright_val, Option.bind_some]
  by_cases h : rt s = true
  · rw [if_pos h, if_pos h, refstep_val h hk, Option.bind_some]
  · rw [if_neg h, if_neg h]
theorem refin_val (s i : Int) {k : Nat} (hk : 20 ≤ k) : pluvialref04_In.f k s i = some (inB s i) := by
  unfold pluvialref04_In.f
  rw [in_ref, refright_val, Option.bind_some]
  by_cases h : rt s = true
  · rw [if_pos h, h, Bool.true_and]
    by_cases h1 : -262144 < i
    · rw [if_pos h1]
      by_cases h2 : i ≤ 262144
      · rw [if_pos h2, refunits_val s i hk, Option.bind_some]
        by_cases h3 : -262144 < unitsV s i
        · rw [if_pos h3]; simp [h1, h2, h3]
        · rw [if_neg h3]; simp [h3]
      · rw [if_neg h2]; simp [h2]
    · rw [if_neg h1]; simp [h1]
  · rw [if_neg h, rt_neg h]; rfl
theorem refof_l1 {s u c : Int} (h : rt s = true) (hc : (c - 1) * sz s < u ∧ u ≤ c * sz s) (hb : -262144 ≤ c ∧ c ≤ 262144) {k : Nat} (hk : 21 ≤ k) : pluvialref04_Of.l1 k s u c = some (c, true) := by
  obtain ⟨k, rfl⟩ : ∃ m, k = m + 1 := ⟨k - 1, by omega⟩
  simp only [pluvialref04_Of.l1]
  rw [refunits_val _ _ (by omega), Option.bind_some, w64 (x := c - 1) (by omega) (by omega), units_eq h (by omega) (by omega), if_neg (by omega)]
theorem refof_l0 {s u c : Int} (h : rt s = true) (hc : (c - 1) * sz s < u ∧ u ≤ c * sz s) (hb : -262144 ≤ c ∧ c ≤ 262144) {k : Nat} (hk : 22 ≤ k) : pluvialref04_Of.l0 k s u c = some (c, true) := by
  obtain ⟨k, rfl⟩ : ∃ m, k = m + 1 := ⟨k - 1, by omega⟩
  simp only [pluvialref04_Of.l0]
  rw [refunits_val _ _ (by omega), Option.bind_some, units_eq h (by omega) (by omega), if_neg (by omega)]
  exact refof_l1 h hc hb (by omega)
theorem refof_l0' {s u c : Int} (h : rt s = true) (hc : (c - 1) * sz s < u ∧ u ≤ c * sz s) (hb : -262144 ≤ c ∧ c ≤ 262144) {k : Nat} (hk : 23 ≤ k) : pluvialref04_Of.l0 k s u (c - 1) = some (c, true) := by
  obtain ⟨k, rfl⟩ : ∃ m, k = m + 1 := ⟨k - 1, by omega⟩
  simp only [pluvialref04_Of.l0]
  rw [refunits_val _ _ (by omega), Option.bind_some, units_eq h (by omega) (by omega), if_pos (by omega), w64 (x := c - 1 + 1) (by omega) (by omega), show c - 1 + 1 = c from by omega]
  exact refof_l0 h hc hb (by omega)
theorem refof_val (s u : Int) {k : Nat} (hk : 25 ≤ k) : pluvialref04_Of.f k s u = some (ofV s u) := by
  obtain ⟨k, rfl⟩ : ∃ m, k = m + 1 := ⟨k - 1, by omega⟩
  unfold pluvialref04_Of.f ofV
  rw [refright_val, Option.bind_some]
  by_cases h1 : rt s = true
  · have b1 := rt_iff.1 h1
    rw [if_pos h1]
    by_cases h2 : u ≤ -262144
    · rw [if_pos h2, if_neg (by omega)]; simp [pluvialref04_Of.j0]
    · rw [if_neg h2]
      simp only [pluvialref04_Of.j0]
      by_cases h3 : u > 262144
      · rw [if_pos (by simpa using h3), if_neg (by omega)]
      · have hp := sz_pos s
        rw [if_neg (by simpa using h3), if_pos ⟨h1, by omega, by omega⟩, refstep_val h1 (by omega), Option.bind_some, if_neg (by omega)]
        obtain ⟨c, hc⟩ : ∃ c, upq u (8 - s).toNat = c := ⟨_, rfl⟩
        have hi := (upq_iff u c _).1 hc
        have hb := upq_bound u (8 - s).toNat 262144 (by omega) (by omega)
        have hd := up_down u (8 - s).toNat
        rw [hc] at hb hd ⊢
        rw [show (2 : Int) ^ (8 - s).toNat = sz s from rfl] at hi hd
        have hq : Int.tdiv u (sz s) = c ∨ Int.tdiv u (sz s) = c - 1 := by
          by_cases h : 0 ≤ u
          · rw [Int.tdiv_eq_ediv_of_nonneg h]; omega
          · left
            obtain ⟨y, rfl⟩ : ∃ y, u = -y := ⟨-u, by omega⟩
            rw [Int.neg_tdiv, Int.tdiv_eq_ediv_of_nonneg (by omega), ← hc]
            unfold upq sz; rw [Int.neg_neg]
        rcases hq with e | e
        · rw [e, w64 (by omega) (by omega)]; exact refof_l0 h1 hi hb (by omega)
        · rw [e, w64 (by omega) (by omega)]; exact refof_l0' h1 hi hb (by omega)
  · rw [if_neg h1, if_neg (by simp [h1])]; simp [pluvialref04_Of.j0]
theorem has_fine {s t i : Int} (hs : rt s = true) (ht : rt t = true) (h : t ≤ s) (hi : inB s i = true) : bound_Has.f 0 t (upq i (s - t).toNat) 0 s i = some true := by
  have hk := in_up hs ht h hi
  obtain ⟨k, hkk⟩ : ∃ k, upq i (s - t).toNat = k := ⟨_, rfl⟩
  have hu := (upq_iff i k _).1 hkk
  rw [hkk] at hk ⊢
  have b1 := in_bounds hi
  have b2 := in_bounds hk
  have hsz := sz_step (rt_iff.1 hs).2 h
  have hp := sz_pos s
  obtain ⟨P, hP⟩ : ∃ P : Int, (2 : Int) ^ (s - t).toNat = P := ⟨_, rfl⟩
  rw [hP] at hu hsz
  unfold bound_Has.f
  rw [if_pos rfl, in_val, in_val, hk, hi]
  simp only [Option.bind_some, if_true]
  rw [low_val, low_val, units_val, units_val, w64 (x := k - 1) (by omega) (by omega), w64 (x := i - 1) (by omega) (by omega)]
  simp only [Option.bind_some]
  rw [units_eq ht (by omega) (by omega), units_eq ht (by omega) (by omega), units_eq hs (by omega) (by omega), units_eq hs (by omega) (by omega), hsz]
  have m1 : (k - 1) * P * sz s ≤ (i - 1) * sz s := Int.mul_le_mul_of_nonneg_right (by omega) (by omega)
  have m2 : i * sz s ≤ k * P * sz s := Int.mul_le_mul_of_nonneg_right (by omega) (by omega)
  have e1 : (k - 1) * (sz s * P) = (k - 1) * P * sz s := by rw [Int.mul_comm (sz s), Int.mul_assoc]
  have e2 : k * (sz s * P) = k * P * sz s := by rw [Int.mul_comm (sz s), Int.mul_assoc]
  rw [e1, e2, if_pos m1, decide_eq_true m2]
theorem upq_scale (i : Int) (a b : Nat) : upq (i * 2 ^ a) (a + b) = upq i b := by
  have hp := pow_pos' a
  have h := (upq_iff i (upq i b) b).1 rfl
  rw [upq_iff, Int.pow_add]
  have m1 := Int.mul_lt_mul_of_pos_right h.1 hp
  have m2 := Int.mul_le_mul_of_nonneg_right h.2 (Int.le_of_lt hp)
  have e1 : (upq i b - 1) * (2 ^ a * 2 ^ b) = (upq i b - 1) * 2 ^ b * 2 ^ a := by rw [Int.mul_comm (2 ^ a), Int.mul_assoc]
  have e2 : upq i b * (2 ^ a * 2 ^ b) = upq i b * 2 ^ b * 2 ^ a := by rw [Int.mul_comm (2 ^ a), Int.mul_assoc]
  rw [e1, e2]; exact ⟨m1, m2⟩
theorem refto_val (f t i : Int) {k : Nat} (hk : 30 ≤ k) : pluvialref04_To.f k f t i = some (toV f t i) := by
  obtain ⟨k, rfl⟩ : ∃ m, k = m + 1 := ⟨k - 1, by omega⟩
  unfold pluvialref04_To.f toV
  rw [refright_val, refright_val, Option.bind_some]
  by_cases h1 : rt f = true
  · rw [if_pos h1, Option.bind_some]
    by_cases h2 : rt t = true
    · rw [if_pos h2]
      simp only [pluvialref04_To.j0]
      have b1 := rt_iff.1 h1
      have b2 := rt_iff.1 h2
      by_cases h3 : t ≤ f
      · rw [if_neg (by simpa using h3), if_pos ⟨h1, h2, h3⟩, refin_val _ _ (by omega), Option.bind_some]
        by_cases h4 : inB f i = true
        · have b4 := in_bounds h4
          have hm := sz_most h1
          have hp := sz_pos f
          rw [if_pos h4, if_pos h4, refunits_val _ _ (by omega), Option.bind_some, units_eq h1 (by omega) (by omega), refof_val _ _ (by omega), Option.bind_some]
          have a1 : -262144 < i * sz f := by
            have := Int.mul_lt_mul_of_pos_right (show -(most f) < i by omega) hp
            rw [Int.neg_mul] at this; omega
          have a2 : i * sz f ≤ 262144 := by
            have := Int.mul_le_mul_of_nonneg_right b4.2.2.1 (Int.le_of_lt hp)
            omega
          have e : ofV t (i * sz f) = (upq (i * sz f) (8 - t).toNat, true) := by unfold ofV; rw [if_pos ⟨h2, a1, a2⟩]
          rw [e]
          show some (upq (i * sz f) (8 - t).toNat, (0 : Int)) = _
          have e2 : (8 - t).toNat = (8 - f).toNat + (f - t).toNat := by omega
          rw [e2, sz, upq_scale]
        · rw [if_neg h4, if_neg h4]
      · rw [if_pos (by simpa using h3), if_neg (by simp [h3])]
    · rw [if_neg h2, if_neg (by simp [h2])]; simp [pluvialref04_To.j0]
  · rw [if_neg h1, if_neg (by simp [h1])]; simp [pluvialref04_To.j0]
theorem has_ref (a b s i t j : Int) {k : Nat} (hk : 20 ≤ k) : pluvialref04_Has.f k a b s i t j = bound_Has.f a s i b t j := by
  unfold pluvialref04_Has.f bound_Has.f
  simp only [refin_val _ _ hk, refunits_val _ _ hk, in_val, units_val, low_val, Option.bind_some, ge_iff_le]
theorem has_some (a b s i t j : Int) : ∃ r, bound_Has.f a s i b t j = some r := by
  unfold bound_Has.f
  simp only [in_val, units_val, low_val, Option.bind_some]
  split
  · split
    · split
      · split <;> exact ⟨_, rfl⟩
      · exact ⟨_, rfl⟩
    · exact ⟨_, rfl⟩
  · exact ⟨_, rfl⟩
theorem j2_true (x : Bool) (a s i b t j : Int) : pluviallaw04_BoundTo.j2 31 x a s i b t j = some true := by
  simp only [pluviallaw04_BoundTo.j2, awake_val, Option.bind_some, if_true]
  split
  · rfl
  · obtain ⟨r, hr⟩ := has_some a b s i t j
    rw [has_ref _ _ _ _ _ _ (by omega), hr]
    simp
theorem j1_true (a s i b t j : Int) : pluviallaw04_BoundTo.j1 32 false a s i b t j = some true := by
  simp only [pluviallaw04_BoundTo.j1, Bool.false_eq_true, if_false, j2_true]
  simp
theorem all_true (f t i a s x b u y : Int) (hf : -9223372036854775808 ≤ f ∧ f ≤ 9223372036854775807) : pluviallaw04_BoundTo.f 33 f t i a s x b u y = some true := by
  unfold pluviallaw04_BoundTo.f
  rw [to_val hf, refto_val f t i (by omega)]
  simp only [Option.bind_some, if_true, bne_self_eq_false, pluviallaw04_BoundTo.j0, Bool.false_eq_true, if_false]
  by_cases h : (toV f t i).2 = 0
  · rw [if_pos h]
    by_cases h1 : rt f = true ∧ rt t = true ∧ t ≤ f
    · by_cases h2 : inB f i = true
      · have e : toV f t i = (upq i (f - t).toNat, 0) := by unfold toV; rw [if_pos h1, if_pos h2]
        rw [e, has_fine h1.1 h1.2.1 h1.2.2 h2]
        exact j1_true ..
      · exact absurd h (by unfold toV; rw [if_pos h1, if_neg h2]; decide)
    · exact absurd h (by unfold toV; rw [if_neg h1]; decide)
  · rw [if_neg h]; exact j1_true ..
end Go.Proofs.Ytcdjcbjincecpaa.Pure.LBoundTo
