/- What NumShifts computes is true for every input: rounding by powers of two, up and down. It holds for all whole numbers of its parameters' kinds, no condition. -/
import Derived.Test.YtdonphglmeimbaaPNumShiftsx1
import Derived.Test.YtdonphglmeimbaaMth
namespace Go.Proofs.Ytdonphglmeimbaa.Pure
open Go.RowKit Go.Proofs.Ytdonphglmeimbaa.PNumShifts Go.Proofs.YtdonphglmeimbaaW.PrintWords Go.Proofs.YtdonphglmeimbaaW.PrintLast Go.Proofs.YtdonphglmeimbaaW.PrintMore Mth

theorem shifts_up {x k : Int} (hk0 : 0 ≤ k) (hk : k ≤ 64) (h0 : -4611686018427387904 ≤ x) (h1 : x ≤ 4611686018427387904) : num_Up.f x k = some (upq x k.toNat) := by
  unfold num_Up.f; rw [if_pos hk0, up_val hk h0 h1]
theorem shifts_down {x k : Int} (hk0 : 0 ≤ k) (hk : k ≤ 64) : num_Down.f x k = some (x / 2 ^ k.toNat) := by
  unfold num_Down.f; rw [if_pos hk0, shr_eq hk]
theorem shifts_awake : pluviallaw01_awake.f = some true := by decide +kernel

theorem NumShifts : pluviallaw01_NumShifts.Pure := by
  intro a0 a1 a2 h0 h1 h2
  have b0 := wf_i32 h0
  have b1 := wf_u8 h1
  have b2 := wf_u8 h2
  obtain ⟨k, hk⟩ : ∃ k, k = IntKind.u64.wrap (Int.tmod a1 16) := ⟨_, rfl⟩
  obtain ⟨m, hm⟩ : ∃ m, m = IntKind.u64.wrap (Int.tmod a2 16) := ⟨_, rfl⟩
  have hk' : 0 ≤ k ∧ k ≤ 15 := by rw [hk, wu64, Int.tmod_eq_emod_of_nonneg (by omega)]; omega
  have hm' : 0 ≤ m ∧ m ≤ 15 := by rw [hm, wu64, Int.tmod_eq_emod_of_nonneg (by omega)]; omega
  have hkm : IntKind.u64.wrap (k + m) = k + m := by rw [wu64]; omega
  unfold pluviallaw01_NumShifts.f
  rw [← hk, ← hm, hkm, w64 (x := a0) (by omega) (by omega), w64 (x := -a0) (by omega) (by omega)]
  have e1 := upq_bound a0 k.toNat 2147483648 (by omega) (by omega)
  have e2 := div_bound a0 k.toNat 2147483648 (by omega) (by omega)
  have e3 := up_down a0 k.toNat
  rw [shifts_up (x := a0) (k := k) (by omega) (by omega) (by omega) (by omega), shifts_down (x := a0) (k := k) (by omega) (by omega)]
  simp only [Option.bind_some]
  rw [if_pos hk'.1, shifts_awake]
  simp only [Option.bind_some, if_true]
  rw [w64 (by omega) (by omega), if_pos (by omega), if_pos (by omega)]
  rw [shifts_up (x := upq a0 k.toNat) (k := m) (by omega) (by omega) (by omega) (by omega), shifts_up (x := a0) (k := k + m) (by omega) (by omega) (by omega) (by omega), shifts_down (x := a0 / 2 ^ k.toNat) (k := m) (by omega) (by omega), shifts_down (x := a0) (k := k + m) (by omega) (by omega), shifts_up (x := a0) (k := 0) (by omega) (by omega) (by omega) (by omega), shifts_down (x := -a0) (k := k) (by omega) (by omega)]
  simp only [Option.bind_some]
  have ea : (k + m).toNat = k.toNat + m.toNat := by omega
  have hs : shl .i64 (a0 / 2 ^ k.toNat) k = a0 / 2 ^ k.toNat * 2 ^ k.toNat := by
    unfold shl
    rw [Nat.min_eq_left (by show k.toNat ≤ 64; omega), wi64]
    have hp := pow_pos' k.toNat
    have hm1 := Int.ediv_mul_le a0 (Int.ne_of_gt hp)
    have hm2 := Int.lt_ediv_add_one_mul_self a0 hp
    have hp2n : (2 : Nat) ^ k.toNat ≤ 2 ^ 15 := Nat.pow_le_pow_right (by omega) (by omega)
    have hp2 : (2 : Int) ^ k.toNat ≤ 2 ^ 15 := by exact_mod_cast hp2n
    rw [Int.add_mul, Int.one_mul] at hm2
    exact w64 (by omega) (by omega)
  rw [hs, up_up, div_div, ea]
  rw [if_pos, if_pos rfl, if_pos rfl, if_pos]
  · rw [w64 (by omega) (by omega)]
    unfold upq
    rw [Int.neg_neg]; simp
  · unfold upq; simp
  · by_cases hw : a0 / 2 ^ k.toNat * 2 ^ k.toNat = a0
    · rw [e3.2.2.2 hw, hw]; simp
    · have := fun h => hw (e3.2.2.1 h)
      rw [beq_false_of_ne hw, beq_false_of_ne this]; rfl
end Go.Proofs.Ytdonphglmeimbaa.Pure
