/- What NumZigs computes is true for every input: whole numbers as counts and back, and rounding by powers of two. It holds for all whole numbers of its parameters' kinds, no condition. -/
import Derived.Test.YtdonphglmeimbaaQNumZigsx1
import Derived.Test.YtdonphglmeimbaaMth
namespace Go.Proofs.Ytdonphglmeimbaa.Pure
open Go.RowKit Go.Proofs.Ytdonphglmeimbaa.QNumZigs Go.Proofs.YtdonphglmeimbaaW.PrintWords Go.Proofs.YtdonphglmeimbaaW.PrintLast Go.Proofs.YtdonphglmeimbaaW.PrintMore Mth

def zg (n : Int) : Int := if n ≥ 0 then n * 2 else -(n * 2) - 1
def zag (c : Int) : Int := if c % 2 = 0 then c / 2 else -1 - c / 2
theorem zigs_up {x k : Int} (hk0 : 0 ≤ k) (hk : k ≤ 64) (h0 : -4611686018427387904 ≤ x) (h1 : x ≤ 4611686018427387904) : num_Up.f x k = some (upq x k.toNat) := by
  unfold num_Up.f; rw [if_pos hk0, up_val hk h0 h1]
theorem zigs_down {x k : Int} (hk0 : 0 ≤ k) (hk : k ≤ 64) : num_Down.f x k = some (x / 2 ^ k.toNat) := by
  unfold num_Down.f; rw [if_pos hk0, shr_eq hk]
theorem zigs_awake : pluviallaw01_awake.f = some true := by decide +kernel
theorem zig_val {n : Int} (h0 : -9223372036854775808 ≤ n) (h1 : n ≤ 9223372036854775807) : num_Zig.f n = some (zg n) := by
  unfold num_Zig.f zg
  by_cases h : n ≥ 0
  · rw [if_pos h, show n / 9223372036854775808 = 0 from by omega, wu64 0, wu64, show (0 : Int) % 18446744073709551616 = 0 from rfl, xor_zero_u64 (by omega) (by omega)]
    congr 1; unfold wrap64; omega
  · rw [if_neg h, show n / 9223372036854775808 = -1 from by omega, wu64 (-1), wu64, show (-1 : Int) % 18446744073709551616 = 18446744073709551615 from rfl, xor_ones_u64 (by omega) (by omega)]
    congr 1; unfold wrap64; omega
theorem refzig_val {n : Int} (h0 : -9223372036854775808 ≤ n) (h1 : n ≤ 9223372036854775807) : pluvialref01_Zig.f n = some (zg n) := by
  unfold pluvialref01_Zig.f zg
  by_cases h : n ≥ 0
  · rw [if_pos h, if_pos h, wu64, wu64]; congr 1; omega
  · rw [if_neg h, if_neg h, w64 (x := n + 1) (by omega) (by omega), w64 (by omega) (by omega), wu64, wu64, wu64]; congr 1; omega
theorem zag_val {c : Int} (h0 : 0 ≤ c) (h1 : c ≤ 18446744073709551615) : num_Zag.f c = some (zag c) := by
  unfold num_Zag.f zag
  have e := mask_low_u64 c (n := 1) (by omega)
  rw [show ((2 : Int) ^ 1 - 1) = 1 from rfl, show ((2 : Int) ^ 1) = 2 from rfl] at e
  rw [e, w64 (x := c / 2) (by omega) (by omega), w64 (x := c % 2) (by omega) (by omega), w64 (x := -(c % 2)) (by omega) (by omega)]
  by_cases h : c % 2 = 0
  · rw [if_pos h, h, show -(0 : Int) = 0 from rfl, xor_zero_i64 (by omega) (by omega)]
  · rw [if_neg h, show c % 2 = 1 from by omega, xor_ones_i64 (by omega) (by omega)]
theorem floor_val (x : Int) {p : Int} (hp : 0 < p) : (if Int.tmod x p < 0 then Int.tdiv x p - 1 else Int.tdiv x p) = x / p := by
  by_cases h : 0 ≤ x
  · rw [Int.tmod_eq_emod_of_nonneg h, if_neg (by have := Int.emod_nonneg x (Int.ne_of_gt hp); omega), Int.tdiv_eq_ediv_of_nonneg h]
  · obtain ⟨y, rfl⟩ : ∃ y, x = -y := ⟨-x, by omega⟩
    have e := Int.neg_ediv (a := y) (b := p)
    rw [Int.sign_eq_one_of_pos hp] at e
    rw [Int.neg_tmod, Int.neg_tdiv, Int.tmod_eq_emod_of_nonneg (by omega), Int.tdiv_eq_ediv_of_nonneg (by omega), e]
    have h1 := Int.emod_nonneg y (Int.ne_of_gt hp)
    by_cases hd : p ∣ y
    · rw [if_pos hd, if_neg (by rw [Int.emod_eq_zero_of_dvd hd]; omega)]; omega
    · have : y % p ≠ 0 := fun h => hd (Int.dvd_of_emod_eq_zero h)
      rw [if_neg hd, if_pos (by omega)]
theorem down_loop (x b : Int) (hx0 : -4611686018427387904 ≤ x) (hx1 : x ≤ 4611686018427387904) (hb : b ≤ 41) (d : Nat) : ∀ (k : Nat) (i : Int) (n : Nat), 0 ≤ i → i ≤ b → b - i = d → n = i.toNat → d < k →
    pluvialref01_Down.l0 k x b (2 ^ n) i = some (x / 2 ^ b.toNat) := by
  induction d with
  | zero =>
    intro k i n h0 h1 hd hn hk
    obtain ⟨k, rfl⟩ : ∃ m, k = m + 1 := ⟨k - 1, by omega⟩
    have hp := pow_pos' n
    have e : n = b.toNat := by omega
    simp only [pluvialref01_Down.l0]
    rw [if_neg (by omega), if_neg (by omega)]
    have hq : -4611686018427387904 ≤ Int.tdiv x (2 ^ n) ∧ Int.tdiv x (2 ^ n) ≤ 4611686018427387904 := by
      have h5 := Int.natAbs_tdiv_le_natAbs x (2 ^ n)
      omega
    have hf := floor_val x hp
    rw [e] at hf hq ⊢
    rw [w64 (x := Int.tdiv x (2 ^ b.toNat)) (by omega) (by omega), w64 (x := Int.tdiv x (2 ^ b.toNat) - 1) (by omega) (by omega), ← hf]
    split <;> rfl
  | succ d ih =>
    intro k i n h0 h1 hd hn hk
    obtain ⟨k, rfl⟩ : ∃ m, k = m + 1 := ⟨k - 1, by omega⟩
    have hlt : i < b := by omega
    have hpn : (2 : Nat) ^ n ≤ 2 ^ 41 := Nat.pow_le_pow_right (by omega) (by omega)
    have hpi : (2 : Int) ^ n ≤ 2 ^ 41 := by exact_mod_cast hpn
    have hp := pow_pos' n
    simp only [pluvialref01_Down.l0]
    rw [if_pos hlt, w64 (x := i + 1) (by omega) (by omega), w64 (x := 2 ^ n * 2) (by omega) (by omega), show (2 : Int) ^ n * 2 = 2 ^ (n + 1) from (Int.pow_succ 2 n).symm]
    exact ih k (i + 1) (n + 1) (by omega) (by omega) (by omega) (by omega) (by omega)
theorem refdown_val {x b : Int} (hx0 : -4611686018427387904 ≤ x) (hx1 : x ≤ 4611686018427387904) (h0 : 0 ≤ b) (hb : b ≤ 41) : pluvialref01_Down.f 50 x b = some (x / 2 ^ b.toNat) := by
  unfold pluvialref01_Down.f
  exact down_loop x b hx0 hx1 hb b.toNat 50 0 0 (by omega) h0 (by omega) rfl (by omega)

theorem NumZigs : pluviallaw01_NumZigs.Pure := by
  intro n c m b h0 h1 h2 h3
  have b0 := wf_i64 h0
  have b1 := wf_u64 h1
  have b2 := wf_i64 h2
  have b3 := wf_u8 h3
  refine ⟨50, ?_⟩
  obtain ⟨k, hk⟩ : ∃ k, k = Int.tmod b 41 := ⟨_, rfl⟩
  obtain ⟨x, hx⟩ : ∃ x, x = Int.tmod m 1099511627776 := ⟨_, rfl⟩
  have hk' : 0 ≤ k ∧ k ≤ 40 := by rw [hk, Int.tmod_eq_emod_of_nonneg (by omega)]; omega
  have hx' : -1099511627776 < x ∧ x < 1099511627776 := by rw [hx]; exact ⟨Int.lt_tmod_of_pos _ (by omega), Int.tmod_lt_of_pos _ (by omega)⟩
  unfold pluviallaw01_NumZigs.f
  rw [zigs_awake, Option.bind_some, if_pos rfl, zig_val b0.1 b0.2, refzig_val b0.1 b0.2]
  simp only [Option.bind_some, if_true]
  have hz : 0 ≤ zg n ∧ zg n ≤ 18446744073709551615 := by unfold zg; split <;> omega
  have hzz : zag (zg n) = n := by unfold zag zg; split <;> split <;> omega
  have hc : -9223372036854775808 ≤ zag c ∧ zag c ≤ 9223372036854775807 := by unfold zag; split <;> omega
  have hcc : zg (zag c) = c := by unfold zag zg; split <;> split <;> omega
  rw [zag_val hz.1 hz.2, zag_val b1.1 b1.2, hzz]
  simp only [Option.bind_some, if_true]
  rw [refzig_val hc.1 hc.2, hcc]
  simp only [Option.bind_some, if_true]
  rw [← hk, ← hx, w64 (x := k) (by omega) (by omega), wu64, show k % 18446744073709551616 = k from by omega]
  rw [zigs_down (by omega) (by omega), refdown_val (by omega) (by omega) (by omega) (by omega), zigs_up (by omega) (by omega) (by omega) (by omega), w64 (x := -x) (by omega) (by omega), refdown_val (by omega) (by omega) (by omega) (by omega)]
  simp only [Option.bind_some, if_true]
  have := div_bound (-x) k.toNat 1099511627776 (by omega) (by omega)
  rw [w64 (by omega) (by omega)]
  simp [upq]
end Go.Proofs.Ytdonphglmeimbaa.Pure
