import Derived.Test.YtpdhcgicnhgfoaaWMore
namespace Go.Proofs.Ytpdhcgicnhgfoaa.Mth
open Go.RowKit Go.Proofs.YtpdhcgicnhgfoaaW.PrintWords Go.Proofs.YtpdhcgicnhgfoaaW.PrintLast Go.Proofs.YtpdhcgicnhgfoaaW.PrintMore

theorem w64 {x : Int} (h0 : -9223372036854775808 ≤ x) (h1 : x ≤ 9223372036854775807) : wrap64 x = x := by unfold wrap64; omega
theorem wu64 (x : Int) : IntKind.u64.wrap x = x % 18446744073709551616 := by
  simp [IntKind.wrap, IntKind.signed, IntKind.bits]
theorem wi64 (x : Int) : IntKind.i64.wrap x = wrap64 x := i64_w x
theorem wu8 (x : Int) : IntKind.u8.wrap x = x % 256 := by
  simp [IntKind.wrap, IntKind.signed, IntKind.bits]
theorem wu32 (x : Int) : IntKind.u32.wrap x = x % 4294967296 := by
  simp [IntKind.wrap, IntKind.signed, IntKind.bits]
theorem wf_i32 {x : Int} (h : (Lit.int .i32 x).wf = true) : -2147483648 ≤ x ∧ x ≤ 2147483647 := by
  simp [Lit.wf, IntKind.min, IntKind.max, IntKind.signed, IntKind.bits] at h; omega
theorem wf_i8 {x : Int} (h : (Lit.int .i8 x).wf = true) : -128 ≤ x ∧ x ≤ 127 := by
  simp [Lit.wf, IntKind.min, IntKind.max, IntKind.signed, IntKind.bits] at h; omega
theorem wf_i16 {x : Int} (h : (Lit.int .i16 x).wf = true) : -32768 ≤ x ∧ x ≤ 32767 := by
  simp [Lit.wf, IntKind.min, IntKind.max, IntKind.signed, IntKind.bits] at h; omega
theorem wf_u16 {x : Int} (h : (Lit.int .u16 x).wf = true) : 0 ≤ x ∧ x ≤ 65535 := by
  simp [Lit.wf, IntKind.min, IntKind.max, IntKind.signed, IntKind.bits] at h; omega
theorem wf_u32 {x : Int} (h : (Lit.int .u32 x).wf = true) : 0 ≤ x ∧ x ≤ 4294967295 := by
  simp [Lit.wf, IntKind.min, IntKind.max, IntKind.signed, IntKind.bits] at h; omega
theorem wf_i64 {x : Int} (h : (Lit.int .i64 x).wf = true) : -9223372036854775808 ≤ x ∧ x ≤ 9223372036854775807 := by
  simp [Lit.wf, IntKind.min, IntKind.max, IntKind.signed, IntKind.bits] at h; omega
theorem wf_u64 {x : Int} (h : (Lit.int .u64 x).wf = true) : 0 ≤ x ∧ x ≤ 18446744073709551615 := by
  simp [Lit.wf, IntKind.min, IntKind.max, IntKind.signed, IntKind.bits] at h; omega
theorem wf_u8 {x : Int} (h : (Lit.int .u8 x).wf = true) : 0 ≤ x ∧ x ≤ 255 := by
  simp [Lit.wf, IntKind.min, IntKind.max, IntKind.signed, IntKind.bits] at h; omega

theorem pow_pos' (n : Nat) : (0 : Int) < 2 ^ n := Int.pow_pos (by omega)
theorem shr_eq {x k : Int} (h1 : k ≤ 64) : shr .i64 x k = x / 2 ^ k.toNat := by
  unfold shr; rw [Nat.min_eq_left]; show k.toNat ≤ 64; omega
theorem div_bound (x : Int) (n : Nat) (B : Int) (h0 : -B ≤ x) (h1 : x ≤ B) : -B ≤ x / 2 ^ n ∧ x / 2 ^ n ≤ B := by
  have hp := pow_pos' n
  constructor
  · rw [Int.le_ediv_iff_mul_le hp]
    have : (-B) * 2 ^ n ≤ (-B) * 1 := Int.mul_le_mul_of_nonpos_left (by omega) (by omega)
    omega
  · refine Int.le_trans (Int.ediv_le_ediv hp h1) ?_
    exact Int.ediv_le_self _ (by omega)
/-- rounded up -/
def upq (x : Int) (n : Nat) : Int := -((-x) / 2 ^ n)
theorem upq_bound (x : Int) (n : Nat) (B : Int) (h0 : -B ≤ x) (h1 : x ≤ B) : -B ≤ upq x n ∧ upq x n ≤ B := by
  have := div_bound (-x) n B (by omega) (by omega)
  unfold upq; omega
theorem up_val {x k : Int} (hk : k ≤ 64) (h0 : -4611686018427387904 ≤ x) (h1 : x ≤ 4611686018427387904) : wrap64 (-(shr .i64 (wrap64 (-x)) k)) = upq x k.toNat := by
  rw [w64 (x := -x) (by omega) (by omega), shr_eq hk]
  have := div_bound (-x) k.toNat 4611686018427387904 (by omega) (by omega)
  exact w64 (by omega) (by omega)
theorem up_down (x : Int) (n : Nat) : 0 ≤ upq x n - x / 2 ^ n ∧ upq x n - x / 2 ^ n ≤ 1 ∧ (upq x n = x / 2 ^ n ↔ x / 2 ^ n * 2 ^ n = x) := by
  have hp := pow_pos' n
  have e := Int.neg_ediv (a := x) (b := 2 ^ n)
  have s : (2 ^ n : Int).sign = 1 := Int.sign_eq_one_of_pos hp
  unfold upq
  rw [e, s]
  by_cases hd : (2 ^ n : Int) ∣ x
  · rw [if_pos hd]
    refine ⟨by omega, by omega, fun _ => Int.ediv_mul_cancel hd, fun _ => by omega⟩
  · rw [if_neg hd]
    refine ⟨by omega, by omega, fun h => by omega, fun h => absurd ⟨x / 2 ^ n, by rw [Int.mul_comm]; exact h.symm⟩ hd⟩
theorem div_div (x : Int) (a b : Nat) : x / 2 ^ a / 2 ^ b = x / 2 ^ (a + b) := by
  rw [Int.ediv_ediv_of_nonneg (Int.le_of_lt (pow_pos' a)), Int.pow_add]
theorem up_up (x : Int) (a b : Nat) : upq (upq x a) b = upq x (a + b) := by
  unfold upq
  rw [Int.neg_neg, div_div]
theorem ofInt_toNat (n : Nat) (x : Int) : ((BitVec.ofInt n x).toNat : Int) = x % 2 ^ n := by
  rw [BitVec.toNat_ofInt, Int.toNat_of_nonneg (Int.emod_nonneg _ (by exact_mod_cast Int.ne_of_gt (pow_pos' n)))]
  simp
theorem mask_low (x : Int) {n : Nat} (hn : n < 63) : Go.bits .and .i64 x (2 ^ n - 1) = x % 2 ^ n := by
  have hp := pow_pos' n
  have hb : (2 : Nat) ^ n ≤ 2 ^ 62 := Nat.pow_le_pow_right (by omega) (by omega)
  have e : ((BitVec.ofInt 64 x &&& BitVec.ofInt 64 (2 ^ n - 1)).toNat : Int) = x % 2 ^ n := by
    have e1 : (BitVec.ofInt 64 ((2 : Int) ^ n - 1)).toNat = 2 ^ n - 1 := by
      have h := ofInt_toNat 64 ((2 : Int) ^ n - 1)
      have hb' : (2 : Int) ^ n ≤ 2 ^ 62 := by exact_mod_cast hb
      rw [Int.emod_eq_of_lt (by omega) (by omega)] at h
      have : (1 : Nat) ≤ 2 ^ n := Nat.one_le_two_pow
      have h2 : (((2 : Nat) ^ n - 1 : Nat) : Int) = (2 : Int) ^ n - 1 := by
        rw [Int.ofNat_sub this]; simp
      omega
    rw [BitVec.toNat_and, e1, Nat.and_two_pow_sub_one_eq_mod]
    push_cast
    rw [ofInt_toNat, Int.emod_emod_of_dvd]
    exact ⟨2 ^ (64 - n), by rw [← Int.pow_add]; congr 1; omega⟩
  show IntKind.i64.wrap ((BitVec.ofInt 64 x &&& BitVec.ofInt 64 (2 ^ n - 1)).toNat : Int) = _
  rw [e, wi64]
  have h1 := Int.emod_nonneg x (Int.ne_of_gt hp)
  have h2 := Int.emod_lt_of_pos x hp
  have hb' : (2 : Int) ^ n ≤ 2 ^ 62 := by exact_mod_cast hb
  exact w64 (by omega) (by omega)
theorem toInt_nat (n : Nat) (x : BitVec n) : (x.toNat : Int) < 2 ^ n := by exact_mod_cast x.isLt
/-- '^' with all bits 1, as u64 -/
theorem xor_ones_u64 {x : Int} (h0 : 0 ≤ x) (h1 : x ≤ 18446744073709551615) : Go.bits .xor .u64 x 18446744073709551615 = 18446744073709551615 - x := by
  show IntKind.u64.wrap ((BitVec.ofInt 64 x ^^^ BitVec.ofInt 64 18446744073709551615).toNat : Int) = _
  rw [show BitVec.ofInt 64 18446744073709551615 = BitVec.allOnes 64 from by decide, BitVec.xor_allOnes, BitVec.toNat_not, wu64]
  have h := ofInt_toNat 64 x
  have := (BitVec.ofInt 64 x).isLt
  omega
theorem xor_zero_u64 {x : Int} (h0 : 0 ≤ x) (h1 : x ≤ 18446744073709551615) : Go.bits .xor .u64 x 0 = x := by
  show IntKind.u64.wrap ((BitVec.ofInt 64 x ^^^ BitVec.ofInt 64 0).toNat : Int) = _
  rw [show BitVec.ofInt 64 0 = 0#64 from by decide, BitVec.xor_zero, wu64]
  have h := ofInt_toNat 64 x
  omega
theorem xor_ones_i64 {x : Int} (h0 : -9223372036854775808 ≤ x) (h1 : x ≤ 9223372036854775807) : Go.bits .xor .i64 x (-1) = -1 - x := by
  show IntKind.i64.wrap ((BitVec.ofInt 64 x ^^^ BitVec.ofInt 64 (-1)).toNat : Int) = _
  rw [show BitVec.ofInt 64 (-1) = BitVec.allOnes 64 from by decide, BitVec.xor_allOnes, BitVec.toNat_not, wi64]
  have h := ofInt_toNat 64 x
  have := (BitVec.ofInt 64 x).isLt
  unfold wrap64
  omega
theorem xor_zero_i64 {x : Int} (h0 : -9223372036854775808 ≤ x) (h1 : x ≤ 9223372036854775807) : Go.bits .xor .i64 x 0 = x := by
  show IntKind.i64.wrap ((BitVec.ofInt 64 x ^^^ BitVec.ofInt 64 0).toNat : Int) = _
  rw [show BitVec.ofInt 64 0 = 0#64 from by decide, BitVec.xor_zero, wi64]
  have h := ofInt_toNat 64 x
  unfold wrap64
  omega
theorem mask_low_u64 (x : Int) {n : Nat} (hn : n < 64) : Go.bits .and .u64 x (2 ^ n - 1) = x % 2 ^ n := by
  have hp := pow_pos' n
  have hb : (2 : Nat) ^ n ≤ 2 ^ 63 := Nat.pow_le_pow_right (by omega) (by omega)
  have e : ((BitVec.ofInt 64 x &&& BitVec.ofInt 64 (2 ^ n - 1)).toNat : Int) = x % 2 ^ n := by
    have e1 : (BitVec.ofInt 64 ((2 : Int) ^ n - 1)).toNat = 2 ^ n - 1 := by
      have h := ofInt_toNat 64 ((2 : Int) ^ n - 1)
      have hb' : (2 : Int) ^ n ≤ 2 ^ 63 := by exact_mod_cast hb
      rw [Int.emod_eq_of_lt (by omega) (by omega)] at h
      have : (1 : Nat) ≤ 2 ^ n := Nat.one_le_two_pow
      have h2 : (((2 : Nat) ^ n - 1 : Nat) : Int) = (2 : Int) ^ n - 1 := by
        rw [Int.ofNat_sub this]; simp
      omega
    rw [BitVec.toNat_and, e1, Nat.and_two_pow_sub_one_eq_mod]
    push_cast
    rw [ofInt_toNat, Int.emod_emod_of_dvd]
    exact ⟨2 ^ (64 - n), by rw [← Int.pow_add]; congr 1; omega⟩
  show IntKind.u64.wrap ((BitVec.ofInt 64 x &&& BitVec.ofInt 64 (2 ^ n - 1)).toNat : Int) = _
  rw [e, wu64]
  have h1 := Int.emod_nonneg x (Int.ne_of_gt hp)
  have h2 := Int.emod_lt_of_pos x hp
  have hb' : (2 : Int) ^ n ≤ 2 ^ 63 := by exact_mod_cast hb
  omega
/-- '|' of bits that have none in common -/
theorem or_add_nat {a b n m : Nat} (hb : b < 2 ^ n) (hs : a * 2 ^ n + b < 2 ^ m) : ((BitVec.ofInt m ((a * 2 ^ n : Nat) : Int) ||| BitVec.ofInt m (b : Int)).toNat : Int) = (a * 2 ^ n + b : Nat) := by
  have ha : a * 2 ^ n < 2 ^ m := by omega
  have hb2 : b < 2 ^ m := by omega
  have t : ∀ c : Nat, c < 2 ^ m → (BitVec.ofInt m (c : Int)).toNat = c := by
    intro c hc
    have h := ofInt_toNat m (c : Int)
    rw [Int.emod_eq_of_lt (by omega) (by exact_mod_cast hc)] at h
    exact_mod_cast h
  rw [BitVec.toNat_or, t _ ha, t _ hb2, ← Nat.shiftLeft_eq, ← Nat.shiftLeft_add_eq_or_of_lt hb]
theorem or_add_u32 {A B : Int} {n : Nat} (hA : 0 ≤ A) (hB : 0 ≤ B) (hB2 : B < 2 ^ n) (hs : A * 2 ^ n + B ≤ 4294967295) : Go.bits .or .u32 (A * 2 ^ n) B = A * 2 ^ n + B := by
  obtain ⟨a, rfl⟩ := Int.eq_ofNat_of_zero_le hA
  obtain ⟨b, rfl⟩ := Int.eq_ofNat_of_zero_le hB
  have hb : b < 2 ^ n := by exact_mod_cast hB2
  have hN : ((a * 2 ^ n : Nat) : Int) = (a : Int) * 2 ^ n := by push_cast; rfl
  rw [← hN] at hs ⊢
  have hs' : a * 2 ^ n + b < 2 ^ 32 := by omega
  show IntKind.u32.wrap ((BitVec.ofInt 32 ((a * 2 ^ n : Nat) : Int) ||| BitVec.ofInt 32 (b : Int)).toNat : Int) = _
  rw [or_add_nat hb hs', wu32]
  omega
end Go.Proofs.Ytpdhcgicnhgfoaa.Mth

