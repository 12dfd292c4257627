/- What the sum is, in plain Lean: a step for each bit, each of them can be turned back. It holds for all bytes, no condition but that they are bytes. -/
import Derived.Test.YtmklgjcflgjbjaaOf
import Derived.Test.YtmklgjcflgjbjaaMth
namespace Go.Proofs.Ytmklgjcflgjbjaa.Sum
open Go.RowKit Go.Proofs.Ytmklgjcflgjbjaa.Mth
def P : BitVec 32 := 3988292384#32
def bstep (c : BitVec 32) : BitVec 32 := if c.getLsbD 0 then (c >>> 1) ^^^ P else c >>> 1
def bsteps : Nat → BitVec 32 → BitVec 32
  | 0, c => c
  | n + 1, c => bsteps n (bstep c)
theorem bstep_xor (a b : BitVec 32) : bstep (a ^^^ b) = bstep a ^^^ bstep b := by
  unfold bstep
  rw [BitVec.getLsbD_xor, BitVec.ushiftRight_xor_distrib]
  cases a.getLsbD 0 <;> cases b.getLsbD 0
  · simp
  · simp [BitVec.xor_assoc]
  · simp only [Bool.bne_false, if_true, Bool.false_eq_true, if_false]
    rw [BitVec.xor_assoc, BitVec.xor_assoc, BitVec.xor_comm P]
  · simp only [bne_self_eq_false, Bool.false_eq_true, if_false, if_true]
    rw [BitVec.xor_assoc, ← BitVec.xor_assoc P, BitVec.xor_comm P, BitVec.xor_assoc (b >>> 1), BitVec.xor_self, BitVec.xor_zero]
theorem bsteps_xor : ∀ (n : Nat) (a b : BitVec 32), bsteps n (a ^^^ b) = bsteps n a ^^^ bsteps n b := by
  intro n
  induction n with
  | zero => intro a b; rfl
  | succ n ih => intro a b; simp only [bsteps]; rw [bstep_xor, ih]
theorem bstep_msb (a : BitVec 32) : (bstep a).getLsbD 31 = a.getLsbD 0 := by
  unfold bstep
  cases h : a.getLsbD 0 <;> simp [P]
theorem bstep_inj {a b : BitVec 32} (h : bstep a = bstep b) : a = b := by
  have h0 : a.getLsbD 0 = b.getLsbD 0 := by rw [← bstep_msb, ← bstep_msb, h]
  have h1 : a >>> 1 = b >>> 1 := by
    unfold bstep at h
    rw [h0] at h
    split at h
    · have := congrArg (· ^^^ P) h
      simpa [BitVec.xor_assoc] using this
    · exact h
  apply BitVec.eq_of_getLsbD_eq
  intro i hi
  cases i with
  | zero => exact h0
  | succ i =>
    have := congrArg (fun x => BitVec.getLsbD x i) h1
    simp only [BitVec.getLsbD_ushiftRight] at this
    rw [Nat.add_comm 1 i] at this
    exact this
theorem bsteps_inj : ∀ (n : Nat) {a b : BitVec 32}, bsteps n a = bsteps n b → a = b := by
  intro n
  induction n with
  | zero => intro a b h; exact h
  | succ n ih => intro a b h; exact bstep_inj (ih h)
theorem bsteps_high : ∀ (n : Nat) (y : BitVec 32), (∀ i, i < n → y.getLsbD i = false) → bsteps n y = y >>> n := by
  intro n
  induction n with
  | zero => intro y _; simp [bsteps]
  | succ n ih =>
    intro y h
    have e : bstep y = y >>> 1 := by unfold bstep; rw [h 0 (by omega)]; simp
    rw [bsteps, e, ih (y >>> 1) (fun i hi => by rw [BitVec.getLsbD_ushiftRight, Nat.add_comm]; exact h (i + 1) (by omega)), ← BitVec.shiftRight_add, Nat.add_comm]
/-- a byte at once, by the table -/
theorem byte_step (c x : BitVec 32) (hx : ∀ i, 8 ≤ i → x.getLsbD i = false) : bsteps 8 ((c ^^^ x) &&& 255#32) ^^^ (c >>> 8) = bsteps 8 (c ^^^ x) := by
  have e : c ^^^ x = ((c ^^^ x) &&& 255#32) ^^^ (c &&& 4294967040#32) := by
    apply BitVec.eq_of_getLsbD_eq
    intro i hi
    have hm : ∀ i, i < 32 → (255#32).getLsbD i = decide (i < 8) ∧ (4294967040#32).getLsbD i = decide (8 ≤ i) := by decide
    simp only [BitVec.getLsbD_xor, BitVec.getLsbD_and, (hm i hi).1, (hm i hi).2]
    by_cases c8 : i < 8
    · rw [decide_eq_true c8, decide_eq_false (by omega)]; simp
    · rw [decide_eq_false c8, decide_eq_true (by omega), hx i (by omega)]; simp
  conv => rhs; rw [e]
  rw [bsteps_xor, bsteps_high 8 (c &&& 4294967040#32) (fun i hi => by
    have hm : ∀ i, i < 8 → (4294967040#32).getLsbD i = false := by decide
    rw [BitVec.getLsbD_and, hm i hi, Bool.and_false])]
  congr 1
  apply BitVec.eq_of_getLsbD_eq
  intro i hi
  have hm : ∀ i, i < 32 → (4294967040#32).getLsbD i = decide (8 ≤ i) := by decide
  rw [BitVec.getLsbD_ushiftRight, BitVec.getLsbD_ushiftRight, BitVec.getLsbD_and]
  by_cases c24 : 8 + i < 32
  · rw [hm _ c24, decide_eq_true (by omega), Bool.and_true]
  · rw [BitVec.getLsbD_of_ge c (8 + i) (by omega), Bool.false_and]
/-! ### numbers as bits -/
def bv (c : Int) : BitVec 32 := BitVec.ofInt 32 c
theorem bvlt (x : BitVec 32) : (x.toNat : Int) < 4294967296 := by have := x.isLt; omega
theorem bsteps_last : ∀ (n : Nat) (c : BitVec 32), bsteps (n + 1) c = bstep (bsteps n c) := by
  intro n
  induction n with
  | zero => intro c; rfl
  | succ n ih => intro c; exact ih (bstep c)
theorem bv_toNat {c : Int} (h0 : 0 ≤ c) (h1 : c < 4294967296) : ((bv c).toNat : Int) = c := by
  unfold bv
  rw [ofInt_toNat, Int.emod_eq_of_lt h0 (by omega)]
theorem bv_inj {a b : Int} (ha : 0 ≤ a ∧ a < 4294967296) (hb : 0 ≤ b ∧ b < 4294967296) (h : bv a = bv b) : a = b := by
  rw [← bv_toNat ha.1 ha.2, ← bv_toNat hb.1 hb.2, h]
theorem bv_of (x : BitVec 32) : bv (x.toNat : Int) = x := by unfold bv; simp
theorem xor_u32 (a b : Int) : Go.bits .xor .u32 a b = ((bv a ^^^ bv b).toNat : Int) := by
  show IntKind.u32.wrap ((BitVec.ofInt 32 a ^^^ BitVec.ofInt 32 b).toNat : Int) = _
  rw [wu32, Int.emod_eq_of_lt (by omega) (bvlt _)]
  rfl
theorem and_one_u32 {c : Int} : Go.bits .and .u32 c 1 = c % 2 := by
  show IntKind.u32.wrap ((BitVec.ofInt 32 c &&& BitVec.ofInt 32 1).toNat : Int) = _
  have e : (BitVec.ofInt 32 (1 : Int)).toNat = 2 ^ 1 - 1 := by decide
  rw [wu32, BitVec.toNat_and, e, Nat.and_two_pow_sub_one_eq_mod]
  have h := ofInt_toNat 32 c
  omega
theorem bv_half {c : Int} (h0 : 0 ≤ c) (h1 : c < 4294967296) (n : Nat) : bv (c / 2 ^ n) = bv c >>> n := by
  apply BitVec.eq_of_toNat_eq
  have hd := div_bound c n 4294967295 (by omega) (by omega)
  have h2 : 0 ≤ c / 2 ^ n := Int.ediv_nonneg h0 (Int.le_of_lt (pow_pos' n))
  have e1 := bv_toNat h2 (by omega)
  rw [BitVec.toNat_ushiftRight, Nat.shiftRight_eq_div_pow]
  have e2 := bv_toNat h0 h1
  have : (((bv c).toNat / 2 ^ n : Nat) : Int) = c / 2 ^ n := by rw [Int.natCast_ediv, e2]; push_cast; rfl
  omega
theorem bv_lsb {c : Int} (h0 : 0 ≤ c) (h1 : c < 4294967296) : (bv c).getLsbD 0 = decide (c % 2 = 1) := by
  have e2 := bv_toNat h0 h1
  have : (bv c).getLsbD 0 = decide ((bv c).toNat % 2 = 1) := by
    rw [BitVec.getLsbD, Nat.testBit_zero]
  rw [this, decide_eq_decide]
  omega
theorem cstep_bv {c : Int} (h0 : 0 ≤ c) (h1 : c < 4294967296) : cstep c = ((bstep (bv c)).toNat : Int) := by
  unfold cstep bstep
  rw [and_one_u32, bv_lsb h0 h1, xor_u32]
  have hh := bv_half h0 h1 1
  rw [Int.pow_one] at hh
  rw [hh]
  by_cases c1 : c % 2 = 1
  · rw [if_pos c1, if_pos (decide_eq_true c1)]; rfl
  · rw [if_neg c1, if_neg (by simpa using c1), ← hh, bv_toNat (by omega) (by omega)]
theorem csteps_bv : ∀ (n : Nat) (c : Int), 0 ≤ c → c < 4294967296 → csteps n c = ((bsteps n (bv c)).toNat : Int) := by
  intro n
  induction n with
  | zero => intro c h0 h1; exact (bv_toNat h0 h1).symm
  | succ n ih =>
    intro c h0 h1
    rw [csteps, ih c h0 h1, cstep_bv (by omega) (bvlt _), bv_of, bsteps_last]
theorem xor_u8 {a b : Int} (ha : 0 ≤ a ∧ a < 256) (hb : 0 ≤ b ∧ b < 256) : bv (Go.bits .xor .u8 a b) = bv a ^^^ bv b := by
  show bv (IntKind.u8.wrap ((BitVec.ofInt 8 a ^^^ BitVec.ofInt 8 b).toNat : Int)) = _
  have e1 := ofInt_toNat 8 a
  have e2 := ofInt_toNat 8 b
  have e3 := bv_toNat (c := a) ha.1 (by omega)
  have e4 := bv_toNat (c := b) hb.1 (by omega)
  have l := (BitVec.ofInt 8 a ^^^ BitVec.ofInt 8 b).isLt
  rw [wu8, Int.emod_eq_of_lt (by omega) (by omega)]
  apply BitVec.eq_of_toNat_eq
  have := bv_toNat (c := ((BitVec.ofInt 8 a ^^^ BitVec.ofInt 8 b).toNat : Int)) (by omega) (by omega)
  rw [BitVec.toNat_xor, BitVec.toNat_xor] at *
  rw [show (bv a).toNat = (BitVec.ofInt 8 a).toNat from by omega, show (bv b).toNat = (BitVec.ofInt 8 b).toNat from by omega]
  omega
theorem bv_low {c : Int} (h0 : 0 ≤ c) (h1 : c < 4294967296) : bv (c % 256) = bv c &&& 255#32 := by
  apply BitVec.eq_of_toNat_eq
  have e1 := bv_toNat (c := c % 256) (by omega) (by omega)
  have e2 := bv_toNat h0 h1
  rw [BitVec.toNat_and, show (255#32).toNat = 2 ^ 8 - 1 from rfl, Nat.and_two_pow_sub_one_eq_mod]
  omega
theorem byte_high {x : Int} (h0 : 0 ≤ x) (h1 : x < 256) : ∀ i, 8 ≤ i → (bv x).getLsbD i = false := by
  intro i hi
  have e := bv_toNat (c := x) h0 (by omega)
  rw [BitVec.getLsbD]
  apply Nat.testBit_lt_two_pow
  have : (2 : Nat) ^ 8 ≤ 2 ^ i := Nat.pow_le_pow_right (by omega) hi
  omega
theorem upd_bv {c x : Int} (hc : 0 ≤ c ∧ c < 4294967296) (hx : 0 ≤ x ∧ x < 256) : upd c x = ((bsteps 8 (bv c ^^^ bv x)).toNat : Int) := by
  unfold upd tabv
  have hb := xor8_bound (c % 256) x
  rw [Int.toNat_of_nonneg hb.1, csteps_bv 8 _ hb.1 (by omega), xor_u32, bv_of, xor_u8 ⟨by omega, by omega⟩ hx, bv_low hc.1 hc.2]
  have hh := bv_half hc.1 hc.2 8
  rw [show (2 : Int) ^ 8 = 256 from rfl] at hh
  rw [hh]
  have := byte_step (bv c) (bv x) (byte_high hx.1 hx.2)
  have e : (bv c ^^^ bv x) &&& 255#32 = (bv c &&& 255#32) ^^^ bv x := by
    apply BitVec.eq_of_getLsbD_eq
    intro i hi
    have hm : ∀ i, i < 32 → (255#32).getLsbD i = decide (i < 8) := by decide
    simp only [BitVec.getLsbD_xor, BitVec.getLsbD_and, hm i hi]
    by_cases c8 : i < 8
    · rw [decide_eq_true c8]; simp
    · rw [decide_eq_false c8, byte_high hx.1 hx.2 i (by omega)]; simp
  rw [e] at this
  rw [this]
def crcB (c : BitVec 32) : List Int → BitVec 32
  | [] => c
  | x :: r => crcB (bsteps 8 (c ^^^ bv x)) r
def Bytes (l : List Int) : Prop := ∀ x ∈ l, 0 ≤ x ∧ x ≤ 255
theorem crcGo_bv : ∀ (l : List Int) (c : Int), Bytes l → 0 ≤ c ∧ c < 4294967296 → crcGo c l = ((crcB (bv c) l).toNat : Int) := by
  intro l
  induction l with
  | nil => intro c _ hc; exact (bv_toNat hc.1 hc.2).symm
  | cons x r ih =>
    intro c h hc
    have hx := h x (by simp)
    simp only [crcGo, crcB]
    rw [upd_bv hc ⟨hx.1, by omega⟩, ih _ (fun y hy => h y (List.mem_cons_of_mem _ hy)) ⟨by omega, bvlt _⟩, bv_of]
theorem crcB_append (a b : List Int) : ∀ c, crcB c (a ++ b) = crcB (crcB c a) b := by
  induction a with
  | nil => intro c; rfl
  | cons x a ih => intro c; exact ih _
theorem crcB_inj : ∀ (l : List Int) {a b : BitVec 32}, crcB a l = crcB b l → a = b := by
  intro l
  induction l with
  | nil => intro a b h; exact h
  | cons x r ih =>
    intro a b h
    have := bsteps_inj 8 (ih h)
    have h2 := congrArg (· ^^^ bv x) this
    simpa [BitVec.xor_assoc] using h2
/-- one byte turned: another sum -/
theorem crcB_turn {pre post : List Int} {x y : Int} (hx : 0 ≤ x ∧ x ≤ 255) (hy : 0 ≤ y ∧ y ≤ 255) (hne : x ≠ y) (c : BitVec 32) : crcB c (pre ++ x :: post) ≠ crcB c (pre ++ y :: post) := by
  intro h
  rw [crcB_append, crcB_append] at h
  have h1 := bsteps_inj 8 (crcB_inj post h)
  have h2 := congrArg (crcB c pre ^^^ ·) h1
  simp only [← BitVec.xor_assoc, BitVec.xor_self, BitVec.zero_xor] at h2
  exact hne (bv_inj ⟨hx.1, by omega⟩ ⟨hy.1, by omega⟩ h2)
theorem crcAll_flat : ∀ (l : List (List Int)) (c : Int), crcAll c l = crcGo c l.flatten := by
  intro l
  induction l with
  | nil => intro c; rfl
  | cons x r ih =>
    intro c
    have app : ∀ (a b : List Int) (c : Int), crcGo c (a ++ b) = crcGo (crcGo c a) b := by
      intro a
      induction a with
      | nil => intro b c; rfl
      | cons y a ih => intro b c; exact ih _ _
    rw [List.flatten_cons, app]; exact ih _
theorem crcFin_val {c : Int} (h : 0 ≤ c ∧ c < 4294967296) : crcFin c = 4294967295 - c := by
  unfold crcFin
  rw [show IntKind.u32.max = 4294967295 from by decide, xor_u32, show bv 4294967295 = BitVec.allOnes 32 from by decide, BitVec.allOnes_xor, BitVec.toNat_not]
  have := bv_toNat h.1 h.2
  have := (bv c).isLt
  omega
/-- the sum of all parts -/
theorem sum_val {l : List (List Int)} (h : Bytes l.flatten) : crcFin (crcAll 4294967295 l) = 4294967295 - ((crcB (BitVec.allOnes 32) l.flatten).toNat : Int) := by
  rw [crcAll_flat, crcGo_bv _ _ h (by omega), show bv 4294967295 = BitVec.allOnes 32 from by decide]
  exact crcFin_val ⟨by omega, bvlt _⟩
theorem sum_turn {pre post : List Int} {x y : Int} {l m : List (List Int)} (hl : l.flatten = pre ++ x :: post) (hm : m.flatten = pre ++ y :: post) (h1 : Bytes l.flatten) (h2 : Bytes m.flatten) (hne : x ≠ y) : crcFin (crcAll 4294967295 l) ≠ crcFin (crcAll 4294967295 m) := by
  rw [sum_val h1, sum_val h2]
  intro h
  have hx := h1 x (by rw [hl]; simp)
  have hy := h2 y (by rw [hm]; simp)
  rw [hl, hm] at h
  have h3 : (crcB (BitVec.allOnes 32) (pre ++ x :: post)).toNat = (crcB (BitVec.allOnes 32) (pre ++ y :: post)).toNat := by omega
  exact crcB_turn hx hy hne (BitVec.allOnes 32) (BitVec.eq_of_toNat_eq h3)
end Go.Proofs.Ytmklgjcflgjbjaa.Sum
