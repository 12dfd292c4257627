/- What SumOpens computes is true for every input: what any bytes open to, one by one, is the document's. It holds for all its parameters, no condition. -/
import Derived.Test.YtmklgjcflgjbjaaQSumOpensx3
import Derived.Test.YtmklgjcflgjbjaaMth
import Derived.Test.YtmklgjcflgjbjaaCrc
namespace Go.Proofs.Ytmklgjcflgjbjaa.Pure.LSumOpens
open Go.RowKit Go.Proofs.Ytmklgjcflgjbjaa Go.Proofs.Ytmklgjcflgjbjaa.QSumOpens Go.Proofs.YtmklgjcflgjbjaaW.PrintWords Go.Proofs.YtmklgjcflgjbjaaW.PrintLast Go.Proofs.YtmklgjcflgjbjaaW.PrintMore Mth _root_.Go.Proofs.Ytmklgjcflgjbjaa.Sum
theorem awake_val : pluviallaw03_awake.f = some true := rfl
/-- the number of four bytes, the lowest first; fewer: as if 0 stood behind -/
def numV (l : List Int) : Int := l.getD 0 0 + 256 * l.getD 1 0 + 65536 * l.getD 2 0 + 16777216 * l.getD 3 0
def Bytes (l : List Int) : Prop := ∀ x ∈ l, 0 ≤ x ∧ x ≤ 255
theorem Bytes.get {l : List Int} (h : Bytes l) (i : Nat) : 0 ≤ l.getD i 0 ∧ l.getD i 0 ≤ 255 := by
  rw [List.getD_eq_getElem?_getD]
  by_cases hi : i < l.length
  · rw [List.getElem?_eq_getElem hi]; exact h _ (List.getElem_mem hi)
  · rw [List.getElem?_eq_none (by omega)]; simp
theorem or_step {n b : Int} (hn : 0 ≤ n ∧ n ≤ 16777215) (hb : 0 ≤ b ∧ b ≤ 255) : Go.bits .or .u32 ((n * 256) % 4294967296) (b % 4294967296) = n * 256 + b := by
  rw [show n * 256 % 4294967296 = n * 2 ^ 8 from by omega, show b % 4294967296 = b from by omega, or_add_u32 hn.1 hb.1 (by omega) (by omega)]; omega
/-- one round -/
theorem num_step {l : List Int} (h : Bytes l) (k i : Nat) (n : Int) (hi : i < l.length) (hn : 0 ≤ n ∧ n ≤ 16777215) (hi3 : i ≤ 3) :
    sum_Number.l0 (k + 1) l n (i : Int) = sum_Number.l0 k l (n * 256 + l.getD i 0) ((i : Int) - 1) := by
  have hb := h.get i
  simp only [sum_Number.l0]
  have er : rd l (i : Int) = l.getD i 0 := by unfold rd; simp
  rw [if_pos (by omega), if_pos (by omega), if_pos (by omega), er, or_step hn hb, w64 (by omega) (by omega)]
theorem num_end (k : Nat) (l : List Int) (n : Int) : sum_Number.l0 (k + 1) l n (-1) = some n := by
  simp only [sum_Number.l0]; rw [if_neg (by omega)]
theorem number_val {l : List Int} (h : Bytes l) {k : Nat} (hk : 6 ≤ k) : sum_Number.f k l = some (numV l) := by
  obtain ⟨k, rfl⟩ : ∃ m, k = m + 6 := ⟨k - 6, by omega⟩
  have g0 := h.get 0
  have g1 := h.get 1
  have g2 := h.get 2
  have g3 := h.get 3
  unfold sum_Number.f numV
  have gz : ∀ i, l.length ≤ i → l.getD i 0 = 0 := by
    intro i hi; rw [List.getD_eq_getElem?_getD, List.getElem?_eq_none hi]; rfl
  by_cases c : 4 ≤ l.length
  · have em : mn (l.length : Int) 4 = 4 := by unfold mn; split <;> omega
    rw [em]
    rw [show (4 : Int) - 1 = ((3 : Nat) : Int) from rfl, num_step h (k + 5) 3 0 (by omega) (by omega) (by omega)]
    rw [show ((3 : Nat) : Int) - 1 = ((2 : Nat) : Int) from rfl, num_step h (k + 4) 2 _ (by omega) (by omega) (by omega)]
    rw [show ((2 : Nat) : Int) - 1 = ((1 : Nat) : Int) from rfl, num_step h (k + 3) 1 _ (by omega) (by omega) (by omega)]
    rw [show ((1 : Nat) : Int) - 1 = ((0 : Nat) : Int) from rfl, num_step h (k + 2) 0 _ (by omega) (by omega) (by omega)]
    rw [show ((0 : Nat) : Int) - 1 = -1 from rfl, num_end]
    congr 1; omega
  · have z3 := gz 3 (by omega)
    have em : mn (l.length : Int) 4 = l.length := by unfold mn; split <;> omega
    rw [em]
    by_cases c2 : l.length = 3
    · rw [c2, show ((3 : Nat) : Int) - 1 = ((2 : Nat) : Int) from rfl, num_step h (k + 5) 2 0 (by omega) (by omega) (by omega)]
      rw [show ((2 : Nat) : Int) - 1 = ((1 : Nat) : Int) from rfl, num_step h (k + 4) 1 _ (by omega) (by omega) (by omega)]
      rw [show ((1 : Nat) : Int) - 1 = ((0 : Nat) : Int) from rfl, num_step h (k + 3) 0 _ (by omega) (by omega) (by omega)]
      rw [show ((0 : Nat) : Int) - 1 = -1 from rfl, num_end]
      congr 1; omega
    · have z2 := gz 2 (by omega)
      by_cases c1 : l.length = 2
      · rw [c1, show ((2 : Nat) : Int) - 1 = ((1 : Nat) : Int) from rfl, num_step h (k + 5) 1 0 (by omega) (by omega) (by omega)]
        rw [show ((1 : Nat) : Int) - 1 = ((0 : Nat) : Int) from rfl, num_step h (k + 4) 0 _ (by omega) (by omega) (by omega)]
        rw [show ((0 : Nat) : Int) - 1 = -1 from rfl, num_end]
        congr 1; omega
      · have z1 := gz 1 (by omega)
        by_cases c0 : l.length = 1
        · rw [c0, show ((1 : Nat) : Int) - 1 = ((0 : Nat) : Int) from rfl, num_step h (k + 5) 0 0 (by omega) (by omega) (by omega)]
          rw [show ((0 : Nat) : Int) - 1 = -1 from rfl, num_end]
          congr 1; omega
        · have z0 := gz 0 (by omega)
          rw [show (l.length : Int) - 1 = -1 from by omega, num_end]
          congr 1; omega
/-- four bytes of a number -/
def four (n : Int) : List Int := [n % 256, n / 256 % 256, n / 65536 % 256, n / 16777216 % 256]
theorem four_bytes (n : Int) : Bytes (four n) := by
  intro x hx; simp only [four, List.mem_cons, List.not_mem_nil, or_false] at hx; omega
theorem four_num {n : Int} (h : 0 ≤ n ∧ n ≤ 4294967295) (r : List Int) : numV (four n ++ r) = n := by
  simp only [numV, four, List.cons_append, List.getD_cons_zero, List.getD_cons_succ]; omega
theorem str_toList (l : List Int) : (strOfNums l).toList = l.map fun n => UInt8.ofNat n.toNat := by
  rw [ByteArray.toList_eq]; simp [strOfNums]
theorem str_inj {a b : List Int} (ha : Bytes a) (hb : Bytes b) (h : (strOfNums a).toList = (strOfNums b).toList) : a = b := by
  rw [str_toList, str_toList] at h
  induction a generalizing b with
  | nil => cases b with
    | nil => rfl
    | cons y b => simp at h
  | cons x a ih => cases b with
    | nil => simp at h
    | cons y b =>
      simp only [List.map_cons, List.cons.injEq] at h
      have hx := ha x (by simp)
      have hy := hb y (by simp)
      have e := congrArg UInt8.toNat h.1
      simp only [UInt8.toNat_ofNat'] at e
      rw [ih (fun z hz => ha z (List.mem_cons_of_mem _ hz)) (fun z hz => hb z (List.mem_cons_of_mem _ hz)) h.2]
      congr 1; omega
/-! ### the document's sum -/
/-- R is C, turned about -/
def Rev (R C : BitVec 32) : Prop := ∀ i, i < 32 → R.getLsbD i = C.getLsbD (31 - i)
/-- a bit, as the document puts it in -/
def rbit (R : BitVec 32) (b : Bool) : BitVec 32 := if R.getLsbD 31 != b then (R <<< 1) ^^^ 79764919#32 else R <<< 1
theorem rbit_rev {R C : BitVec 32} (h : Rev R C) (b : Bool) : Rev (rbit R b) (bstep (C ^^^ (if b then 1#32 else 0#32))) := by
  intro i hi
  have h31 := h 31 (by omega)
  have hP : ∀ i, i < 32 → (79764919#32).getLsbD i = P.getLsbD (31 - i) := by decide
  have h1 : (1#32).getLsbD 0 = true ∧ ∀ i, i < 32 → (1#32).getLsbD (i + 1) = false := by decide
  have e0 : (C ^^^ (if b then 1#32 else 0#32)).getLsbD 0 = (R.getLsbD 31 != b) := by
    rw [BitVec.getLsbD_xor, h31]
    cases b <;> simp
  have ej : ∀ j, j < 32 → ((C ^^^ (if b then 1#32 else 0#32)) >>> 1).getLsbD j = C.getLsbD (1 + j) := by
    intro j hj
    rw [BitVec.getLsbD_ushiftRight, BitVec.getLsbD_xor]
    cases b
    · simp
    · rw [if_pos rfl, Nat.add_comm 1 j, h1.2 j hj]; simp
  have es : (R <<< 1).getLsbD i = C.getLsbD (1 + (31 - i)) := by
    rw [BitVec.getLsbD_shiftLeft]
    by_cases c : i = 0
    · subst c; simp [BitVec.getLsbD_of_ge]
    · rw [decide_eq_true hi, decide_eq_false (by omega), h (i - 1) (by omega), show 31 - (i - 1) = 1 + (31 - i) from by omega]; rfl
  unfold rbit bstep
  rw [e0]
  by_cases c : (R.getLsbD 31 != b) = true
  · rw [if_pos c, if_pos c, BitVec.getLsbD_xor, BitVec.getLsbD_xor, ej _ (by omega), es, hP i hi]
  · rw [if_neg c, if_neg c, ej _ (by omega), es]
/-- eight bits, the lowest first, are a byte -/
def rbits : Nat → BitVec 32 → Int → BitVec 32
  | 0, R, _ => R
  | n + 1, R, x => rbits n (rbit R (decide (x % 2 = 1))) (x / 2)
theorem bv_split {x : Int} (h0 : 0 ≤ x) (h1 : x < 256) : bv x = (if decide (x % 2 = 1) then 1#32 else 0#32) ^^^ (bv (x / 2) <<< 1) := by
  apply BitVec.eq_of_getLsbD_eq
  intro i hi
  have e : bv (x / 2) = bv x >>> 1 := by have := bv_half h0 (by omega) 1; rw [Int.pow_one] at this; exact this
  have h1' : (1#32).getLsbD 0 = true ∧ ∀ i, i < 32 → (1#32).getLsbD (i + 1) = false := by decide
  rw [BitVec.getLsbD_xor, BitVec.getLsbD_shiftLeft, e, BitVec.getLsbD_ushiftRight]
  cases i with
  | zero =>
    rw [bv_lsb h0 (by omega)]
    cases decide (x % 2 = 1) <;> simp
  | succ i =>
    rw [decide_eq_true hi, decide_eq_false (show ¬ (i + 1 < 1) from by omega), show 1 + (i + 1 - 1) = i + 1 from by omega]
    cases decide (x % 2 = 1)
    · simp
    · rw [if_pos rfl, h1'.2 i (by omega)]; simp
theorem rbits_rev : ∀ (n : Nat) (R C : BitVec 32) (x : Int), n ≤ 8 → 0 ≤ x → x < 2 ^ n → Rev R C → Rev (rbits n R x) (bsteps n (C ^^^ bv x)) := by
  intro n
  induction n with
  | zero =>
    intro R C x _ h0 h1 h
    have : x = 0 := by rw [Int.pow_zero] at h1; omega
    subst this
    simpa [rbits, bsteps, bv] using h
  | succ n ih =>
    intro R C x hn h0 h1 h
    have hp : (2 : Int) ^ (n + 1) ≤ 2 ^ 8 := by exact_mod_cast Nat.pow_le_pow_right (n := 2) (by omega) hn
    have h256 : x < 256 := by omega
    rw [Int.pow_succ] at h1
    have := ih (rbit R (decide (x % 2 = 1))) (bstep (C ^^^ (if decide (x % 2 = 1) then 1#32 else 0#32))) (x / 2) (by omega) (by omega) (by omega) (rbit_rev h _)
    simp only [rbits, bsteps]
    have e : bstep (C ^^^ bv x) = bstep (C ^^^ (if decide (x % 2 = 1) then 1#32 else 0#32)) ^^^ bv (x / 2) := by
      rw [bv_split h0 h256, ← BitVec.xor_assoc, bstep_xor]
      congr 1
      have hz : (bv (x / 2) <<< 1).getLsbD 0 = false := by rw [BitVec.getLsbD_shiftLeft]; simp
      unfold bstep
      rw [hz, if_neg (by simp)]
      apply BitVec.eq_of_getLsbD_eq
      intro i hi
      rw [BitVec.getLsbD_ushiftRight, BitVec.getLsbD_shiftLeft]
      by_cases c : 1 + i < 32
      · rw [decide_eq_true c, decide_eq_false (by omega), show 1 + i - 1 = i from by omega]; simp
      · rw [decide_eq_false c, byte_high (by omega) (by omega) i (by omega)]; simp
    rw [e]
    exact this
def refGo (R : BitVec 32) : List Int → BitVec 32
  | [] => R
  | x :: r => refGo (rbits 8 R x) r
theorem refGo_rev : ∀ (l : List Int) (R C : BitVec 32), Bytes l → Rev R C → Rev (refGo R l) (crcB C l) := by
  intro l
  induction l with
  | nil => intro R C _ h; exact h
  | cons x r ih =>
    intro R C hb h
    have hx := hb x (by simp)
    exact ih _ _ (fun y hy => hb y (List.mem_cons_of_mem _ hy)) (rbits_rev 8 R C x (by omega) hx.1 (by omega) h)
theorem refbit_val (R : BitVec 32) (x : Int) (k : Nat) (l : List Int) (i j : Int) (hx : 0 ≤ x ∧ x ≤ 255) (hj : 0 ≤ j ∧ j < 8) :
    pluvialref03_Of.l1 (k + 1) l (R.toNat : Int) i x j = pluvialref03_Of.l1 k l ((rbit R (decide (x % 2 = 1))).toNat : Int) i (x / 2) (j + 1) := by
  have hR := bvlt R
  simp only [pluvialref03_Of.l1]
  rw [if_pos (by omega), Int.tdiv_eq_ediv_of_nonneg (by omega), Int.tmod_eq_emod_of_nonneg hx.1, Int.tdiv_eq_ediv_of_nonneg hx.1, wu64, wu64, wu64, w64 (by omega) (by omega), Int.emod_eq_of_lt (a := x / 2) (by omega) (by omega), Int.emod_eq_of_lt (a := (R.toNat : Int) * 2) (by omega) (by omega), Int.tmod_eq_emod_of_nonneg (by omega), Int.emod_eq_of_lt (a := (R.toNat : Int) / 2147483648) (by omega) (by omega)]
  have ht : R.getLsbD 31 = decide ((R.toNat : Int) / 2147483648 = 1) := by
    rw [BitVec.getLsbD, Nat.testBit_eq_decide_div_mod_eq, decide_eq_decide]
    omega
  have hs : (((R <<< 1).toNat : Nat) : Int) = (R.toNat : Int) * 2 % 4294967296 := by
    rw [BitVec.toNat_shiftLeft, Nat.shiftLeft_eq]; omega
  unfold rbit
  rw [ht]
  by_cases c : (R.toNat : Int) / 2147483648 = x % 2
  · rw [if_pos c, if_neg]
    · rw [hs]
    · by_cases c2 : x % 2 = 1
      · rw [decide_eq_true c2, decide_eq_true (by omega)]; simp
      · rw [decide_eq_false c2, decide_eq_false (by omega)]; simp
  · rw [if_neg c, if_pos]
    · have : Go.bits .xor .u64 ((R.toNat : Int) * 2 % 4294967296) 79764919 = (((R <<< 1 ^^^ 79764919#32).toNat : Nat) : Int) := by
        show IntKind.u64.wrap ((BitVec.ofInt 64 ((R.toNat : Int) * 2 % 4294967296) ^^^ BitVec.ofInt 64 79764919).toNat : Int) = _
        have e1 := ofInt_toNat 64 ((R.toNat : Int) * 2 % 4294967296)
        rw [wu64, BitVec.toNat_xor, BitVec.toNat_xor]
        rw [show (BitVec.ofInt 64 ((R.toNat : Int) * 2 % 4294967296)).toNat = (R <<< 1).toNat from by omega, show (BitVec.ofInt 64 79764919).toNat = 79764919 from by decide, show (79764919#32).toNat = 79764919 from rfl]
        have := (R <<< 1 ^^^ 79764919#32).isLt
        rw [BitVec.toNat_xor, show (79764919#32).toNat = 79764919 from rfl] at this
        omega
      rw [this]
    · by_cases c2 : x % 2 = 1
      · rw [decide_eq_true c2, decide_eq_false (by omega)]; simp
      · rw [decide_eq_false c2, decide_eq_true (by omega)]; simp
theorem refbits_val (l : List Int) (i : Int) : ∀ (n : Nat) (R : BitVec 32) (x j : Int) (k : Nat), 0 ≤ x → x ≤ 255 → j + n = 8 → 0 ≤ j →
    pluvialref03_Of.l1 (k + 1 + n) l (R.toNat : Int) i x j = pluvialref03_Of.l0 k l ((rbits n R x).toNat : Int) (wrap64 (i + 1)) := by
  intro n
  induction n with
  | zero =>
    intro R x j k h0 h1 hj hj0
    simp only [pluvialref03_Of.l1, rbits]
    rw [if_neg (by omega)]
  | succ n ih =>
    intro R x j k h0 h1 hj hj0
    rw [show k + 1 + (n + 1) = (k + 1 + n) + 1 from by omega, refbit_val R x (k + 1 + n) l i j ⟨h0, h1⟩ (by omega), ih _ (x / 2) (j + 1) k (by omega) (by omega) (by omega) (by omega)]
    rfl
theorem refout_val (R C : BitVec 32) (h : Rev R C) : ∀ (d n k : Nat), 32 - n = d → n ≤ 32 → d < k →
    pluvialref03_Of.l2 k ((R.toNat : Int) / 2 ^ n) ((4294967295 - (C.toNat : Int)) / 2 ^ (32 - n)) (n : Int) = some (4294967295 - (C.toNat : Int)) := by
  have hR := bvlt R
  have hC := bvlt C
  intro d
  induction d with
  | zero =>
    intro n k hd hn hk
    obtain ⟨k, rfl⟩ : ∃ m, k = m + 1 := ⟨k - 1, by omega⟩
    simp only [pluvialref03_Of.l2]
    rw [if_neg (by omega), show 32 - n = 0 from by omega, Int.pow_zero, Int.ediv_one]
  | succ d ih =>
    intro n k hd hn hk
    obtain ⟨k, rfl⟩ : ∃ m, k = m + 1 := ⟨k - 1, by omega⟩
    have hb := div_bound (R.toNat : Int) n 4294967295 (by omega) (by omega)
    have hp : 0 ≤ (R.toNat : Int) / 2 ^ n := Int.ediv_nonneg (by omega) (Int.le_of_lt (pow_pos' n))
    have hD := div_bound (4294967295 - (C.toNat : Int)) (32 - n) 4294967295 (by omega) (by omega)
    have hDp : 0 ≤ (4294967295 - (C.toNat : Int)) / 2 ^ (32 - n) := Int.ediv_nonneg (by omega) (Int.le_of_lt (pow_pos' _))
    have next : (R.toNat : Int) / 2 ^ n / 2 = (R.toNat : Int) / 2 ^ (n + 1) := by
      have := div_div (R.toNat : Int) n 1
      rw [Int.pow_one] at this; exact this
    have up : (4294967295 - (C.toNat : Int)) / 2 ^ (32 - (n + 1)) / 2 = (4294967295 - (C.toNat : Int)) / 2 ^ (32 - n) := by
      have := div_div (4294967295 - (C.toNat : Int)) (32 - (n + 1)) 1
      rw [Int.pow_one, show 32 - (n + 1) + 1 = 32 - n from by omega] at this; exact this
    have hbit : (R.toNat : Int) / 2 ^ n % 2 = 0 ↔ (4294967295 - (C.toNat : Int)) / 2 ^ (32 - (n + 1)) % 2 = 1 := by
      have h1 := h n (by omega)
      have hn1 : (~~~ C).getLsbD (31 - n) = !(C.getLsbD (31 - n)) := by rw [BitVec.getLsbD_not]; simp; omega
      have e1 : (((~~~ C).toNat : Nat) : Int) = 4294967295 - (C.toNat : Int) := by rw [BitVec.toNat_not]; omega
      rw [← h1] at hn1
      rw [← e1]
      have t1 : R.getLsbD n = decide (R.toNat / 2 ^ n % 2 = 1) := by rw [BitVec.getLsbD, Nat.testBit_eq_decide_div_mod_eq]
      have t2 : (~~~ C).getLsbD (31 - n) = decide ((~~~ C).toNat / 2 ^ (31 - n) % 2 = 1) := by rw [BitVec.getLsbD, Nat.testBit_eq_decide_div_mod_eq]
      rw [t1, t2] at hn1
      have c1 : (R.toNat : Int) / 2 ^ n = ((R.toNat / 2 ^ n : Nat) : Int) := by push_cast; rfl
      have c2 : (((~~~ C).toNat : Nat) : Int) / 2 ^ (32 - (n + 1)) = (((~~~ C).toNat / 2 ^ (31 - n) : Nat) : Int) := by rw [show 32 - (n + 1) = 31 - n from by omega]; push_cast; rfl
      rw [c1, c2]
      by_cases c : R.toNat / 2 ^ n % 2 = 1
      · rw [decide_eq_true c] at hn1
        have := of_decide_eq_false hn1
        omega
      · rw [decide_eq_false c] at hn1
        have := of_decide_eq_true hn1
        omega
    simp only [pluvialref03_Of.l2]
    have hm := Int.tmod_eq_emod_of_nonneg (b := 2) hp
    rw [if_pos (by omega), hm, Int.tdiv_eq_ediv_of_nonneg hp, wu64, Int.emod_eq_of_lt (a := (R.toNat : Int) / 2 ^ n / 2) (by omega) (by omega), w64 (by omega) (by omega), next, show (n : Int) + 1 = ((n + 1 : Nat) : Int) from by omega]
    have hE := div_bound (4294967295 - (C.toNat : Int)) (32 - (n + 1)) 4294967295 (by omega) (by omega)
    have hEp : 0 ≤ (4294967295 - (C.toNat : Int)) / 2 ^ (32 - (n + 1)) := Int.ediv_nonneg (by omega) (Int.le_of_lt (pow_pos' _))
    have goal := ih (n + 1) k (by omega) (by omega) (by omega)
    generalize (4294967295 - (C.toNat : Int)) / 2 ^ (32 - (n + 1)) = E at up hbit hE hEp goal
    generalize (4294967295 - (C.toNat : Int)) / 2 ^ (32 - n) = D at up hD hDp ⊢
    by_cases c : (R.toNat : Int) / 2 ^ n % 2 = 0
    · have := hbit.1 c
      rw [if_pos c, show ((D * 2) % 4294967296 + 1) % 4294967296 = E from by omega]
      exact goal
    · have : E % 2 = 0 := by
        by_cases h2 : E % 2 = 1
        · exact absurd (hbit.2 h2) c
        · omega
      rw [if_neg c, show (D * 2) % 4294967296 = E from by omega]
      exact goal
theorem ref_loop (l : List Int) (hb : Bytes l) (hl : l.length ≤ 1000000) : ∀ (d n k : Nat) (R : BitVec 32), l.length - n = d → n ≤ l.length → 10 * d + 50 ≤ k →
    ∃ k', 40 ≤ k' ∧ pluvialref03_Of.l0 k l (R.toNat : Int) (n : Int) = pluvialref03_Of.l2 k' ((refGo R (l.drop n)).toNat : Int) 0 0 := by
  intro d
  induction d with
  | zero =>
    intro n k R hd hn hk
    obtain ⟨k, rfl⟩ : ∃ m, k = m + 1 := ⟨k - 1, by omega⟩
    refine ⟨k, by omega, ?_⟩
    simp only [pluvialref03_Of.l0]
    rw [if_neg (by omega), List.drop_eq_nil_of_le (by omega)]; rfl
  | succ d ih =>
    intro n k R hd hn hk
    obtain ⟨k, rfl⟩ : ∃ m, k = m + 1 + 8 + 1 := ⟨k - 10, by omega⟩
    have c : n < l.length := by omega
    have er : rd l (n : Int) = l[n] := by unfold rd; simp [c]
    have hx := hb _ (List.getElem_mem c)
    obtain ⟨k', g1, g2⟩ := ih (n + 1) k (rbits 8 R l[n]) (by omega) (by omega) (by omega)
    refine ⟨k', g1, ?_⟩
    simp only [pluvialref03_Of.l0]
    rw [if_pos (by omega), if_pos (by omega), er, wu64, Int.emod_eq_of_lt (a := l[n]) (by omega) (by omega), refbits_val l n 8 R l[n] 0 k hx.1 hx.2 (by omega) (by omega), w64 (by omega) (by omega), List.drop_eq_getElem_cons c]
    exact g2
/-- the document's sum is the sum -/
theorem ref_val {l : List Int} (hb : Bytes l) (hl : l.length ≤ 1000000) {k : Nat} (hk : 10 * l.length + 50 ≤ k) : pluvialref03_Of.f k l = some (4294967295 - ((crcB (BitVec.allOnes 32) l).toNat : Int)) := by
  unfold pluvialref03_Of.f
  obtain ⟨k', g1, g2⟩ := ref_loop l hb hl l.length 0 k (BitVec.allOnes 32) (by omega) (by omega) hk
  rw [show (((BitVec.allOnes 32).toNat : Nat) : Int) = 4294967295 from by decide, show ((0 : Nat) : Int) = 0 from rfl] at g2
  rw [g2, List.drop_zero]
  have hrev : Rev (BitVec.allOnes 32) (BitVec.allOnes 32) := by
    have : ∀ i, i < 32 → (BitVec.allOnes 32).getLsbD i = (BitVec.allOnes 32).getLsbD (31 - i) := by decide
    exact this
  have hr := refGo_rev l _ _ hb hrev
  have := refout_val _ _ hr 32 0 k' rfl (by omega) (by omega)
  have hC := bvlt (crcB (BitVec.allOnes 32) l)
  have z : (4294967295 - ((crcB (BitVec.allOnes 32) l).toNat : Int)) / 2 ^ (32 - 0) = 0 := by
    rw [show (2 : Int) ^ (32 - 0) = 4294967296 from by decide]; omega
  rw [z, Int.pow_zero, Int.ediv_one] at this
  exact this
theorem rnum_step {l : List Int} (h : Bytes l) (k i j : Nat) (hj : j = i + 1) (n p : Int) (hi : i < l.length) (hi3 : i ≤ 3) (hp : p = 1 ∨ p = 256 ∨ p = 65536 ∨ p = 16777216) (hn : 0 ≤ n ∧ n < p) :
    pluvialref03_Number.l0 (k + 1) l n p (i : Int) = pluvialref03_Number.l0 k l (n + p * l.getD i 0) (p * 256 % 4294967296) (j : Int) := by
  subst hj
  have hb := h.get i
  have er : rd l (i : Int) = l.getD i 0 := by unfold rd; rw [Int.toNat_natCast]
  simp only [pluvialref03_Number.l0]
  rw [if_pos (by omega), if_pos (by omega), if_pos (by omega), er, w64 (by omega) (by omega), show l.getD i 0 % 4294967296 = l.getD i 0 from by omega]
  rcases hp with rfl | rfl | rfl | rfl
  · rw [show (n + 1 * l.getD i 0 % 4294967296) % 4294967296 = n + 1 * l.getD i 0 from by omega]; rfl
  · rw [show (n + 256 * l.getD i 0 % 4294967296) % 4294967296 = n + 256 * l.getD i 0 from by omega]; rfl
  · rw [show (n + 65536 * l.getD i 0 % 4294967296) % 4294967296 = n + 65536 * l.getD i 0 from by omega]; rfl
  · rw [show (n + 16777216 * l.getD i 0 % 4294967296) % 4294967296 = n + 16777216 * l.getD i 0 from by omega]; rfl
theorem rnum_end {l : List Int} (k i : Nat) (n p : Int) (hi : 4 ≤ i ∨ l.length ≤ i) : pluvialref03_Number.l0 (k + 1) l n p (i : Int) = some n := by
  simp only [pluvialref03_Number.l0]
  by_cases c : (i : Int) < 4
  · rw [if_pos c, if_neg (by omega)]
  · rw [if_neg c]
theorem rnum_val {l : List Int} (h : Bytes l) {k : Nat} (hk : 10 ≤ k) : pluvialref03_Number.f k l = some (numV l) := by
  obtain ⟨k, rfl⟩ : ∃ m, k = m + 6 := ⟨k - 6, by omega⟩
  have g0 := h.get 0
  have g1 := h.get 1
  have g2 := h.get 2
  have gz : ∀ i, l.length ≤ i → l.getD i 0 = 0 := by
    intro i hi; rw [List.getD_eq_getElem?_getD, List.getElem?_eq_none hi]; rfl
  unfold pluvialref03_Number.f numV
  show pluvialref03_Number.l0 (k + 6) l 0 1 ((0 : Nat) : Int) = _
  by_cases c0 : l.length = 0
  · rw [rnum_end (k + 5) 0 _ _ (.inr (by omega)), gz 0 (by omega), gz 1 (by omega), gz 2 (by omega), gz 3 (by omega)]; rfl
  rw [rnum_step h (k + 5) 0 1 rfl 0 1 (by omega) (by omega) (.inl rfl) (by omega), show (1 : Int) * 256 % 4294967296 = 256 from by decide]
  by_cases c1 : l.length = 1
  · rw [rnum_end (k + 4) 1 _ _ (.inr (by omega)), gz 1 (by omega), gz 2 (by omega), gz 3 (by omega)]; congr 1; omega
  rw [rnum_step h (k + 4) 1 2 rfl _ 256 (by omega) (by omega) (.inr (.inl rfl)) (by omega), show (256 : Int) * 256 % 4294967296 = 65536 from by decide]
  by_cases c2 : l.length = 2
  · rw [rnum_end (k + 3) 2 _ _ (.inr (by omega)), gz 2 (by omega), gz 3 (by omega)]; congr 1; omega
  rw [rnum_step h (k + 3) 2 3 rfl _ 65536 (by omega) (by omega) (.inr (.inr (.inl rfl))) (by omega), show (65536 : Int) * 256 % 4294967296 = 16777216 from by decide]
  by_cases c3 : l.length = 3
  · rw [rnum_end (k + 2) 3 _ _ (.inr (by omega)), gz 3 (by omega)]; congr 1; omega
  rw [rnum_step h (k + 2) 3 4 rfl _ 16777216 (by omega) (by omega) (.inr (.inr (.inr rfl))) (by omega), rnum_end (k + 1) 4 _ _ (.inl (by omega))]
  congr 1; omega
theorem sumOf_val {l : List (List Int)} (h : Bytes l.flatten) : sum_Of.f l = some (4294967295 - ((crcB (BitVec.allOnes 32) l.flatten).toNat : Int)) := congrArg some (sum_val h)
def crcV (l : List Int) : Int := 4294967295 - ((crcB (BitVec.allOnes 32) l).toNat : Int)
def innerV (b : List Int) : List Int := (b.take (8 + (numV b).toNat)).drop 8
def openV (b : List Int) : List Int × List Int × Int :=
  if b.length < 8 then ([], [], 7) else if b.length - 8 < (numV b).toNat then ([], [], 7)
  else if crcV (b.take 4 ++ innerV b) = numV (b.drop 4) then (innerV b, b.drop (8 + (numV b).toNat), 0) else ([], [], 8)
theorem Bytes.take {l : List Int} (h : Bytes l) (n : Nat) : Bytes (l.take n) := fun x hx => h x (List.mem_of_mem_take hx)
theorem Bytes.drop {l : List Int} (h : Bytes l) (n : Nat) : Bytes (l.drop n) := fun x hx => h x (List.mem_of_mem_drop hx)
theorem Bytes.append {a b : List Int} (ha : Bytes a) (hb : Bytes b) : Bytes (a ++ b) := fun x hx => (List.mem_append.1 hx).elim (ha x) (hb x)
theorem numV_bound {l : List Int} (h : Bytes l) : 0 ≤ numV l ∧ numV l ≤ 4294967295 := by
  have g0 := h.get 0
  have g1 := h.get 1
  have g2 := h.get 2
  have g3 := h.get 3
  unfold numV; omega
theorem innerV_len {b : List Int} (h8 : 8 ≤ b.length) (h : ¬ b.length - 8 < (numV b).toNat) : (innerV b).length = (numV b).toNat := by
  unfold innerV
  rw [List.length_drop, List.length_take]; omega
theorem open_val {b : List Int} (hb : Bytes b) (hl : b.length ≤ 3000) {k : Nat} (hk : 10 ≤ k) : sum_Open.f k b = some (openV b) := by
  unfold sum_Open.f openV
  have hn := numV_bound hb
  by_cases c8 : b.length < 8
  · rw [if_pos (by omega), if_pos c8]
  rw [if_neg (by omega), if_neg c8, number_val hb (by omega), Option.bind_some, wu64, wu64, w64 (by omega) (by omega)]
  by_cases cn : b.length - 8 < (numV b).toNat
  · rw [if_pos (by omega), if_pos cn]
  have e8 : IntKind.u64.wrap (8 + numV b % 18446744073709551616) = ((8 + (numV b).toNat : Nat) : Int) := by rw [wu64]; omega
  have hin := innerV_len (by omega) cn
  rw [if_neg (by omega), if_neg cn, e8, if_pos (by omega), if_pos (by omega), Option.bind_some, Int.toNat_natCast, if_pos (by omega)]
  rw [show List.drop 8 (List.take (8 + (numV b).toNat) b) = innerV b from rfl]
  have hbi : Bytes (innerV b) := (hb.take _).drop _
  have e1 : ([b.take 4, innerV b] : List (List Int)).flatten = b.take 4 ++ innerV b := by simp
  rw [sumOf_val (by rw [e1]; exact (hb.take 4).append hbi), Option.bind_some, e1, number_val (hb.drop 4) (by omega), Option.bind_some]
  rw [show (4294967295 - ((crcB (BitVec.allOnes 32) (b.take 4 ++ innerV b)).toNat : Int)) = crcV (b.take 4 ++ innerV b) from rfl]
  by_cases cc : crcV (b.take 4 ++ innerV b) = numV (b.drop 4)
  · rw [if_pos cc, if_pos cc, if_pos (by rw [List.length_nil, hin]; omega), if_pos (by omega), Option.bind_some, if_pos (by rw [List.length_nil, List.length_drop]; omega)]
    simp only [List.nil_append]
  · rw [if_neg cc, if_neg cc]
theorem ropen_val {b : List Int} (hb : Bytes b) (hl : b.length ≤ 3000) {k : Nat} (hk : 40000 ≤ k) : pluvialref03_Open.f k b = some (openV b) := by
  unfold pluvialref03_Open.f openV
  have hn := numV_bound hb
  obtain ⟨k, rfl⟩ : ∃ m, k = m + 1 := ⟨k - 1, by omega⟩
  by_cases c8 : b.length < 8
  · rw [if_pos (by omega), if_pos c8]
    simp only [pluvialref03_Open.j0, if_true]
  rw [if_neg (by omega), if_neg c8, rnum_val hb (by omega), Option.bind_some, wu64, wu64, w64 (by omega) (by omega)]
  by_cases cn : b.length - 8 < (numV b).toNat
  · rw [decide_eq_true (by omega), if_pos cn]
    simp only [pluvialref03_Open.j0, if_true]
  rw [decide_eq_false (by omega), if_neg cn]
  simp only [pluvialref03_Open.j0, Bool.false_eq_true, if_false]
  have e8 : wrap64 (8 + wrap64 (numV b)) = ((8 + (numV b).toNat : Nat) : Int) := by rw [w64 (x := numV b) (by omega) (by omega), w64 (by omega) (by omega)]; omega
  have hin := innerV_len (by omega) cn
  have hbi : Bytes (innerV b) := (hb.take _).drop _
  rw [rnum_val hb (by omega), Option.bind_some, if_pos (by omega), Option.bind_some, if_pos (by rw [List.length_nil, List.length_take]; omega), Option.bind_some, e8, if_pos (by omega), if_pos (by omega), Option.bind_some, Int.toNat_natCast, List.nil_append]
  rw [show List.drop 8 (List.take (8 + (numV b).toNat) b) = innerV b from rfl]
  rw [if_pos (by rw [hin, List.length_take]; omega), ref_val ((hb.take 4).append hbi) (by rw [List.length_append, hin, List.length_take]; omega) (by rw [List.length_append, hin, List.length_take]; omega), Option.bind_some, rnum_val (hb.drop 4) (by omega), Option.bind_some]
  rw [show (4294967295 - ((crcB (BitVec.allOnes 32) (b.take 4 ++ innerV b)).toNat : Int)) = crcV (b.take 4 ++ innerV b) from rfl]
  by_cases cc : crcV (b.take 4 ++ innerV b) = numV (b.drop 4)
  · rw [if_pos cc, if_pos cc, if_pos (by omega)]
  · rw [if_neg cc, if_neg cc]
/-- what an opened one is -/
theorem openV_ok {b : List Int} (h : (openV b).2.2 = 0) : 8 + (openV b).1.length ≤ b.length ∧ (openV b).2.1 = b.drop (8 + (openV b).1.length) := by
  unfold openV at h ⊢
  by_cases c8 : b.length < 8
  · rw [if_pos c8] at h; exact absurd h (by decide)
  rw [if_neg c8] at h ⊢
  by_cases cn : b.length - 8 < (numV b).toNat
  · rw [if_pos cn] at h; exact absurd h (by decide)
  rw [if_neg cn] at h ⊢
  have hin := innerV_len (by omega) cn
  by_cases cc : crcV (b.take 4 ++ innerV b) = numV (b.drop 4)
  · rw [if_pos cc]
    refine ⟨?_, ?_⟩
    · show 8 + (innerV b).length ≤ b.length
      omega
    · show b.drop (8 + (numV b).toNat) = b.drop (8 + (innerV b).length)
      rw [hin]
  · rw [if_neg cc] at h; exact absurd h (by decide)
def allGo : Nat → List Int → List (List Int) × Nat × Int
  | 0, _ => ([], 0, 0)
  | n + 1, b => if b = [] then ([], 0, 0) else if (openV b).2.2 = 0 then ((openV b).1 :: (allGo n (openV b).2.1).1, 8 + (openV b).1.length + (allGo n (openV b).2.1).2.1, (allGo n (openV b).2.1).2.2) else ([], 0, (openV b).2.2)
theorem all_loop {b : List Int} (hb : Bytes b) (hl : b.length ≤ 3000) : ∀ (d k n : Nat) (acc : List (List Int)), b.length - n ≤ d → n ≤ b.length → acc.length ≤ n → 20 + d ≤ k →
    sum_All.l0 k b acc (n : Int) = some (acc ++ (allGo d (b.drop n)).1, ((n + (allGo d (b.drop n)).2.1 : Nat) : Int), (allGo d (b.drop n)).2.2) := by
  intro d
  induction d with
  | zero =>
    intro k n acc hd hn ha hk
    obtain ⟨k, rfl⟩ : ∃ m, k = m + 1 := ⟨k - 1, by omega⟩
    simp only [sum_All.l0, allGo]
    rw [if_neg (by omega)]; simp
  | succ d ih =>
    intro k n acc hd hn ha hk
    obtain ⟨k, rfl⟩ : ∃ m, k = m + 1 := ⟨k - 1, by omega⟩
    simp only [sum_All.l0, allGo]
    by_cases ce : b.drop n = []
    · have : b.length ≤ n := List.drop_eq_nil_iff.1 ce
      rw [if_neg (by omega), if_pos ce]; simp
    · have hlt : n < b.length := by
        rcases Nat.lt_or_ge n b.length with h | h
        · exact h
        · exact absurd (List.drop_eq_nil_of_le h) ce
      rw [if_pos (by omega), if_pos (by omega), if_pos (by omega), Int.toNat_natCast, open_val (hb.drop n) (by rw [List.length_drop]; omega) (by omega), Option.bind_some, if_neg ce]
      by_cases c0 : (openV (b.drop n)).2.2 = 0
      · obtain ⟨g1, g2⟩ := openV_ok c0
        rw [List.length_drop] at g1
        rw [List.drop_drop] at g2
        rw [if_pos c0, if_pos (by omega), if_pos c0, w64 (x := 8 + ((openV (b.drop n)).1.length : Int)) (by omega) (by omega), w64 (by omega) (by omega), g2]
        rw [show (n : Int) + (8 + ((openV (b.drop n)).1.length : Int)) = ((n + (8 + (openV (b.drop n)).1.length) : Nat) : Int) from by omega]
        rw [ih k (n + (8 + (openV (b.drop n)).1.length)) (acc ++ [(openV (b.drop n)).1]) (by omega) (by omega) (by simp; omega) (by omega)]
        rw [List.append_assoc, Nat.add_assoc]
        simp only [List.cons_append, List.nil_append]
      · rw [if_neg c0, if_neg c0]; simp
theorem allGo_nil (d : Nat) : allGo d [] = ([], 0, 0) := by cases d <;> rfl
theorem allGo_ok (d : Nat) {b : List Int} (hb : b ≠ []) (h : (openV b).2.2 = 0) : allGo (d + 1) b = ((openV b).1 :: (allGo d (openV b).2.1).1, 8 + (openV b).1.length + (allGo d (openV b).2.1).2.1, (allGo d (openV b).2.1).2.2) := by
  rw [allGo, if_neg hb, if_pos h]
theorem allGo_bad (d : Nat) {b : List Int} (hb : b ≠ []) (h : ¬ (openV b).2.2 = 0) : allGo (d + 1) b = ([], 0, (openV b).2.2) := by
  rw [allGo, if_neg hb, if_neg h]
theorem law_loop {b : List Int} (hb : Bytes b) (hl : b.length ≤ 3000) : ∀ (d k n : Nat) (pre L : List (List Int)) (y : Nat) (e : Int), b.length - n ≤ d → n ≤ b.length → pre.length ≤ n → 50000 + d ≤ k → allGo d (b.drop n) = (L, y, e) →
    pluviallaw03_SumOpens.l0 k b (pre ++ L) ((n + y : Nat) : Int) e (b.drop n) (pre.length : Int) = some true := by
  intro d
  induction d with
  | zero =>
    intro k n pre L y e hd hn hp hk he
    obtain ⟨k, rfl⟩ : ∃ m, k = m + 1 := ⟨k - 1, by omega⟩
    rw [allGo] at he
    obtain ⟨rfl, rfl, rfl⟩ : [] = L ∧ 0 = y ∧ 0 = e := by simpa using he
    simp only [pluviallaw03_SumOpens.l0]
    rw [if_pos (by rw [List.length_drop]; omega), awake_val, Option.bind_some, if_pos rfl, if_pos trivial, List.append_nil, if_pos rfl]
    congr 1; rw [beq_iff_eq]; omega
  | succ d ih =>
    intro k n pre L y e hd hn hp hk he
    obtain ⟨k, rfl⟩ : ∃ m, k = m + 1 := ⟨k - 1, by omega⟩
    simp only [pluviallaw03_SumOpens.l0]
    by_cases ce : b.drop n = []
    · have : b.length ≤ n := List.drop_eq_nil_iff.1 ce
      rw [ce, allGo_nil] at he
      obtain ⟨rfl, rfl, rfl⟩ : [] = L ∧ 0 = y ∧ 0 = e := by simpa using he
      rw [if_pos (by rw [ce]; rfl), awake_val, Option.bind_some, if_pos rfl]
      rw [if_pos rfl, List.append_nil, if_pos rfl]
      congr 1; rw [beq_iff_eq]; show ((n + 0 : Nat) : Int) = _; omega
    · have hlt : n < b.length := by
        rcases Nat.lt_or_ge n b.length with h | h
        · exact h
        · exact absurd (List.drop_eq_nil_of_le h) ce
      rw [if_neg (by rw [List.length_drop]; omega), ropen_val (hb.drop n) (by rw [List.length_drop]; omega) (by omega), Option.bind_some]
      by_cases c0 : (openV (b.drop n)).2.2 = 0
      · obtain ⟨g1, g2⟩ := openV_ok c0
        rw [List.length_drop] at g1
        rw [List.drop_drop] at g2
        rw [allGo_ok d ce c0] at he
        obtain ⟨rfl, rfl, rfl⟩ : _ = L ∧ _ = y ∧ _ = e := by simpa using he
        have hrec := ih k (n + (8 + (openV (b.drop n)).1.length)) (pre ++ [(openV (b.drop n)).1]) _ _ _ (by omega) (by omega) (by simp; omega) (by omega) rfl
        rw [if_pos c0]
        rw [← g2] at hrec
        have er : rd_L1 (pre ++ (openV (b.drop n)).1 :: (allGo d (openV (b.drop n)).2.1).1) (pre.length : Int) = (openV (b.drop n)).1 := by
          unfold rd_L1
          rw [Int.toNat_natCast, List.getD_eq_getElem?_getD, List.getElem?_append_right (Nat.le_refl _)]
          simp
        rw [if_neg (by rw [List.length_append, List.length_cons]; omega), if_pos (by omega), if_pos (by rw [List.length_append, List.length_cons]; omega), er, if_pos rfl, w64 (by omega) (by omega)]
        rw [List.append_assoc, List.length_append, List.length_singleton] at hrec
        rw [show ((n + (8 + (openV (b.drop n)).1.length + (allGo d (openV (b.drop n)).2.1).2.1) : Nat) : Int) = ((n + (8 + (openV (b.drop n)).1.length) + (allGo d (openV (b.drop n)).2.1).2.1 : Nat) : Int) from by omega, show (pre.length : Int) + 1 = ((pre.length + 1 : Nat) : Int) from by omega]
        exact hrec
      · rw [allGo_bad d ce c0] at he
        obtain ⟨rfl, rfl, rfl⟩ : [] = L ∧ 0 = y ∧ _ = e := by simpa using he
        rw [if_neg c0, awake_val, Option.bind_some, if_pos rfl]
        rw [if_pos rfl, List.append_nil, if_pos rfl, List.length_drop, w64 (by omega) (by omega)]
        congr 1; rw [beq_iff_eq]; omega
theorem main : pluviallaw03_SumOpens.Pure := by
  intro b _ _ hb0
  have hb : Bytes b := fun x hx => wf_u8 (hb0 x hx)
  refine ⟨60001, ?_⟩
  generalize hK : 60000 = K
  have hk : 60000 ≤ K := by omega
  rw [show 60001 = 60000 + 1 from rfl, hK]
  clear hK
  unfold pluviallaw03_SumOpens.f
  by_cases c : (b.length : Int) > 3000
  · rw [if_pos c, awake_val]; rfl
  rw [if_neg c, open_val hb (by omega) (by omega), Option.bind_some, ropen_val hb (by omega) (by omega), Option.bind_some, if_pos rfl, if_pos rfl, bne_self_eq_false]
  simp only [pluviallaw03_SumOpens.j0, Bool.false_eq_true, if_false]
  unfold sum_All.f
  have ha := all_loop hb (by omega) b.length K 0 [] (by omega) (by omega) (by simp) (by omega)
  rw [List.drop_zero, List.nil_append] at ha
  rw [show ((0 : Nat) : Int) = 0 from rfl] at ha
  rw [ha, Option.bind_some]
  have := law_loop hb (by omega) b.length K 0 [] _ _ _ (by omega) (by omega) (by simp) (by omega) rfl
  rw [List.drop_zero, List.nil_append] at this
  exact this
end Go.Proofs.Ytmklgjcflgjbjaa.Pure.LSumOpens
namespace Go.Proofs.Ytmklgjcflgjbjaa.Pure
theorem SumOpens : Go.Proofs.Ytmklgjcflgjbjaa.QSumOpens.pluviallaw03_SumOpens.Pure := LSumOpens.main
end Go.Proofs.Ytmklgjcflgjbjaa.Pure
