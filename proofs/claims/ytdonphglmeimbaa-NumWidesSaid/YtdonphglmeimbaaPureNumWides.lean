/- What NumWides computes is true for every input: products, comparisons, quotients and ratios are the document's. It holds for all whole numbers of its parameters, no condition. -/
import Derived.Test.YtdonphglmeimbaaQNumWidesx3
import Derived.Test.YtdonphglmeimbaaMth
import Derived.Test.YtdonphglmeimbaaDiv
namespace Go.Proofs.Ytdonphglmeimbaa.Pure.LNumWides
open Go.RowKit Go.Proofs.Ytdonphglmeimbaa.QNumWides Go.Proofs.YtdonphglmeimbaaW.PrintWords Go.Proofs.YtdonphglmeimbaaW.PrintLast Go.Proofs.YtdonphglmeimbaaW.PrintMore Mth
def addS : Int → List Int → Int × Int
  | s, [] => (s, 0)
  | s, x :: l => if s + x ≤ 18446744073709551615 then addS (s + x) l else (0, 5)
theorem rd_at {l : List Int} {n : Nat} (h : n < l.length) : rd l (n : Int) = l[n] := by
  unfold rd; simp [h]
theorem add_loop (l : List Int) (hl : ∀ x ∈ l, 0 ≤ x ∧ x ≤ 18446744073709551615) (hm : l.length ≤ 4611686018427387904) (d : Nat) : ∀ (k n : Nat) (s : Int), 0 ≤ s → s ≤ 18446744073709551615 → l.length - n = d → n ≤ l.length → d < k →
    num_Add.l0 k s l (l.length : Int) (n : Int) = some (addS s (l.drop n)) := by
  induction d with
  | zero =>
    intro k n s h0 h1 hd hn hk
    obtain ⟨k, rfl⟩ : ∃ m, k = m + 1 := ⟨k - 1, by omega⟩
    simp only [num_Add.l0]
    rw [if_neg (by omega), List.drop_eq_nil_of_le (by omega)]; rfl
  | succ d ih =>
    intro k n s h0 h1 hd hn hk
    obtain ⟨k, rfl⟩ : ∃ m, k = m + 1 := ⟨k - 1, by omega⟩
    have hlt : n < l.length := by omega
    have hx := hl _ (List.getElem_mem hlt)
    simp only [num_Add.l0]
    rw [if_pos (by omega), if_pos (by omega), if_pos (by omega), rd_at hlt, List.drop_eq_getElem_cons hlt]
    unfold bits_Add64.f
    rw [if_pos ⟨h0, hx.1, by omega, by omega⟩, Option.bind_some]
    simp only [addS]
    by_cases hs : s + l[n] ≤ 18446744073709551615
    · rw [if_pos hs, if_pos (by omega), w64 (x := (n : Int) + 1) (by omega) (by omega), show (s + l[n] + 0) % 18446744073709551616 = s + l[n] from by omega]
      exact ih k (n + 1) (s + l[n]) (by omega) hs (by omega) (by omega) (by omega)
    · rw [if_neg hs, if_neg (by omega)]
theorem add_val (l : List Int) (hl : ∀ x ∈ l, 0 ≤ x ∧ x ≤ 18446744073709551615) (hm : l.length ≤ 4611686018427387904) {k : Nat} (hk : l.length < k) : num_Add.f k l = some (addS 0 l) := by
  unfold num_Add.f
  exact add_loop l hl hm l.length k 0 0 (by omega) (by omega) (by omega) (by omega) (by omega)
theorem mul_val {a b : Int} (ha : 0 ≤ a ∧ a ≤ 18446744073709551615) (hb : 0 ≤ b ∧ b ≤ 18446744073709551615) : num_Mul.f a b = some (a * b / 18446744073709551616, a * b % 18446744073709551616) := by
  unfold num_Mul.f bits_Mul64.f
  rw [if_pos ⟨ha, hb⟩, Option.bind_some]
theorem less_val (p q : Int) : num_Wide_Less.f (p / 18446744073709551616) (p % 18446744073709551616) (q / 18446744073709551616) (q % 18446744073709551616) = some (decide (p < q)) := by
  unfold num_Wide_Less.f
  by_cases h : p / 18446744073709551616 < q / 18446744073709551616
  · rw [if_pos h, decide_eq_true (by omega)]
  · rw [if_neg h]
    by_cases h2 : p / 18446744073709551616 = q / 18446744073709551616
    · rw [if_pos h2]; congr 1
      rw [Bool.eq_iff_iff]; simp only [decide_eq_true_eq]; omega
    · rw [if_neg h2, decide_eq_false (by omega)]
theorem ratio_val {a b c d : Int} (ha : 0 ≤ a ∧ a ≤ 18446744073709551615) (hb : 0 ≤ b ∧ b ≤ 18446744073709551615) (hc : 0 ≤ c ∧ c ≤ 18446744073709551615) (hd : 0 ≤ d ∧ d ≤ 18446744073709551615) :
    num_Ratio.f a b c d = some (if a * d < c * b then -1 else if c * b < a * d then 1 else 0) := by
  unfold num_Ratio.f
  rw [mul_val ha hd, mul_val hc hb]
  simp only [Option.bind_some]
  rw [less_val, less_val]
  simp only [Option.bind_some, decide_eq_true_eq]
  split
  · rfl
  · split <;> rfl
theorem div_l1 {Y a b U d : Int} (h : Dg Y a b U d) (s q1 : Int) (hs : 0 ≤ s ∧ s ≤ 64) (hq1 : 0 ≤ q1 ∧ q1 < 4294967296) : ∀ (n k : Nat) (q r : Int), q * a + r = U → (U * 4294967296 + d) / Y ≤ q → q ≤ 4294967297 → 0 ≤ r → r < 4294967296 → 4294967296 ≤ r + n * 2147483648 → 2 * n + 2 ≤ k →
    bits_Div64.l1 k Y s a b d q1 r U q = some (q1 * 4294967296 + (U * 4294967296 + d) / Y, (U * 4294967296 + d) % Y / 2 ^ s.toNat) := by
  have hQ := h.q_lt
  have hR := h.rest
  have hY := h.ymax
  have fin : ∀ q, q = (U * 4294967296 + d) / Y → (some (IntKind.u64.wrap ((IntKind.u64.wrap (q1 * 4294967296)) + q), shr .u64 (IntKind.u64.wrap ((IntKind.u64.wrap ((IntKind.u64.wrap (U * 4294967296)) + d)) - (IntKind.u64.wrap (q * Y)))) s) : Option (Int × Int)) = some (q1 * 4294967296 + (U * 4294967296 + d) / Y, (U * 4294967296 + d) % Y / 2 ^ s.toNat) := by
    intro q hq
    have e : shr .u64 (IntKind.u64.wrap ((IntKind.u64.wrap ((IntKind.u64.wrap (U * 4294967296)) + d)) - (IntKind.u64.wrap (q * Y)))) s = (U * 4294967296 + d) % Y / 2 ^ s.toNat := by
      unfold shr
      rw [Nat.min_eq_left (by show s.toNat ≤ 64; omega), wu64, wu64, wu64, wu64, hq]
      congr 1
      omega
    rw [e, wu64, wu64, hq]
    congr 2
    omega
  intro n
  induction n with
  | zero => intro k q r _ _ _ _ h4 h5 _; omega
  | succ n ih =>
    intro k q r e h1 h2 h3 h4 h5 hk
    obtain ⟨k, rfl⟩ : ∃ m, k = m + 2 := ⟨k - 2, by omega⟩
    have q0 : 0 ≤ q := by omega
    have hb := h.qb_bound q0 h2
    have hd0 := h.d0
    have hd1 := h.d1
    have ha0 := h.a0
    have ha1 := h.a1
    have w1 : IntKind.u64.wrap (q * b) = q * b := by rw [wu64]; omega
    have w2 : IntKind.u64.wrap (IntKind.u64.wrap (4294967296 * r) + d) = 4294967296 * r + d := by rw [wu64, wu64]; omega
    have w3 : IntKind.u64.wrap (r + a) = r + a := by rw [wu64]; omega
    have yes : (4294967296 ≤ q ∨ 4294967296 * r + d < q * b) → bits_Div64.j4 (k + 1) Y s a b d q1 r U q true = some (q1 * 4294967296 + (U * 4294967296 + d) / Y, (U * 4294967296 + d) % Y / 2 ^ s.toNat) := by
      intro ht
      have ho := h.over e ht
      have w4 : IntKind.u64.wrap (q - 1) = q - 1 := by rw [wu64]; omega
      have es := Dg.step (a := a) (U := U) q r e
      simp only [bits_Div64.j4, if_true]
      rw [w3, w4]
      by_cases c : r + a ≥ 4294967296
      · rw [if_pos c, if_pos hs.1]
        have := h.stop es (by omega) c
        exact fin (q - 1) (by omega)
      · rw [if_neg c]
        exact ih k (q - 1) (r + a) es (by omega) (by omega) (by omega) (by omega) (by omega) (by omega)
    simp only [bits_Div64.l1]
    by_cases c1 : q ≥ 4294967296
    · rw [if_pos c1]; exact yes (.inl c1)
    · rw [if_neg c1, w1, w2]
      by_cases c2 : q * b > 4294967296 * r + d
      · rw [decide_eq_true c2]; exact yes (.inr c2)
      · rw [decide_eq_false c2]
        simp only [bits_Div64.j4, Bool.false_eq_true, if_false]
        rw [if_pos hs.1]
        have := h.done e (by omega)
        exact fin q (by omega)
theorem div_j2 {Y a b U d1 d0 : Int} (h : Dg Y a b U d1) (g0 : 0 ≤ d0) (g1 : d0 ≤ 4294967295) (s : Int) (hs : 0 ≤ s ∧ s ≤ 64) (k : Nat) (hk : 10 ≤ k) :
    bits_Div64.j2 k Y s a b U d1 d0 ((U * 4294967296 + d1) / Y) = some ((U * 18446744073709551616 + d1 * 4294967296 + d0) / Y, (U * 18446744073709551616 + d1 * 4294967296 + d0) % Y / 2 ^ s.toNat) := by
  obtain ⟨k, rfl⟩ : ∃ m, k = m + 1 := ⟨k - 1, by omega⟩
  have hQ := h.q_lt
  have hR := h.rest
  have hY := h.ymax
  have ha0 := h.a0
  have ha1 := h.a1
  have hd0 := h.d0
  have hd1 := h.d1
  have ht := two_digits U d1 d0 Y h.ypos
  simp only [bits_Div64.j2]
  rw [if_neg (by omega)]
  have e1 : IntKind.u64.wrap ((IntKind.u64.wrap ((IntKind.u64.wrap (U * 4294967296)) + d1)) - (IntKind.u64.wrap ((U * 4294967296 + d1) / Y * Y))) = (U * 4294967296 + d1) % Y := by
    rw [wu64, wu64, wu64, wu64]; omega
  rw [e1]
  have g : Dg Y a b ((U * 4294967296 + d1) % Y) d0 := ⟨h.y, h.b0, h.b1, h.a0, h.a1, hR.2.1, hR.2.2, g0, g1⟩
  have hi := g.init
  rw [← ht.1, ← ht.2]
  generalize (U * 4294967296 + d1) % Y = V at *
  have e2 : IntKind.u64.wrap (Int.tdiv V a) = V / a := by
    rw [Int.tdiv_eq_ediv_of_nonneg hR.2.1, wu64]; omega
  rw [e2]
  have z0 : 0 ≤ V / a * a := Int.mul_nonneg hi.2.2.2.2.2 (by omega)
  have e3 : IntKind.u64.wrap (V / a * a) = V / a * a := by rw [wu64]; omega
  rw [e3]
  have e4 : IntKind.u64.wrap (V - V / a * a) = V % a := by rw [wu64]; omega
  rw [e4]
  exact div_l1 g s ((U * 4294967296 + d1) / Y) hs hQ 2 k (V / a) (V % a) hi.2.2.1 hi.1 hi.2.1 hi.2.2.2.1 hi.2.2.2.2.1 (by omega) (by omega)
theorem div_l0 {Y a b U d1 d0 : Int} (h : Dg Y a b U d1) (g0 : 0 ≤ d0) (g1 : d0 ≤ 4294967295) (s : Int) (hs : 0 ≤ s ∧ s ≤ 64) : ∀ (n k : Nat) (q r : Int), q * a + r = U → (U * 4294967296 + d1) / Y ≤ q → q ≤ 4294967297 → 0 ≤ r → r < 4294967296 → 4294967296 ≤ r + n * 2147483648 → 2 * n + 12 ≤ k →
    bits_Div64.l0 k Y s a b U d1 d0 q r = some ((U * 18446744073709551616 + d1 * 4294967296 + d0) / Y, (U * 18446744073709551616 + d1 * 4294967296 + d0) % Y / 2 ^ s.toNat) := by
  have hQ := h.q_lt
  have hY := h.ymax
  intro n
  induction n with
  | zero => intro k q r _ _ _ _ h4 h5 _; omega
  | succ n ih =>
    intro k q r e h1 h2 h3 h4 h5 hk
    obtain ⟨k, rfl⟩ : ∃ m, k = m + 2 := ⟨k - 2, by omega⟩
    have q0 : 0 ≤ q := by omega
    have hb := h.qb_bound q0 h2
    have hd0 := h.d0
    have hd1 := h.d1
    have ha0 := h.a0
    have ha1 := h.a1
    have w1 : IntKind.u64.wrap (q * b) = q * b := by rw [wu64]; omega
    have w2 : IntKind.u64.wrap (IntKind.u64.wrap (4294967296 * r) + d1) = 4294967296 * r + d1 := by rw [wu64, wu64]; omega
    have w3 : IntKind.u64.wrap (r + a) = r + a := by rw [wu64]; omega
    have fin : ∀ q, q = (U * 4294967296 + d1) / Y → bits_Div64.j2 k Y s a b U d1 d0 q = some ((U * 18446744073709551616 + d1 * 4294967296 + d0) / Y, (U * 18446744073709551616 + d1 * 4294967296 + d0) % Y / 2 ^ s.toNat) := by
      intro q hq
      rw [hq]; exact div_j2 h g0 g1 s hs k (by omega)
    have yes : (4294967296 ≤ q ∨ 4294967296 * r + d1 < q * b) → bits_Div64.j1 (k + 1) Y s a b U d1 d0 q r true = some ((U * 18446744073709551616 + d1 * 4294967296 + d0) / Y, (U * 18446744073709551616 + d1 * 4294967296 + d0) % Y / 2 ^ s.toNat) := by
      intro ht
      have ho := h.over e ht
      have w4 : IntKind.u64.wrap (q - 1) = q - 1 := by rw [wu64]; omega
      have es := Dg.step (a := a) (U := U) q r e
      simp only [bits_Div64.j1, if_true]
      rw [w3, w4]
      by_cases c : r + a ≥ 4294967296
      · rw [if_pos c]
        have := h.stop es (by omega) c
        exact fin (q - 1) (by omega)
      · rw [if_neg c]
        exact ih k (q - 1) (r + a) es (by omega) (by omega) (by omega) (by omega) (by omega) (by omega)
    simp only [bits_Div64.l0]
    by_cases c1 : q ≥ 4294967296
    · rw [if_pos c1]; exact yes (.inl c1)
    · rw [if_neg c1, w1, w2]
      by_cases c2 : q * b > 4294967296 * r + d1
      · rw [decide_eq_true c2]; exact yes (.inr c2)
      · rw [decide_eq_false c2]
        simp only [bits_Div64.j1, Bool.false_eq_true, if_false]
        have := h.done e (by omega)
        exact fin q (by omega)
theorem lead {y : Int} (h0 : 1 ≤ y) (h1 : y ≤ 18446744073709551615) : ∃ n : Nat, n ≤ 63 ∧ bits_LeadingZeros64.f y = some (n : Int) ∧ 9223372036854775808 ≤ y * 2 ^ n ∧ y * 2 ^ n ≤ 18446744073709551615 := by
  have hb := Lib.bitLenAux_bounds 64 y.toNat (by omega) (by omega)
  have hle : Lib.bitLen y.toNat ≤ 64 := Lib.bitLen_le y.toNat 64 (by omega) (by omega)
  unfold Lib.bitLen at hle
  refine ⟨64 - Lib.bitLenAux 64 y.toNat, by omega, ?_, ?_, ?_⟩
  · unfold bits_LeadingZeros64.f Lib.bitLen
    rw [if_pos ⟨by omega, h1⟩]; congr 1; omega
  all_goals
    obtain ⟨m, hm⟩ : ∃ m, Lib.bitLenAux 64 y.toNat = m := ⟨_, rfl⟩
    rw [hm] at hb hle ⊢
    obtain ⟨z, rfl⟩ := Int.eq_ofNat_of_zero_le (show 0 ≤ y by omega)
    rw [Int.toNat_natCast] at hb
    have hN : ((z * 2 ^ (64 - m) : Nat) : Int) = (z : Int) * 2 ^ (64 - m) := by push_cast; rfl
    rw [← hN]
  · have e : 2 ^ (m - 1) * 2 ^ (64 - m) = (9223372036854775808 : Nat) := by
      rw [← Nat.pow_add, show m - 1 + (64 - m) = 63 from by omega]
    have := Nat.mul_le_mul_right (2 ^ (64 - m)) hb.2.1
    rw [e] at this
    omega
  · have e : 2 ^ m * 2 ^ (64 - m) = (18446744073709551616 : Nat) := by
      rw [← Nat.pow_add, show m + (64 - m) = 64 from by omega]
    have := Nat.mul_lt_mul_of_pos_right hb.2.2 (Nat.two_pow_pos (64 - m))
    rw [e] at this
    omega
theorem div64 {hi lo y : Int} (hh : 0 ≤ hi) (hl : 0 ≤ lo) (hl1 : lo ≤ 18446744073709551615) (hy : hi < y) (hy1 : y ≤ 18446744073709551615) (k : Nat) (hk : 20 ≤ k) :
    bits_Div64.f k hi lo y = some ((hi * 18446744073709551616 + lo) / y, (hi * 18446744073709551616 + lo) % y) := by
  unfold bits_Div64.f
  rw [if_neg (by omega), if_neg (by omega)]
  by_cases h0 : hi = 0
  · subst h0
    rw [if_pos rfl, Int.tdiv_eq_ediv_of_nonneg hl, Int.tmod_eq_emod_of_nonneg hl, wu64]
    have := Int.ediv_le_self y hl
    have := Int.ediv_nonneg hl (show 0 ≤ y by omega)
    rw [Int.emod_eq_of_lt (by omega) (by omega)]; simp
  · rw [if_neg h0]
    obtain ⟨n, hn, hf, hY0, hY1⟩ := lead (show 1 ≤ y by omega) hy1
    have hp := pow_pos' n
    rw [hf, Option.bind_some, wu64, show (n : Int) % 18446744073709551616 = n from by omega, if_pos (by omega), wu64, show (64 - (n : Int)) % 18446744073709551616 = 64 - n from by omega, if_pos (by omega)]
    have hpw : (2 : Int) ^ n * 2 ^ (64 - n) = 18446744073709551616 := by
      rw [← Int.pow_add, show n + (64 - n) = 64 from by omega]; rfl
    -- the parts
    have s1 : shl .u64 y n = y * 2 ^ n := by
      unfold shl
      rw [Int.toNat_natCast, Nat.min_eq_left (by show n ≤ 64; omega), wu64]; omega
    have hm1 : hi * 2 ^ n + 2 ^ n ≤ y * 2 ^ n := by
      have := Int.mul_le_mul_of_nonneg_right (show hi + 1 ≤ y by omega) (Int.le_of_lt hp)
      rw [Int.add_mul, Int.one_mul] at this; exact this
    have hm0 : 0 ≤ hi * 2 ^ n := Int.mul_nonneg hh (Int.le_of_lt hp)
    have s2 : shl .u64 hi n = hi * 2 ^ n := by
      unfold shl
      rw [Int.toNat_natCast, Nat.min_eq_left (by show n ≤ 64; omega), wu64]; omega
    have s3 : shr .u64 lo (64 - n) = lo / 2 ^ (64 - n) := by
      unfold shr
      rw [Nat.min_eq_left (by show (64 - (n : Int)).toNat ≤ 64; omega), show (64 - (n : Int)).toNat = 64 - n from by omega]
    have hp2 := pow_pos' (64 - n)
    have b0 : 0 ≤ lo / 2 ^ (64 - n) := Int.ediv_nonneg hl (Int.le_of_lt hp2)
    have b1 : lo / 2 ^ (64 - n) < 2 ^ n := Int.ediv_lt_of_lt_mul hp2 (by rw [hpw]; omega)
    have e1 : Go.bits .or .u64 (hi * 2 ^ n) (lo / 2 ^ (64 - n)) = hi * 2 ^ n + lo / 2 ^ (64 - n) := or_add_u64 hh b0 b1 (by omega)
    have s4 : shl .u64 lo n = lo * 2 ^ n - lo / 2 ^ (64 - n) * 18446744073709551616 := by
      unfold shl
      rw [Int.toNat_natCast, Nat.min_eq_left (by show n ≤ 64; omega), wu64]
      have d1 := Int.ediv_mul_add_emod lo (2 ^ (64 - n))
      have m0 := Int.emod_nonneg lo (Int.ne_of_gt hp2)
      have m1 := Int.emod_lt_of_pos lo hp2
      have : lo * 2 ^ n = lo / 2 ^ (64 - n) * 18446744073709551616 + lo % 2 ^ (64 - n) * 2 ^ n := by
        conv => lhs; rw [← d1]
        rw [Int.add_mul, Int.mul_assoc, Int.mul_comm (2 ^ (64 - n)), hpw]
      have k0 : 0 ≤ lo % 2 ^ (64 - n) * 2 ^ n := Int.mul_nonneg m0 (Int.le_of_lt hp)
      have k1 : lo % 2 ^ (64 - n) * 2 ^ n < 18446744073709551616 := by
        have := Int.mul_lt_mul_of_pos_right m1 hp
        rw [Int.mul_comm (2 ^ (64 - n)), hpw] at this; exact this
      omega
    have k0 : 0 ≤ shl .u64 lo n ∧ shl .u64 lo n < 18446744073709551616 := by
      unfold shl; rw [wu64]; omega
    rw [s1, s2, s3, e1]
    have mk : ∀ x : Int, Go.bits .and .u64 x 4294967295 = x % 4294967296 := fun x => mask_low_u64 x (n := 32) (by omega)
    rw [mk, mk]
    obtain ⟨Y, hYe⟩ : ∃ Y, y * 2 ^ n = Y := ⟨_, rfl⟩
    obtain ⟨L, hLe⟩ : ∃ L, shl .u64 lo n = L := ⟨_, rfl⟩
    obtain ⟨U, hUe⟩ : ∃ U, hi * 2 ^ n + lo / 2 ^ (64 - n) = U := ⟨_, rfl⟩
    have hN : (hi * 18446744073709551616 + lo) * 2 ^ n = U * 18446744073709551616 + L := by
      rw [Int.add_mul, Int.mul_right_comm]; omega
    rw [hYe] at hY0 hY1 hm1 ⊢
    rw [hLe] at k0 ⊢
    rw [hUe]
    have dg : Dg Y (Y / 4294967296) (Y % 4294967296) U (L / 4294967296) := ⟨by omega, by omega, by omega, by omega, by omega, by omega, by omega, by omega, by omega⟩
    have hi' := dg.init
    rw [if_neg (by omega)]
    have e2 : IntKind.u64.wrap (Int.tdiv U (Y / 4294967296)) = U / (Y / 4294967296) := by
      rw [Int.tdiv_eq_ediv_of_nonneg dg.u0, wu64]; omega
    rw [e2]
    have z0 : 0 ≤ U / (Y / 4294967296) * (Y / 4294967296) := Int.mul_nonneg hi'.2.2.2.2.2 (by omega)
    have e3 : IntKind.u64.wrap (U / (Y / 4294967296) * (Y / 4294967296)) = U / (Y / 4294967296) * (Y / 4294967296) := by rw [wu64]; omega
    rw [e3]
    have e4 : IntKind.u64.wrap (U - U / (Y / 4294967296) * (Y / 4294967296)) = U % (Y / 4294967296) := by rw [wu64]; omega
    rw [e4, div_l0 dg (d0 := L % 4294967296) (by omega) (by omega) (n : Int) ⟨by omega, by omega⟩ 2 k _ _ hi'.2.2.1 hi'.1 hi'.2.1 hi'.2.2.2.1 hi'.2.2.2.2.1 (by omega) (by omega)]
    have eN : U * 18446744073709551616 + L / 4294967296 * 4294967296 + L % 4294967296 = (hi * 18446744073709551616 + lo) * 2 ^ n := by rw [hN]; omega
    have q2 : ∀ N : Int, N * 2 ^ n % (y * 2 ^ n) / 2 ^ n = N % y := by
      intro N
      rw [Int.mul_comm N, Int.mul_comm y, Int.mul_emod_mul_of_pos _ _ hp, Int.mul_comm, Int.mul_ediv_cancel _ (Int.ne_of_gt hp)]
    rw [eN, ← hYe, Int.mul_ediv_mul_of_pos_left _ _ hp, Int.toNat_natCast, q2]
/-- what a product divided, rounded up, answers -/
def CeilR (N y : Int) (r : Int × Int) : Prop := (r = (0, 5) ∧ (y = 0 ∨ 18446744073709551615 * y < N)) ∨ (∃ c, r = (c, 0) ∧ 0 ≤ c ∧ c ≤ 18446744073709551615 ∧ N ≤ c * y ∧ (c - 1) * y < N ∧ 0 < y ∧ N ≤ 18446744073709551615 * y)
theorem ceil_val {N y : Int} (hN : 0 ≤ N) (hN1 : N / 18446744073709551616 ≤ 18446744073709551615) (hy : 0 ≤ y) (hy1 : y ≤ 18446744073709551615) {k : Nat} (hk : 30 ≤ k) :
    ∃ r, num_Wide_Ceil.f k (N / 18446744073709551616) (N % 18446744073709551616) y = some r ∧ CeilR N y r := by
  obtain ⟨k, rfl⟩ : ∃ m, k = m + 1 := ⟨k - 1, by omega⟩
  unfold num_Wide_Ceil.f
  by_cases h0 : y = 0
  · rw [if_pos h0]
    exact ⟨(0, 5), by simp [num_Wide_Ceil.j0], .inl ⟨rfl, .inl h0⟩⟩
  · rw [if_neg h0]
    by_cases h1 : N / 18446744073709551616 ≥ y
    · rw [decide_eq_true h1]
      exact ⟨(0, 5), by simp [num_Wide_Ceil.j0], .inl ⟨rfl, .inr (by omega)⟩⟩
    · rw [decide_eq_false h1]
      have hyp : 0 < y := by omega
      have hd := div64 (hi := N / 18446744073709551616) (lo := N % 18446744073709551616) (y := y) (by omega) (by omega) (by omega) (by omega) hy1 k (by omega)
      have eN : N / 18446744073709551616 * 18446744073709551616 + N % 18446744073709551616 = N := by omega
      rw [eN] at hd
      simp only [num_Wide_Ceil.j0, Bool.false_eq_true, if_false]
      rw [hd, Option.bind_some]
      have e := Int.ediv_mul_add_emod N y
      have m0 := Int.emod_nonneg N h0
      have m1 := Int.emod_lt_of_pos N hyp
      have q0 : 0 ≤ N / y := Int.ediv_nonneg hN hy
      have q1 : N / y < 18446744073709551616 := Int.ediv_lt_of_lt_mul hyp (by omega)
      by_cases h2 : N % y = 0
      · simp only [h2, if_true]
        refine ⟨_, rfl, .inr ⟨N / y, rfl, q0, by omega, by omega, ?_, hyp, ?_⟩⟩
        · rw [Int.sub_mul, Int.one_mul]; omega
        · have := Int.mul_le_mul_of_nonneg_right (show N / y ≤ 18446744073709551615 by omega) hy
          omega
      · simp only [h2, if_false]
        rw [add_val [N / y, 1] (by intro x hx; simp at hx; omega) (by simp) (by simp; omega), Option.bind_some]
        refine ⟨_, rfl, ?_⟩
        simp only [addS, Int.zero_add]
        rw [if_pos (show N / y ≤ 18446744073709551615 by omega)]
        by_cases h3 : N / y + 1 ≤ 18446744073709551615
        · rw [if_pos h3]
          refine .inr ⟨N / y + 1, rfl, by omega, h3, ?_, ?_, hyp, ?_⟩
          · rw [Int.add_mul, Int.one_mul]; omega
          · rw [show N / y + 1 - 1 = N / y from by omega]; omega
          · have := Int.mul_le_mul_of_nonneg_right h3 hy
            rw [Int.add_mul, Int.one_mul] at this
            omega
        · rw [if_neg h3]
          refine .inl ⟨rfl, .inr ?_⟩
          have e2 : N / y = 18446744073709551615 := by omega
          rw [e2] at e; omega
theorem prod_bound {a b : Int} (ha : 0 ≤ a ∧ a ≤ 18446744073709551615) (hb : 0 ≤ b ∧ b ≤ 18446744073709551615) : 0 ≤ a * b ∧ a * b / 18446744073709551616 ≤ 18446744073709551615 := by
  have h1 := Int.mul_nonneg ha.1 hb.1
  have h2 : a * b ≤ 18446744073709551615 * b := Int.mul_le_mul_of_nonneg_right ha.2 hb.1
  omega
theorem mstep {x y o c : Int} (hx : 0 ≤ x ∧ x ≤ 4294967295) (hy : 0 ≤ y ∧ y ≤ 4294967295) (ho : 0 ≤ o ∧ o ≤ 4294967295) (hc : 0 ≤ c ∧ c ≤ 4294967295) :
    Int.tmod (IntKind.u64.wrap (IntKind.u64.wrap (o + IntKind.u64.wrap (x * y)) + c)) 4294967296 = (o + x * y + c) % 4294967296 ∧
    IntKind.u64.wrap (Int.tdiv (IntKind.u64.wrap (IntKind.u64.wrap (o + IntKind.u64.wrap (x * y)) + c)) 4294967296) = (o + x * y + c) / 4294967296 ∧
    0 ≤ (o + x * y + c) / 4294967296 ∧ (o + x * y + c) / 4294967296 ≤ 4294967295 ∧ 0 ≤ (o + x * y + c) % 4294967296 ∧ (o + x * y + c) % 4294967296 ≤ 4294967295 := by
  have h0 := Int.mul_nonneg hx.1 hy.1
  have h1 : x * y ≤ 4294967295 * y := Int.mul_le_mul_of_nonneg_right hx.2 hy.1
  have e : IntKind.u64.wrap (IntKind.u64.wrap (o + IntKind.u64.wrap (x * y)) + c) = o + x * y + c := by rw [wu64, wu64, wu64]; omega
  rw [e, Int.tmod_eq_emod_of_nonneg (by omega), Int.tdiv_eq_ediv_of_nonneg (by omega), wu64]
  omega
theorem ms00 (k : Nat) {x0 x1 y0 y1 o0 o1 o2 o3 c : Int} (hx : 0 ≤ x0 ∧ x0 ≤ 4294967295) (hy : 0 ≤ y0 ∧ y0 ≤ 4294967295) (ho : 0 ≤ o0 ∧ o0 ≤ 4294967295) (hc : 0 ≤ c ∧ c ≤ 4294967295) :
    pluvialref01_Mul.l1 (k + 1) [x0, x1] [y0, y1] [o0, o1, o2, o3] 0 c 0 = pluvialref01_Mul.l1 k [x0, x1] [y0, y1] [(o0 + x0 * y0 + c) % 4294967296, o1, o2, o3] 0 ((o0 + x0 * y0 + c) / 4294967296) 1 := by
  have h := mstep hx hy ho hc
  simp only [pluvialref01_Mul.l1]
  rw [show wrap64 (0 + 0) = 0 from by decide +kernel, show wrap64 (0 + 1) = 1 from by decide +kernel]
  rw [if_pos (by omega), if_pos (by omega), if_pos (by simp), if_pos (by omega), if_pos (by simp), if_pos (by omega), if_pos (by simp)]
  rw [show rd [o0, o1, o2, o3] 0 = o0 from rfl, show rd [x0, x1] 0 = x0 from rfl, show rd [y0, y1] 0 = y0 from rfl, h.1, h.2.1]
  rfl
theorem ms01 (k : Nat) {x0 x1 y0 y1 o0 o1 o2 o3 c : Int} (hx : 0 ≤ x0 ∧ x0 ≤ 4294967295) (hy : 0 ≤ y1 ∧ y1 ≤ 4294967295) (ho : 0 ≤ o1 ∧ o1 ≤ 4294967295) (hc : 0 ≤ c ∧ c ≤ 4294967295) :
    pluvialref01_Mul.l1 (k + 1) [x0, x1] [y0, y1] [o0, o1, o2, o3] 0 c 1 = pluvialref01_Mul.l1 k [x0, x1] [y0, y1] [o0, (o1 + x0 * y1 + c) % 4294967296, o2, o3] 0 ((o1 + x0 * y1 + c) / 4294967296) 2 := by
  have h := mstep hx hy ho hc
  simp only [pluvialref01_Mul.l1]
  rw [show wrap64 (0 + 1) = 1 from by decide +kernel, show wrap64 (1 + 1) = 2 from by decide +kernel]
  rw [if_pos (by omega), if_pos (by omega), if_pos (by simp), if_pos (by omega), if_pos (by simp), if_pos (by omega), if_pos (by simp)]
  rw [show rd [o0, o1, o2, o3] 1 = o1 from rfl, show rd [x0, x1] 0 = x0 from rfl, show rd [y0, y1] 1 = y1 from rfl, h.1, h.2.1]
  rfl
theorem ms10 (k : Nat) {x0 x1 y0 y1 o0 o1 o2 o3 c : Int} (hx : 0 ≤ x1 ∧ x1 ≤ 4294967295) (hy : 0 ≤ y0 ∧ y0 ≤ 4294967295) (ho : 0 ≤ o1 ∧ o1 ≤ 4294967295) (hc : 0 ≤ c ∧ c ≤ 4294967295) :
    pluvialref01_Mul.l1 (k + 1) [x0, x1] [y0, y1] [o0, o1, o2, o3] 1 c 0 = pluvialref01_Mul.l1 k [x0, x1] [y0, y1] [o0, (o1 + x1 * y0 + c) % 4294967296, o2, o3] 1 ((o1 + x1 * y0 + c) / 4294967296) 1 := by
  have h := mstep hx hy ho hc
  simp only [pluvialref01_Mul.l1]
  rw [show wrap64 (1 + 0) = 1 from by decide +kernel, show wrap64 (0 + 1) = 1 from by decide +kernel]
  rw [if_pos (by omega), if_pos (by omega), if_pos (by simp), if_pos (by omega), if_pos (by simp), if_pos (by omega), if_pos (by simp)]
  rw [show rd [o0, o1, o2, o3] 1 = o1 from rfl, show rd [x0, x1] 1 = x1 from rfl, show rd [y0, y1] 0 = y0 from rfl, h.1, h.2.1]
  rfl
theorem ms11 (k : Nat) {x0 x1 y0 y1 o0 o1 o2 o3 c : Int} (hx : 0 ≤ x1 ∧ x1 ≤ 4294967295) (hy : 0 ≤ y1 ∧ y1 ≤ 4294967295) (ho : 0 ≤ o2 ∧ o2 ≤ 4294967295) (hc : 0 ≤ c ∧ c ≤ 4294967295) :
    pluvialref01_Mul.l1 (k + 1) [x0, x1] [y0, y1] [o0, o1, o2, o3] 1 c 1 = pluvialref01_Mul.l1 k [x0, x1] [y0, y1] [o0, o1, (o2 + x1 * y1 + c) % 4294967296, o3] 1 ((o2 + x1 * y1 + c) / 4294967296) 2 := by
  have h := mstep hx hy ho hc
  simp only [pluvialref01_Mul.l1]
  rw [show wrap64 (1 + 1) = 2 from by decide +kernel]
  rw [if_pos (by omega), if_pos (by omega), if_pos (by simp), if_pos (by omega), if_pos (by simp), if_pos (by omega), if_pos (by simp)]
  rw [show rd [o0, o1, o2, o3] 2 = o2 from rfl, show rd [x0, x1] 1 = x1 from rfl, show rd [y0, y1] 1 = y1 from rfl, h.1, h.2.1]
  rfl
theorem me0 (k : Nat) {x0 x1 y0 y1 o0 o1 o2 o3 c : Int} (ho : 0 ≤ o2 + c ∧ o2 + c ≤ 4294967295) :
    pluvialref01_Mul.l1 (k + 1) [x0, x1] [y0, y1] [o0, o1, o2, o3] 0 c 2 = pluvialref01_Mul.l0 k [x0, x1] [y0, y1] [o0, o1, o2 + c, o3] 1 := by
  simp only [pluvialref01_Mul.l1]
  rw [show wrap64 (0 + 2) = 2 from by decide +kernel, show wrap64 (0 + 1) = 1 from by decide +kernel]
  rw [if_neg (by omega), if_pos (by omega), if_pos (by simp), show rd [o0, o1, o2, o3] 2 = o2 from rfl, wu64, show (o2 + c) % 18446744073709551616 = o2 + c from by omega]
  rfl
theorem me1 (k : Nat) {x0 x1 y0 y1 o0 o1 o2 o3 c : Int} (ho : 0 ≤ o3 + c ∧ o3 + c ≤ 4294967295) :
    pluvialref01_Mul.l1 (k + 1) [x0, x1] [y0, y1] [o0, o1, o2, o3] 1 c 2 = pluvialref01_Mul.l0 k [x0, x1] [y0, y1] [o0, o1, o2, o3 + c] 2 := by
  simp only [pluvialref01_Mul.l1]
  rw [show wrap64 (1 + 2) = 3 from by decide +kernel, show wrap64 (1 + 1) = 2 from by decide +kernel]
  rw [if_neg (by omega), if_pos (by omega), if_pos (by simp), show rd [o0, o1, o2, o3] 3 = o3 from rfl, wu64, show (o3 + c) % 18446744073709551616 = o3 + c from by omega]
  rfl
theorem mend (k : Nat) {x0 x1 y0 y1 o0 o1 o2 o3 : Int} (h0 : 0 ≤ o0 ∧ o0 ≤ 4294967295) (h1 : 0 ≤ o1 ∧ o1 ≤ 4294967295) (h2 : 0 ≤ o2 ∧ o2 ≤ 4294967295) (h3 : 0 ≤ o3 ∧ o3 ≤ 4294967295) :
    pluvialref01_Mul.l0 (k + 1) [x0, x1] [y0, y1] [o0, o1, o2, o3] 2 = some (o3 * 4294967296 + o2, o1 * 4294967296 + o0) := by
  simp only [pluvialref01_Mul.l0]
  rw [if_neg (by omega), if_pos (by simp), if_pos (by simp), if_pos (by simp), if_pos (by simp), show rd [o0, o1, o2, o3] 3 = o3 from rfl, show rd [o0, o1, o2, o3] 2 = o2 from rfl, show rd [o0, o1, o2, o3] 1 = o1 from rfl, show rd [o0, o1, o2, o3] 0 = o0 from rfl, wu64, wu64, wu64, wu64]
  congr 2 <;> omega
theorem mgo (k : Nat) {x y o : List Int} {i : Int} (hi : i < 2) : pluvialref01_Mul.l0 (k + 1) x y o i = pluvialref01_Mul.l1 k x y o i 0 0 := by
  simp only [pluvialref01_Mul.l0]; rw [if_pos hi]
theorem refmul_val {a b : Int} (ha : 0 ≤ a ∧ a ≤ 18446744073709551615) (hb : 0 ≤ b ∧ b ≤ 18446744073709551615) {k : Nat} (hk : 20 ≤ k) :
    pluvialref01_Mul.f k a b = some (a * b / 18446744073709551616, a * b % 18446744073709551616) := by
  obtain ⟨k, rfl⟩ : ∃ m, k = m + 9 := ⟨k - 9, by omega⟩
  unfold pluvialref01_Mul.f
  rw [Int.tmod_eq_emod_of_nonneg ha.1, Int.tmod_eq_emod_of_nonneg hb.1, Int.tdiv_eq_ediv_of_nonneg ha.1, Int.tdiv_eq_ediv_of_nonneg hb.1, wu64, wu64, show a / 4294967296 % 18446744073709551616 = a / 4294967296 from by omega, show b / 4294967296 % 18446744073709551616 = b / 4294967296 from by omega]
  have eab : a * b = (a / 4294967296 * 4294967296 + a % 4294967296) * (b / 4294967296 * 4294967296 + b % 4294967296) := by
    rw [show a / 4294967296 * 4294967296 + a % 4294967296 = a from by omega, show b / 4294967296 * 4294967296 + b % 4294967296 = b from by omega]
  have h0 : 0 ≤ a % 4294967296 ∧ a % 4294967296 ≤ 4294967295 := by omega
  have h1 : 0 ≤ a / 4294967296 ∧ a / 4294967296 ≤ 4294967295 := by omega
  have g0 : 0 ≤ b % 4294967296 ∧ b % 4294967296 ≤ 4294967295 := by omega
  have g1 : 0 ≤ b / 4294967296 ∧ b / 4294967296 ≤ 4294967295 := by omega
  rw [eab]
  generalize a % 4294967296 = x0 at *
  generalize a / 4294967296 = x1 at *
  generalize b % 4294967296 = y0 at *
  generalize b / 4294967296 = y1 at *
  clear eab
  have z : (0 : Int) ≤ 0 ∧ (0 : Int) ≤ 4294967295 := by omega
  rw [mgo (k + 8) (by omega), ms00 (k + 7) h0 g0 z z]
  have p1 := mstep h0 g0 z z
  generalize hn1 : (0 : Int) + x0 * y0 + 0 = n1 at *
  rw [ms01 (k + 6) h0 g1 z ⟨p1.2.2.1, p1.2.2.2.1⟩]
  have p2 := mstep h0 g1 z ⟨p1.2.2.1, p1.2.2.2.1⟩
  generalize hn2 : (0 : Int) + x0 * y1 + n1 / 4294967296 = n2 at *
  rw [me0 (k + 5) (by omega), mgo (k + 4) (by omega), ms10 (k + 3) h1 g0 ⟨p2.2.2.2.2.1, p2.2.2.2.2.2⟩ z]
  have p3 := mstep h1 g0 ⟨p2.2.2.2.2.1, p2.2.2.2.2.2⟩ z
  generalize hn3 : n2 % 4294967296 + x1 * y0 + 0 = n3 at *
  have hc2 : 0 ≤ 0 + n2 / 4294967296 ∧ 0 + n2 / 4294967296 ≤ 4294967295 := by omega
  rw [ms11 (k + 2) h1 g1 hc2 ⟨p3.2.2.1, p3.2.2.2.1⟩]
  have p4 := mstep h1 g1 hc2 ⟨p3.2.2.1, p3.2.2.2.1⟩
  generalize hn4 : 0 + n2 / 4294967296 + x1 * y1 + n3 / 4294967296 = n4 at *
  rw [me1 (k + 1) (by omega), mend k ⟨p1.2.2.2.2.1, p1.2.2.2.2.2⟩ ⟨p3.2.2.2.2.1, p3.2.2.2.2.2⟩ ⟨p4.2.2.2.2.1, p4.2.2.2.2.2⟩ (by omega)]
  have eN : (x1 * 4294967296 + x0) * (y1 * 4294967296 + y0) = x1 * y1 * 18446744073709551616 + (x1 * y0 + x0 * y1) * 4294967296 + x0 * y0 := by
    rw [Int.add_mul, Int.mul_add, Int.mul_add, show x1 * 4294967296 * (y1 * 4294967296) = x1 * y1 * 18446744073709551616 from by
      rw [Int.mul_assoc, ← Int.mul_assoc 4294967296, Int.mul_comm 4294967296 y1, Int.mul_assoc y1, ← Int.mul_assoc]; rfl,
      show x1 * 4294967296 * y0 = x1 * y0 * 4294967296 from by rw [Int.mul_right_comm], ← Int.mul_assoc, Int.add_mul]
    omega
  rw [eN]
  congr 2 <;> omega
theorem refless_val (p q : Int) : pluvialref01_Less.f (p / 18446744073709551616) (p % 18446744073709551616) (q / 18446744073709551616) (q % 18446744073709551616) = some (decide (p < q)) := by
  unfold pluvialref01_Less.f
  by_cases h : p / 18446744073709551616 = q / 18446744073709551616
  · rw [if_pos h]; congr 1
    rw [Bool.eq_iff_iff]; simp only [decide_eq_true_eq]; omega
  · rw [if_neg h]; congr 1
    rw [Bool.eq_iff_iff]; simp only [decide_eq_true_eq]; omega
theorem awake_val : pluviallaw01_awake.f = some true := by decide +kernel
theorem wides_j2 (a b c d y : Int) (ha : 0 ≤ a ∧ a ≤ 18446744073709551615) (hb : 0 ≤ b ∧ b ≤ 18446744073709551615) (hc : 0 ≤ c ∧ c ≤ 18446744073709551615) (hd : 0 ≤ d ∧ d ≤ 18446744073709551615) (hy : 0 ≤ y ∧ y ≤ 18446744073709551615) :
    pluviallaw01_NumWides.j2 50 a b c d y (a * b / 18446744073709551616) (a * b % 18446744073709551616) (if a * d < c * b then -1 else if c * b < a * d then 1 else 0) (a * b / 18446744073709551616) (a * b % 18446744073709551616) = some true := by
  have hp := prod_bound ha hb
  simp only [pluviallaw01_NumWides.j2]
  rw [ratio_val ha hb hc hd]
  simp only [Option.bind_some, if_true]
  obtain ⟨r, hr, hc'⟩ := ceil_val (N := a * b) (y := y) hp.1 hp.2 hy.1 hy.2 (k := 49) (by omega)
  rw [hr, Option.bind_some, awake_val]
  simp only [Option.bind_some, if_true]
  have hz : (0 : Int) ≤ 18446744073709551615 ∧ (18446744073709551615 : Int) ≤ 18446744073709551615 := by omega
  rcases hc' with ⟨rfl, h⟩ | ⟨n, rfl, c0, c1, h1, h2, h3, h4⟩
  · by_cases hy0 : y = 0
    · rw [if_pos hy0]; simp
    · rw [if_neg hy0, if_neg (by decide), refmul_val hz hy (by omega), Option.bind_some, refless_val]
      have : 18446744073709551615 * y < a * b := by
        rcases h with h | h
        · exact absurd h hy0
        · exact h
      rw [decide_eq_true this]; simp
  · rw [if_neg (by omega)]
    simp only [if_true]
    rw [refmul_val ⟨c0, c1⟩ hy (by omega), Option.bind_some, refless_val, decide_eq_false (by omega), Option.bind_some, if_neg (by decide)]
    by_cases hn : n = 0
    · subst hn
      have : a * b = 0 := by omega
      rw [this]; simp
    · rw [if_neg hn, wu64, show (n - 1) % 18446744073709551616 = n - 1 from by omega, refmul_val ⟨by omega, by omega⟩ hy (by omega), Option.bind_some, refless_val, decide_eq_true h2]
      rfl
theorem main : pluviallaw01_NumWides.Pure := by
  intro a b c d y ha hb hc hd hy
  have ha' := wf_u64 ha
  have hb' := wf_u64 hb
  have hc' := wf_u64 hc
  have hd' := wf_u64 hd
  have hy' := wf_u64 hy
  have h2 := wides_j2 a b c d y ha' hb' hc' hd' hy'
  refine ⟨52, ?_⟩
  unfold pluviallaw01_NumWides.f
  rw [mul_val ha' hb', mul_val hc' hd', refmul_val ha' hb' (by omega), refmul_val hc' hd' (by omega)]
  simp only [Option.bind_some, if_true]
  rw [less_val, refless_val]
  simp only [Option.bind_some, bne_self_eq_false, pluviallaw01_NumWides.j0, Bool.false_eq_true, if_false]
  rw [refmul_val ha' hd' (by omega), refmul_val hc' hb' (by omega)]
  simp only [Option.bind_some]
  rw [refless_val]
  simp only [Option.bind_some, decide_eq_true_eq]
  by_cases h1 : a * d < c * b
  · rw [if_pos h1]
    simp only [pluviallaw01_NumWides.j1]
    rw [refless_val, decide_eq_false (by omega), Option.bind_some, if_neg (by decide)]
    rw [if_pos h1] at h2; exact h2
  · rw [if_neg h1]
    simp only [pluviallaw01_NumWides.j1]
    rw [refless_val, Option.bind_some]
    rw [if_neg h1] at h2
    by_cases h3 : c * b < a * d
    · rw [if_pos (decide_eq_true h3)]
      rw [if_pos h3] at h2; exact h2
    · rw [if_neg (by simpa using h3)]
      rw [if_neg h3] at h2; exact h2
end Go.Proofs.Ytdonphglmeimbaa.Pure.LNumWides
namespace Go.Proofs.Ytdonphglmeimbaa.Pure
theorem NumWides : Go.Proofs.Ytdonphglmeimbaa.QNumWides.pluviallaw01_NumWides.Pure := LNumWides.main
end Go.Proofs.Ytdonphglmeimbaa.Pure
