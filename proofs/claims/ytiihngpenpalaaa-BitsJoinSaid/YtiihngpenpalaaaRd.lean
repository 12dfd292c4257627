/- What the reader's functions compute of bytes, and how long a number is: plain Lean over the functions that the print wrote; each lemma names its bounds. -/
import Derived.Test.YtiihngpenpalaaaBits
import Derived.Test.YtiihngpenpalaaaPBitsJoinx2
namespace Go.Proofs.Ytiihngpenpalaaa.Bt
open Go.RowKit Go.Proofs.Ytiihngpenpalaaa Go.Proofs.Ytiihngpenpalaaa.PBitsJoin Go.Proofs.Ytiihngpenpalaaa.Mth Go.Proofs.YtiihngpenpalaaaW.PrintWords Go.Proofs.YtiihngpenpalaaaW.PrintLast Go.Proofs.YtiihngpenpalaaaW.PrintMore
theorem and_one_u8 (x : Int) : Go.bits .and .u8 x 1 = x % 2 := by
  show IntKind.u8.wrap ((BitVec.ofInt 8 x &&& BitVec.ofInt 8 1).toNat : Int) = _
  have e : (BitVec.ofInt 8 (1 : Int)).toNat = 2 ^ 1 - 1 := by decide
  rw [wu8, BitVec.toNat_and, e, Nat.and_two_pow_sub_one_eq_mod]
  have h := ofInt_toNat 8 x
  omega
theorem or_one_u64 {A : Int} (h0 : 0 ≤ A) (h1 : A * 2 + 1 ≤ 18446744073709551615) : Go.bits .or .u64 (A * 2) 1 = A * 2 + 1 := by
  obtain ⟨a, rfl⟩ := Int.eq_ofNat_of_zero_le h0
  have hN : ((a * 2 ^ 1 : Nat) : Int) = (a : Int) * 2 := by push_cast; omega
  rw [← hN]
  have hs' : a * 2 ^ 1 + 1 < 2 ^ 64 := by omega
  have := or_add_nat (a := a) (b := 1) (n := 1) (m := 64) (by omega) hs'
  show IntKind.u64.wrap ((BitVec.ofInt 64 ((a * 2 ^ 1 : Nat) : Int) ||| BitVec.ofInt 64 ((1 : Nat) : Int)).toNat : Int) = _
  rw [this, wu64]
  omega
/-! ### the reader -/
theorem bit_any {l : List Int} (hb : Bytes l) (hl : l.length ≤ 1000) (n : Nat) (bad : Int) (hn : n ≤ 8 * l.length) :
    ∃ b, ∃ n' : Nat, ∃ bad', bits_Reader_Bit.f l (n : Int) bad = some (b, (n' : Int), bad') ∧ n ≤ n' ∧ n' ≤ 8 * l.length ∧ (bad' = 0 → bad = 0 ∧ (bitsOf l).drop n = b :: (bitsOf l).drop n') := by
  unfold bits_Reader_Bit.f
  by_cases c : bad = 0
  · rw [if_pos c, w64 (by omega) (by omega)]
    by_cases c2 : n < 8 * l.length
    · have hlen := bitsOf_len l
      have hg := hb.get (n / 8)
      have e0 : Int.tdiv (n : Int) 8 = ((n / 8 : Nat) : Int) := by rw [Int.tdiv_eq_ediv_of_nonneg (by omega)]; omega
      have e1 : Int.tmod (n : Int) 8 = ((n % 8 : Nat) : Int) := by rw [Int.tmod_eq_emod_of_nonneg (by omega)]; omega
      have er : rd l ((n / 8 : Nat) : Int) = l.getD (n / 8) 0 := by unfold rd; rw [Int.toNat_natCast]
      have es : IntKind.u64.wrap (7 - IntKind.u64.wrap ((n % 8 : Nat) : Int)) = ((7 - n % 8 : Nat) : Int) := by rw [wu64, wu64]; omega
      rw [if_neg (by omega), e0, w64 (x := ((n / 8 : Nat) : Int)) (by omega) (by omega), if_pos (by omega), if_pos (by omega), e1, es, if_pos (by omega), er, w64 (x := (n : Int) + 1) (by omega) (by omega), and_one_u8]
      refine ⟨_, n + 1, _, rfl, by omega, by omega, fun _ => ⟨c, ?_⟩⟩
      rw [List.drop_eq_getElem_cons (by omega)]
      congr 1
      have h1 := bitsOf_get l n c2
      rw [List.getElem?_eq_getElem (by omega)] at h1
      rw [Option.some.inj h1]
      have : shr .u8 (l.getD (n / 8) 0) ((7 - n % 8 : Nat) : Int) = l.getD (n / 8) 0 / 2 ^ (7 - n % 8) := by
        unfold shr
        rw [Int.toNat_natCast, Nat.min_eq_left]
        show 7 - n % 8 ≤ 8
        omega
      rw [this, Bool.eq_iff_iff, decide_eq_true_iff, beq_iff_eq]
    · rw [if_pos (by omega)]
      refine ⟨false, n, 7, ?_, by omega, hn, fun h => absurd h (by decide)⟩
      unfold bits_Reader_fail.f
      rw [if_pos c]; rfl
  · rw [if_neg c]
    refine ⟨false, n, bad, ?_, by omega, hn, fun h => absurd h c⟩
    unfold bits_Reader_fail.f
    rw [if_neg c]; rfl
theorem get_loop {l : List Int} (hb : Bytes l) (hl : l.length ≤ 1000) (w : Nat) (hw : w ≤ 64) : ∀ (d k : Nat) (pre : List Bool) (n : Nat) (bad : Int), w - pre.length = d → pre.length ≤ w → n ≤ 8 * l.length → d < k →
    ∃ v, ∃ n' : Nat, ∃ bad', bits_Reader_Get.l0 k (valA 0 pre) (w : Int) (pre.length : Int) l (n : Int) bad = some (v, (n' : Int), bad') ∧ n ≤ n' ∧ n' ≤ 8 * l.length ∧ (bad' = 0 → bad = 0 ∧ ∃ bs : List Bool, bs.length = d ∧ (bitsOf l).drop n = bs ++ (bitsOf l).drop n' ∧ v = valA 0 (pre ++ bs)) ∧ (bad' ≠ 0 → v = 0) := by
  intro d
  induction d with
  | zero =>
    intro k pre n bad hd hp hn hk
    obtain ⟨k, rfl⟩ : ∃ m, k = m + 1 := ⟨k - 1, by omega⟩
    simp only [bits_Reader_Get.l0]
    rw [if_neg (by omega)]
    by_cases c : bad = 0
    · rw [if_pos c]
      exact ⟨_, n, bad, rfl, Nat.le_refl _, hn, fun _ => ⟨c, [], rfl, rfl, by rw [List.append_nil]⟩, fun h => absurd c h⟩
    · rw [if_neg c]
      exact ⟨_, n, bad, rfl, Nat.le_refl _, hn, fun h => absurd h c, fun _ => rfl⟩
  | succ d ih =>
    intro k pre n bad hd hp hn hk
    obtain ⟨k, rfl⟩ : ∃ m, k = m + 1 := ⟨k - 1, by omega⟩
    simp only [bits_Reader_Get.l0]
    obtain ⟨b, n1, bad1, e, h1, h2, h3⟩ := bit_any hb hl n bad hn
    have hv := val_bound pre.length pre rfl
    have hp64 : (2 : Int) ^ pre.length ≤ 2 ^ 63 := by exact_mod_cast Nat.pow_le_pow_right (n := 2) (by omega) (by omega : pre.length ≤ 63)
    have e2 : IntKind.u64.wrap (valA 0 pre * 2) = valA 0 pre * 2 := by rw [wu64]; omega
    rw [if_pos (by omega), e, Option.bind_some]
    simp only []
    rw [e2, or_one_u64 hv.1 (by omega), w64 (by omega) (by omega)]
    have step : ∃ v, ∃ n' : Nat, ∃ bad', bits_Reader_Get.l0 k (valA 0 (pre ++ [b])) (w : Int) ((pre ++ [b]).length : Int) l (n1 : Int) bad1 = some (v, (n' : Int), bad') ∧ n ≤ n' ∧ n' ≤ 8 * l.length ∧ (bad' = 0 → bad = 0 ∧ ∃ bs : List Bool, bs.length = d + 1 ∧ (bitsOf l).drop n = bs ++ (bitsOf l).drop n' ∧ v = valA 0 (pre ++ bs)) ∧ (bad' ≠ 0 → v = 0) := by
      obtain ⟨v, n', bad', f1, f2, f3, f4, f5⟩ := ih k (pre ++ [b]) n1 bad1 (by simp; omega) (by simp; omega) h2 (by omega)
      refine ⟨v, n', bad', f1, by omega, f3, ?_, f5⟩
      intro h
      obtain ⟨g1, bs, g2, g3, g4⟩ := f4 h
      obtain ⟨g5, g6⟩ := h3 g1
      exact ⟨g5, b :: bs, by simp [g2], by rw [g6, g3]; rfl, by rw [g4, List.append_assoc]; rfl⟩
    have el : (((pre ++ [b]).length : Nat) : Int) = (pre.length : Int) + 1 := by simp
    rw [val_snoc, el] at step
    cases b
    · rw [if_neg (by simp)]
      rw [show 2 * valA 0 pre + b2i false = valA 0 pre * 2 from by simp only [b2i]; simp; omega] at step
      exact step
    · rw [if_pos rfl]
      rw [show 2 * valA 0 pre + b2i true = valA 0 pre * 2 + 1 from by simp only [b2i]; simp; omega] at step
      exact step
theorem get_val {l : List Int} (hb : Bytes l) (hl : l.length ≤ 1000) (w : Nat) (hw : w ≤ 64) {k : Nat} (hk : 100 ≤ k) (n : Nat) (bad : Int) (hn : n ≤ 8 * l.length) :
    ∃ v, ∃ n' : Nat, ∃ bad', bits_Reader_Get.f k l (n : Int) bad (w : Int) = some (v, (n' : Int), bad') ∧ n ≤ n' ∧ n' ≤ 8 * l.length ∧ (bad' = 0 → bad = 0 ∧ ∃ bs : List Bool, bs.length = w ∧ (bitsOf l).drop n = bs ++ (bitsOf l).drop n' ∧ v = valA 0 bs) ∧ (bad' ≠ 0 → v = 0) := by
  unfold bits_Reader_Get.f
  rw [show mx 0 (mn (w : Int) 64) = (w : Int) from by unfold mx mn; split <;> split <;> omega]
  exact get_loop hb hl w hw w k [] n bad rfl (Nat.zero_le _) hn (by omega)
theorem long_loop : ∀ (n k : Nat) (c : Int), 0 ≤ c → c + bl n ≤ 1000 → bl n < k → bits_long.l0 k (n : Int) c = some (c + ((bl n : Nat) : Int)) := by
  intro n
  induction n using Nat.strongRecOn with
  | ind n ih =>
    intro k c h0 h1 hk
    obtain ⟨k, rfl⟩ : ∃ m, k = m + 1 := ⟨k - 1, by omega⟩
    simp only [bits_long.l0]
    by_cases h : n = 0
    · subst h
      rw [if_neg (by omega), bl]; simp
    · rw [bl, dif_neg h] at h1 hk ⊢
      rw [if_pos (by omega), w64 (by omega) (by omega), show (n : Int) / 2 = ((n / 2 : Nat) : Int) from by omega, ih (n / 2) (by omega) k (c + 1) (by omega) (by omega) (by omega)]
      congr 1; omega
theorem long_val {v : Int} (h0 : 0 ≤ v) (h1 : v ≤ 18446744073709551615) {k : Nat} (hk : 100 ≤ k) : bits_long.f k v = some ((bl v.toNat : Nat) : Int) := by
  obtain ⟨n, rfl⟩ := Int.eq_ofNat_of_zero_le h0
  have := (bl_le 64 n).2 (by omega)
  unfold bits_long.f
  rw [long_loop n k 0 (by omega) (by omega) (by omega)]
  simp
def CL : List Int := [0, 3, 7, 12, 20, 32, 64]
theorem rd_CL {i : Nat} (hi : i ≤ 6) : rd CL (i : Int) = (clsW i : Int) := by
  have hc : i = 0 ∨ i = 1 ∨ i = 2 ∨ i = 3 ∨ i = 4 ∨ i = 5 ∨ i = 6 := by omega
  rcases hc with rfl | rfl | rfl | rfl | rfl | rfl | rfl <;> rfl
theorem cls_le {v : Int} (h0 : 0 ≤ v) (h1 : v ≤ 18446744073709551615) {i : Nat} (hi : i ≤ 6) : bl v.toNat ≤ clsW i ↔ cls v ≤ i := by
  rw [bl_le]
  have hc : i = 0 ∨ i = 1 ∨ i = 2 ∨ i = 3 ∨ i = 4 ∨ i = 5 ∨ i = 6 := by omega
  rcases hc with rfl | rfl | rfl | rfl | rfl | rfl | rfl <;> simp only [clsW] <;> unfold cls <;> (repeat' split) <;> omega
theorem cls_6 (v : Int) : cls v ≤ 6 := by unfold cls; (repeat' split) <;> omega
theorem count_end {l : List Int} (hb : Bytes l) (hl : l.length ≤ 1000) {k : Nat} (hk : 200 ≤ k) (i : Nat) (hi : i ≤ 6) (n0 n : Nat) (bad bad0 : Int) (hn : n ≤ 8 * l.length) (h0 : n0 ≤ n) (hh : bad = 0 → bad0 = 0 ∧ (bitsOf l).drop n0 = hdr i ++ (bitsOf l).drop n) :
    ∃ v, ∃ n' : Nat, ∃ bad', bits_Reader_Count.j1 k CL (i : Int) l (n : Int) bad = some (v, (n' : Int), bad') ∧ n0 ≤ n' ∧ n' ≤ 8 * l.length ∧ 0 ≤ v ∧ v ≤ 18446744073709551615 ∧ (bad' = 0 → bad0 = 0 ∧ (bitsOf l).drop n0 = encC v ++ (bitsOf l).drop n') ∧ (bad' ≠ 0 → v = 0) := by
  obtain ⟨k, rfl⟩ : ∃ m, k = m + 1 := ⟨k - 1, by omega⟩
  obtain ⟨v, n', bad', e, g1, g2, g3, g4⟩ := get_val hb hl (clsW i) (clsW_le i) (k := k) (by omega) n bad hn
  have hw : (2 : Int) ^ clsW i ≤ 2 ^ 64 := by exact_mod_cast Nat.pow_le_pow_right (n := 2) (by omega) (clsW_le i)
  have hv : 0 ≤ v ∧ v < 2 ^ clsW i := by
    by_cases c : bad' = 0
    · obtain ⟨_, bs, h1, _, h3⟩ := g3 c
      rw [h3]; exact val_bound _ _ h1
    · rw [g4 c]; exact ⟨by omega, pow_pos' _⟩
  simp only [bits_Reader_Count.j1]
  rw [if_pos (by omega), if_pos (by show (i : Int) < 7; omega), rd_CL hi, e, Option.bind_some]
  simp only []
  have fin : (i = 0 ∨ ¬ bl v.toNat ≤ clsW (i - 1)) → ∀ k, bits_Reader_Count.j2 (k + 1) v false l (n' : Int) bad' = some (v, (n' : Int), bad') ∧ (bad' = 0 → bad0 = 0 ∧ (bitsOf l).drop n0 = encC v ++ (bitsOf l).drop n') := by
    intro hc k
    constructor
    · simp only [bits_Reader_Count.j2, Bool.false_eq_true, if_false]
      by_cases c : bad' = 0
      · rw [if_pos c]
      · rw [if_neg c, g4 c]
    · intro c
      obtain ⟨g5, bs, g6, g7, g8⟩ := g3 c
      obtain ⟨g9, g10⟩ := hh g5
      refine ⟨g9, ?_⟩
      rw [g10, g7, ← List.append_assoc]
      congr 1
      unfold encC
      rw [cls_of hi hv.1 hv.2 hc, g8, putB_val _ _ g6]
  obtain ⟨k, rfl⟩ : ∃ m, k = m + 1 := ⟨k - 1, by omega⟩
  by_cases ci : i = 0
  · rw [if_neg (by omega)]
    obtain ⟨f1, f2⟩ := fin (.inl ci) k
    exact ⟨v, n', bad', f1, by omega, g2, hv.1, by omega, f2, g4⟩
  · rw [if_pos (by omega), long_val hv.1 (by omega) (by omega), Option.bind_some, w64 (by omega) (by omega), if_pos (by omega), if_pos (by show (i : Int) - 1 < 7; omega), show (i : Int) - 1 = ((i - 1 : Nat) : Int) from by omega, rd_CL (by omega)]
    by_cases c : bl v.toNat ≤ clsW (i - 1)
    · rw [decide_eq_true (by omega)]
      simp only [bits_Reader_Count.j2, if_true]
      unfold bits_Reader_fail.f
      by_cases c2 : bad' = 0
      · rw [if_pos c2, Option.bind_some]
        exact ⟨0, n', 6, rfl, by omega, g2, by omega, by omega, fun h => absurd h (by decide), fun _ => rfl⟩
      · rw [if_neg c2, Option.bind_some]
        simp only []
        rw [if_neg c2]
        exact ⟨0, n', bad', rfl, by omega, g2, by omega, by omega, fun h => absurd h c2, fun _ => rfl⟩
    · rw [decide_eq_false (by omega)]
      obtain ⟨f1, f2⟩ := fin (.inr c) k
      exact ⟨v, n', bad', f1, by omega, g2, hv.1, by omega, f2, g4⟩
theorem count_loop {l : List Int} (hb : Bytes l) (hl : l.length ≤ 1000) (n0 : Nat) (bad0 : Int) : ∀ (d k i n : Nat) (bad : Int), 6 - i = d → i ≤ 6 → n ≤ 8 * l.length → n0 ≤ n → (bad = 0 → bad0 = 0 ∧ (bitsOf l).drop n0 = List.replicate i true ++ (bitsOf l).drop n) → 200 + d < k →
    ∃ v, ∃ n' : Nat, ∃ bad', bits_Reader_Count.l0 k CL (i : Int) l (n : Int) bad = some (v, (n' : Int), bad') ∧ n0 ≤ n' ∧ n' ≤ 8 * l.length ∧ 0 ≤ v ∧ v ≤ 18446744073709551615 ∧ (bad' = 0 → bad0 = 0 ∧ (bitsOf l).drop n0 = encC v ++ (bitsOf l).drop n') ∧ (bad' ≠ 0 → v = 0) := by
  intro d
  induction d with
  | zero =>
    intro k i n bad hd hi hn h0 hh hk
    obtain ⟨k, rfl⟩ : ∃ m, k = m + 1 := ⟨k - 1, by omega⟩
    simp only [bits_Reader_Count.l0]
    rw [if_neg (by rw [show wrap64 ((CL.length : Int) - 1) = 6 from by decide +kernel]; omega)]
    refine count_end hb hl (by omega) i hi n0 n bad bad0 hn h0 (fun h => ⟨(hh h).1, ?_⟩)
    rw [(hh h).2, hdr, if_neg (by omega), List.append_nil]
  | succ d ih =>
    intro k i n bad hd hi hn h0 hh hk
    obtain ⟨k, rfl⟩ : ∃ m, k = m + 1 := ⟨k - 1, by omega⟩
    obtain ⟨b, n1, bad1, e, h1, h2, h3⟩ := bit_any hb hl n bad hn
    simp only [bits_Reader_Count.l0]
    rw [if_pos (by rw [show wrap64 ((CL.length : Int) - 1) = 6 from by decide +kernel]; omega), e, Option.bind_some]
    simp only []
    cases b
    · rw [if_neg (by simp)]
      refine count_end hb hl (by omega) i hi n0 n1 bad1 bad0 h2 (by omega) (fun h => ?_)
      obtain ⟨g1, g2⟩ := h3 h
      obtain ⟨g3, g4⟩ := hh g1
      refine ⟨g3, ?_⟩
      rw [g4, g2, hdr, if_pos (by omega), List.append_assoc]; rfl
    · rw [if_pos rfl, w64 (by omega) (by omega)]
      refine ih k (i + 1) n1 bad1 (by omega) (by omega) h2 (by omega) (fun h => ?_) (by omega)
      obtain ⟨g1, g2⟩ := h3 h
      obtain ⟨g3, g4⟩ := hh g1
      refine ⟨g3, ?_⟩
      rw [g4, g2, List.replicate_succ', List.append_assoc]; rfl
theorem count_val {l : List Int} (hb : Bytes l) (hl : l.length ≤ 1000) {k : Nat} (hk : 300 ≤ k) (n : Nat) (bad : Int) (hn : n ≤ 8 * l.length) :
    ∃ v, ∃ n' : Nat, ∃ bad', bits_Reader_Count.f k l (n : Int) bad = some (v, (n' : Int), bad') ∧ n ≤ n' ∧ n' ≤ 8 * l.length ∧ 0 ≤ v ∧ v ≤ 18446744073709551615 ∧ (bad' = 0 → bad = 0 ∧ (bitsOf l).drop n = encC v ++ (bitsOf l).drop n') ∧ (bad' ≠ 0 → v = 0) := by
  unfold bits_Reader_Count.f bits_classes.f
  rw [Option.bind_some]
  exact count_loop hb hl n bad 6 k 0 n bad rfl (by omega) hn (Nat.le_refl _) (fun h => ⟨h, rfl⟩) (by omega)
theorem search_fin : ∀ b : Fin 65, ∃ f : Bool, slices_BinarySearch_int_int.f 20 CL (b.val : Int) = some ((((if b.val ≤ 0 then 0 else if b.val ≤ 3 then 1 else if b.val ≤ 7 then 2 else if b.val ≤ 12 then 3 else if b.val ≤ 20 then 4 else if b.val ≤ 32 then 5 else 6 : Nat)) : Int), f) := by decide +kernel
/-- the class of a number, found by its length -/
theorem search_val {v : Int} (h0 : 0 ≤ v) (h1 : v ≤ 18446744073709551615) : ∃ f : Bool, slices_BinarySearch_int_int.f 20 CL ((bl v.toNat : Nat) : Int) = some (((cls v : Nat) : Int), f) := by
  have h64 : bl v.toNat ≤ 64 := (bl_le 64 _).2 (by omega)
  obtain ⟨f, hf⟩ := search_fin ⟨bl v.toNat, by omega⟩
  refine ⟨f, ?_⟩
  rw [show (((⟨bl v.toNat, by omega⟩ : Fin 65).val : Nat) : Int) = ((bl v.toNat : Nat) : Int) from rfl] at hf
  rw [hf]
  have a0 := cls_le h0 h1 (i := 0) (by omega)
  have a1 := cls_le h0 h1 (i := 1) (by omega)
  have a2 := cls_le h0 h1 (i := 2) (by omega)
  have a3 := cls_le h0 h1 (i := 3) (by omega)
  have a4 := cls_le h0 h1 (i := 4) (by omega)
  have a5 := cls_le h0 h1 (i := 5) (by omega)
  have h6 := cls_6 v
  simp only [clsW] at a0 a1 a2 a3 a4 a5
  congr 2
  congr 1
  show (if bl v.toNat ≤ 0 then 0 else if bl v.toNat ≤ 3 then 1 else if bl v.toNat ≤ 7 then 2 else if bl v.toNat ≤ 12 then 3 else if bl v.toNat ≤ 20 then 4 else if bl v.toNat ≤ 32 then 5 else 6 : Nat) = cls v
  (repeat' split) <;> omega
theorem val_putB : ∀ (n : Nat) (x : Int), 0 ≤ x → x < 2 ^ n → valA 0 (putB n x) = x
  | 0, x, h0, h1 => by
    rw [Int.pow_zero] at h1
    rw [putB, valA]; omega
  | n + 1, x, h0, h1 => by
    rw [Int.pow_succ] at h1
    rw [putB, val_snoc, val_putB n (x / 2) (by omega) (by omega), b2i]
    by_cases h : x % 2 = 1
    · rw [decide_eq_true h, if_pos rfl]; omega
    · rw [decide_eq_false h, if_neg (by decide)]; omega
theorem cls_lt {v : Int} (h0 : 0 ≤ v) (h1 : v ≤ 18446744073709551615) : v < 2 ^ clsW (cls v) := by
  have h := (cls_le h0 h1 (i := cls v) (cls_6 v)).2 (Nat.le_refl _)
  rw [bl_le] at h
  have e : ((v.toNat : Nat) : Int) < ((2 ^ clsW (cls v) : Nat) : Int) := by exact_mod_cast h
  rw [Int.toNat_of_nonneg h0] at e
  simpa using e
def encL (i : Nat) : Nat := if i = 0 then 1 else if i = 1 then 5 else if i = 2 then 10 else if i = 3 then 16 else if i = 4 then 25 else if i = 5 then 38 else 70
theorem encC_length (v : Int) : (encC v).length = encL (cls v) := by
  have h6 := cls_6 v
  unfold encC hdr
  rw [List.length_append, List.length_append, List.length_replicate, putB_len]
  have hc : cls v = 0 ∨ cls v = 1 ∨ cls v = 2 ∨ cls v = 3 ∨ cls v = 4 ∨ cls v = 5 ∨ cls v = 6 := by omega
  rcases hc with h | h | h | h | h | h | h <;> rw [h] <;> rfl
theorem encL_lt {i j : Nat} (hj : j ≤ 6) (h : i < j) : encL i < encL j := by
  have hc : j = 1 ∨ j = 2 ∨ j = 3 ∨ j = 4 ∨ j = 5 ∨ j = 6 := by omega
  rcases hc with rfl | rfl | rfl | rfl | rfl | rfl
  · have : i = 0 := by omega
    subst this; decide
  · have : i = 0 ∨ i = 1 := by omega
    rcases this with rfl | rfl <;> decide
  · have : i = 0 ∨ i = 1 ∨ i = 2 := by omega
    rcases this with rfl | rfl | rfl <;> decide
  · have : i = 0 ∨ i = 1 ∨ i = 2 ∨ i = 3 := by omega
    rcases this with rfl | rfl | rfl | rfl <;> decide
  · have : i = 0 ∨ i = 1 ∨ i = 2 ∨ i = 3 ∨ i = 4 := by omega
    rcases this with rfl | rfl | rfl | rfl | rfl <;> decide
  · have : i = 0 ∨ i = 1 ∨ i = 2 ∨ i = 3 ∨ i = 4 ∨ i = 5 := by omega
    rcases this with rfl | rfl | rfl | rfl | rfl | rfl <;> decide
theorem cls_mono {a b : Int} (h : a ≤ b) : cls a ≤ cls b := by
  unfold cls; (repeat' split) <;> omega
theorem encC_mono {a b : Int} (h : a ≤ b) : (encC a).length ≤ (encC b).length := by
  rw [encC_length, encC_length]
  rcases Nat.lt_or_eq_of_le (cls_mono h) with h | h
  · exact Nat.le_of_lt (encL_lt (cls_6 b) h)
  · rw [h]; exact Nat.le_refl _
/-- a count's bits are its own, whatever follows -/
theorem encC_inj {a b : Int} (ha : 0 ≤ a ∧ a ≤ 18446744073709551615) (hb : 0 ≤ b ∧ b ≤ 18446744073709551615) (h : encC a = encC b) : a = b := by
  have hl := congrArg List.length h
  rw [encC_length, encC_length] at hl
  have hc : cls a = cls b := by
    rcases Nat.lt_trichotomy (cls a) (cls b) with g | g | g
    · have := encL_lt (cls_6 b) g; omega
    · exact g
    · have := encL_lt (cls_6 a) g; omega
  unfold encC at h
  rw [hc] at h
  have h2 := List.append_cancel_left h
  have e := congrArg (valA 0) h2
  rw [val_putB _ _ hb.1 (cls_lt hb.1 hb.2), ← hc, val_putB _ _ ha.1 (cls_lt ha.1 ha.2)] at e
  exact e
end Go.Proofs.Ytiihngpenpalaaa.Bt
