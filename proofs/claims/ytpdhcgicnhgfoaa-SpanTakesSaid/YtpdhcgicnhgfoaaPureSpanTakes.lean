/- What SpanTakes computes is true for every input: of any bytes only a layout that is right is taken, or none. It holds for all its parameters, no condition. -/
import Derived.Test.YtpdhcgicnhgfoaaQSpanTakesx8
import Derived.Test.YtpdhcgicnhgfoaaMth
namespace Go.Proofs.Ytpdhcgicnhgfoaa.Pure.LSpanTakes
open Go.RowKit Go.Proofs.Ytpdhcgicnhgfoaa.QSpanTakes Go.Proofs.YtpdhcgicnhgfoaaW.PrintWords Go.Proofs.YtpdhcgicnhgfoaaW.PrintLast Go.Proofs.YtpdhcgicnhgfoaaW.PrintMore Mth
theorem awake_any {k : Nat} (hk : 10 ≤ k) : pluviallaw06_awake.f k = some true := at_rounds pluviallaw06_awake.mono hk (show pluviallaw06_awake.f 10 = some true by decide +kernel)
/-! ### bits of a number, the highest first -/
def putB : Nat → Int → List Bool
  | 0, _ => []
  | n + 1, x => putB n (x / 2) ++ [decide (x % 2 = 1)]
def b2i (b : Bool) : Int := if b then 1 else 0
def valA (a : Int) : List Bool → Int
  | [] => a
  | b :: r => valA (2 * a + b2i b) r
theorem valA_append (x y : List Bool) : ∀ a, valA a (x ++ y) = valA (valA a x) y := by
  induction x with
  | nil => intro a; rfl
  | cons b x ih => intro a; exact ih _
theorem val_snoc (x : List Bool) (b : Bool) : valA 0 (x ++ [b]) = 2 * valA 0 x + b2i b := by rw [valA_append]; rfl
theorem b2i_bound (b : Bool) : 0 ≤ b2i b ∧ b2i b ≤ 1 := by cases b <;> simp [b2i]
theorem snoc_cases {α : Type} (l : List α) : l = [] ∨ ∃ i s, l = i ++ [s] := by
  by_cases h : l = []
  · exact .inl h
  · exact .inr ⟨l.dropLast, l.getLast h, (List.dropLast_concat_getLast h).symm⟩
theorem putB_val : ∀ (n : Nat) (bs : List Bool), bs.length = n → putB n (valA 0 bs) = bs := by
  intro n
  induction n with
  | zero => intro bs h; rw [List.eq_nil_of_length_eq_zero h]; rfl
  | succ n ih =>
    intro bs h
    rcases snoc_cases bs with rfl | ⟨i, b, rfl⟩
    · simp at h
    · rw [val_snoc]
      have hb := b2i_bound b
      rw [putB, show (2 * valA 0 i + b2i b) / 2 = valA 0 i from by omega, ih i (by simpa using h)]
      congr 2
      cases b
      · rw [decide_eq_false_iff_not, show b2i false = 0 from rfl]; omega
      · rw [decide_eq_true_iff, show b2i true = 1 from rfl]; omega
theorem val_bound : ∀ (n : Nat) (bs : List Bool), bs.length = n → 0 ≤ valA 0 bs ∧ valA 0 bs < 2 ^ n := by
  intro n
  induction n with
  | zero => intro bs h; rw [List.eq_nil_of_length_eq_zero h]; simp [valA]
  | succ n ih =>
    intro bs h
    rcases snoc_cases bs with rfl | ⟨i, b, rfl⟩
    · simp at h
    · have := ih i (by simpa using h)
      have hb := b2i_bound b
      rw [val_snoc, Int.pow_succ]; omega
theorem putB_len : ∀ (n : Nat) (x : Int), (putB n x).length = n := by
  intro n
  induction n with
  | zero => intro x; rfl
  | succ n ih => intro x; simp [putB, ih]
theorem putB_get : ∀ (n : Nat) (x : Int) (i : Nat), i < n → (putB n x)[i]? = some (decide (x / 2 ^ (n - 1 - i) % 2 = 1)) := by
  intro n
  induction n with
  | zero => intro x i h; omega
  | succ n ih =>
    intro x i h
    rw [putB]
    by_cases c : i < n
    · rw [List.getElem?_append_left (by rw [putB_len]; exact c), ih _ _ c]
      have := div_div x 1 (n - 1 - i)
      rw [Int.pow_one] at this
      rw [this, show 1 + (n - 1 - i) = n + 1 - 1 - i from by omega]
    · have hi : i = n := by omega
      subst hi
      rw [List.getElem?_append_right (by rw [putB_len]; omega), putB_len]
      simp
def bitsOf : List Int → List Bool
  | [] => []
  | b :: r => putB 8 b ++ bitsOf r
theorem bitsOf_len : ∀ l : List Int, (bitsOf l).length = 8 * l.length := by
  intro l
  induction l with
  | nil => rfl
  | cons b r ih => simp only [bitsOf, List.length_append, putB_len, ih, List.length_cons]; omega
theorem bitsOf_get : ∀ (l : List Int) (i : Nat), i < 8 * l.length → (bitsOf l)[i]? = some (decide (l.getD (i / 8) 0 / 2 ^ (7 - i % 8) % 2 = 1)) := by
  intro l
  induction l with
  | nil => intro i h; simp at h
  | cons b r ih =>
    intro i h
    rw [bitsOf]
    simp only [List.length_cons] at h
    by_cases c : i < 8
    · rw [List.getElem?_append_left (by rw [putB_len]; exact c), putB_get 8 b i c]
      rw [show i / 8 = 0 from by omega, show 8 - 1 - i = 7 - i % 8 from by omega]; rfl
    · rw [List.getElem?_append_right (by rw [putB_len]; omega), putB_len, ih (i - 8) (by omega)]
      rw [show i / 8 = (i - 8) / 8 + 1 from by omega, List.getD_cons_succ, show (i - 8) % 8 = i % 8 from by omega]
def Bytes (l : List Int) : Prop := ∀ x ∈ l, 0 ≤ x ∧ x ≤ 255
theorem Bytes.get {l : List Int} (h : Bytes l) (i : Nat) : 0 ≤ l.getD i 0 ∧ l.getD i 0 ≤ 255 := by
  rw [List.getD_eq_getElem?_getD]
  by_cases hi : i < l.length
  · rw [List.getElem?_eq_getElem hi]; exact h _ (List.getElem_mem hi)
  · rw [List.getElem?_eq_none (by omega)]; simp
theorem and_one_u8 (x : Int) : Go.bits .and .u8 x 1 = x % 2 := by
  show IntKind.u8.wrap ((BitVec.ofInt 8 x &&& BitVec.ofInt 8 1).toNat : Int) = _
  have e : (BitVec.ofInt 8 (1 : Int)).toNat = 2 ^ 1 - 1 := by decide
  rw [wu8, BitVec.toNat_and, e, Nat.and_two_pow_sub_one_eq_mod]
  have h := ofInt_toNat 8 x
  omega
theorem or_one_u64 {A : Int} (h0 : 0 ≤ A) (h1 : A * 2 + 1 ≤ 18446744073709551615) : Go.bits .or .u64 (A * 2) 1 = A * 2 + 1 := by
  obtain ⟨a, rfl⟩ := Int.eq_ofNat_of_zero_le h0
  have hN : ((a * 2 ^ 1 : Nat) : Int) = (a : Int) * 2 := by push_cast; omega
  rw [← hN]
  have hs' : a * 2 ^ 1 + 1 < 2 ^ 64 := by omega
  have := or_add_nat (a := a) (b := 1) (n := 1) (m := 64) (by omega) hs'
  show IntKind.u64.wrap ((BitVec.ofInt 64 ((a * 2 ^ 1 : Nat) : Int) ||| BitVec.ofInt 64 ((1 : Nat) : Int)).toNat : Int) = _
  rw [this, wu64]
  omega
/-! ### the reader -/
theorem bit_any {l : List Int} (hb : Bytes l) (hl : l.length ≤ 1000) (n : Nat) (bad : Int) (hn : n ≤ 8 * l.length) :
    ∃ b, ∃ n' : Nat, ∃ bad', bits_Reader_Bit.f l (n : Int) bad = some (b, (n' : Int), bad') ∧ n ≤ n' ∧ n' ≤ 8 * l.length ∧ (bad' = 0 → bad = 0 ∧ (bitsOf l).drop n = b :: (bitsOf l).drop n') := by
  unfold bits_Reader_Bit.f
  by_cases c : bad = 0
  · rw [if_pos c, w64 (by omega) (by omega)]
    by_cases c2 : n < 8 * l.length
    · have hlen := bitsOf_len l
      have hg := hb.get (n / 8)
      have e0 : Int.tdiv (n : Int) 8 = ((n / 8 : Nat) : Int) := by rw [Int.tdiv_eq_ediv_of_nonneg (by omega)]; omega
      have e1 : Int.tmod (n : Int) 8 = ((n % 8 : Nat) : Int) := by rw [Int.tmod_eq_emod_of_nonneg (by omega)]; omega
      have er : rd l ((n / 8 : Nat) : Int) = l.getD (n / 8) 0 := by unfold rd; rw [Int.toNat_natCast]
      have es : IntKind.u64.wrap (7 - IntKind.u64.wrap ((n % 8 : Nat) : Int)) = ((7 - n % 8 : Nat) : Int) := by rw [wu64, wu64]; omega
      rw [if_neg (by omega), e0, w64 (x := ((n / 8 : Nat) : Int)) (by omega) (by omega), if_pos (by omega), if_pos (by omega), e1, es, if_pos (by omega), er, w64 (x := (n : Int) + 1) (by omega) (by omega), and_one_u8]
      refine ⟨_, n + 1, _, rfl, by omega, by omega, fun _ => ⟨c, ?_⟩⟩
      rw [List.drop_eq_getElem_cons (by omega)]
      congr 1
      have h1 := bitsOf_get l n c2
      rw [List.getElem?_eq_getElem (by omega)] at h1
      rw [Option.some.inj h1]
      have : shr .u8 (l.getD (n / 8) 0) ((7 - n % 8 : Nat) : Int) = l.getD (n / 8) 0 / 2 ^ (7 - n % 8) := by
        unfold shr
        rw [Int.toNat_natCast, Nat.min_eq_left]
        show 7 - n % 8 ≤ 8
        omega
      rw [this, Bool.eq_iff_iff, decide_eq_true_iff, beq_iff_eq]
    · rw [if_pos (by omega)]
      refine ⟨false, n, 7, ?_, by omega, hn, fun h => absurd h (by decide)⟩
      unfold bits_Reader_fail.f
      rw [if_pos c]; rfl
  · rw [if_neg c]
    refine ⟨false, n, bad, ?_, by omega, hn, fun h => absurd h c⟩
    unfold bits_Reader_fail.f
    rw [if_neg c]; rfl
theorem get_loop {l : List Int} (hb : Bytes l) (hl : l.length ≤ 1000) (w : Nat) (hw : w ≤ 64) : ∀ (d k : Nat) (pre : List Bool) (n : Nat) (bad : Int), w - pre.length = d → pre.length ≤ w → n ≤ 8 * l.length → d < k →
    ∃ v, ∃ n' : Nat, ∃ bad', bits_Reader_Get.l0 k (valA 0 pre) (w : Int) (pre.length : Int) l (n : Int) bad = some (v, (n' : Int), bad') ∧ n ≤ n' ∧ n' ≤ 8 * l.length ∧ (bad' = 0 → bad = 0 ∧ ∃ bs : List Bool, bs.length = d ∧ (bitsOf l).drop n = bs ++ (bitsOf l).drop n' ∧ v = valA 0 (pre ++ bs)) ∧ (bad' ≠ 0 → v = 0) := by
  intro d
  induction d with
  | zero =>
    intro k pre n bad hd hp hn hk
    obtain ⟨k, rfl⟩ : ∃ m, k = m + 1 := ⟨k - 1, by omega⟩
    simp only [bits_Reader_Get.l0]
    rw [if_neg (by omega)]
    by_cases c : bad = 0
    · rw [if_pos c]
      exact ⟨_, n, bad, rfl, Nat.le_refl _, hn, fun _ => ⟨c, [], rfl, rfl, by rw [List.append_nil]⟩, fun h => absurd c h⟩
    · rw [if_neg c]
      exact ⟨_, n, bad, rfl, Nat.le_refl _, hn, fun h => absurd h c, fun _ => rfl⟩
  | succ d ih =>
    intro k pre n bad hd hp hn hk
    obtain ⟨k, rfl⟩ : ∃ m, k = m + 1 := ⟨k - 1, by omega⟩
    simp only [bits_Reader_Get.l0]
    obtain ⟨b, n1, bad1, e, h1, h2, h3⟩ := bit_any hb hl n bad hn
    have hv := val_bound pre.length pre rfl
    have hp64 : (2 : Int) ^ pre.length ≤ 2 ^ 63 := by exact_mod_cast Nat.pow_le_pow_right (n := 2) (by omega) (by omega : pre.length ≤ 63)
    have e2 : IntKind.u64.wrap (valA 0 pre * 2) = valA 0 pre * 2 := by rw [wu64]; omega
    rw [if_pos (by omega), e, Option.bind_some]
    simp only []
    rw [e2, or_one_u64 hv.1 (by omega), w64 (by omega) (by omega)]
    have step : ∃ v, ∃ n' : Nat, ∃ bad', bits_Reader_Get.l0 k (valA 0 (pre ++ [b])) (w : Int) ((pre ++ [b]).length : Int) l (n1 : Int) bad1 = some (v, (n' : Int), bad') ∧ n ≤ n' ∧ n' ≤ 8 * l.length ∧ (bad' = 0 → bad = 0 ∧ ∃ bs : List Bool, bs.length = d + 1 ∧ (bitsOf l).drop n = bs ++ (bitsOf l).drop n' ∧ v = valA 0 (pre ++ bs)) ∧ (bad' ≠ 0 → v = 0) := by
      obtain ⟨v, n', bad', f1, f2, f3, f4, f5⟩ := ih k (pre ++ [b]) n1 bad1 (by simp; omega) (by simp; omega) h2 (by omega)
      refine ⟨v, n', bad', f1, by omega, f3, ?_, f5⟩
      intro h
      obtain ⟨g1, bs, g2, g3, g4⟩ := f4 h
      obtain ⟨g5, g6⟩ := h3 g1
      exact ⟨g5, b :: bs, by simp [g2], by rw [g6, g3]; rfl, by rw [g4, List.append_assoc]; rfl⟩
    have el : (((pre ++ [b]).length : Nat) : Int) = (pre.length : Int) + 1 := by simp
    rw [val_snoc, el] at step
    cases b
    · rw [if_neg (by simp)]
      rw [show 2 * valA 0 pre + b2i false = valA 0 pre * 2 from by simp only [b2i]; simp; omega] at step
      exact step
    · rw [if_pos rfl]
      rw [show 2 * valA 0 pre + b2i true = valA 0 pre * 2 + 1 from by simp only [b2i]; simp; omega] at step
      exact step
theorem get_val {l : List Int} (hb : Bytes l) (hl : l.length ≤ 1000) (w : Nat) (hw : w ≤ 64) {k : Nat} (hk : 100 ≤ k) (n : Nat) (bad : Int) (hn : n ≤ 8 * l.length) :
    ∃ v, ∃ n' : Nat, ∃ bad', bits_Reader_Get.f k l (n : Int) bad (w : Int) = some (v, (n' : Int), bad') ∧ n ≤ n' ∧ n' ≤ 8 * l.length ∧ (bad' = 0 → bad = 0 ∧ ∃ bs : List Bool, bs.length = w ∧ (bitsOf l).drop n = bs ++ (bitsOf l).drop n' ∧ v = valA 0 bs) ∧ (bad' ≠ 0 → v = 0) := by
  unfold bits_Reader_Get.f
  rw [show mx 0 (mn (w : Int) 64) = (w : Int) from by unfold mx mn; split <;> split <;> omega]
  exact get_loop hb hl w hw w k [] n bad rfl (Nat.zero_le _) hn (by omega)
/-! ### how long a number is -/
def bl (n : Nat) : Nat := if h : n = 0 then 0 else bl (n / 2) + 1
termination_by n
decreasing_by omega
theorem bl_le : ∀ (w n : Nat), bl n ≤ w ↔ n < 2 ^ w := by
  intro w
  induction w with
  | zero =>
    intro n
    rw [bl]
    split
    · rename_i h; subst h; simp
    · simp; omega
  | succ w ih =>
    intro n
    rw [bl]
    split
    · rename_i h; subst h; have := Nat.two_pow_pos (w + 1); omega
    · rw [Nat.add_le_add_iff_right, ih, Nat.pow_succ]; omega
theorem long_loop : ∀ (n k : Nat) (c : Int), 0 ≤ c → c + bl n ≤ 1000 → bl n < k → bits_long.l0 k (n : Int) c = some (c + ((bl n : Nat) : Int)) := by
  intro n
  induction n using Nat.strongRecOn with
  | ind n ih =>
    intro k c h0 h1 hk
    obtain ⟨k, rfl⟩ : ∃ m, k = m + 1 := ⟨k - 1, by omega⟩
    simp only [bits_long.l0]
    by_cases h : n = 0
    · subst h
      rw [if_neg (by omega), bl]; simp
    · rw [bl, dif_neg h] at h1 hk ⊢
      rw [if_pos (by omega), w64 (by omega) (by omega), show (n : Int) / 2 = ((n / 2 : Nat) : Int) from by omega, ih (n / 2) (by omega) k (c + 1) (by omega) (by omega) (by omega)]
      congr 1; omega
theorem long_val {v : Int} (h0 : 0 ≤ v) (h1 : v ≤ 18446744073709551615) {k : Nat} (hk : 100 ≤ k) : bits_long.f k v = some ((bl v.toNat : Nat) : Int) := by
  obtain ⟨n, rfl⟩ := Int.eq_ofNat_of_zero_le h0
  have := (bl_le 64 n).2 (by omega)
  unfold bits_long.f
  rw [long_loop n k 0 (by omega) (by omega) (by omega)]
  simp
/-! ### counts -/
def clsW : Nat → Nat
  | 0 => 0
  | 1 => 3
  | 2 => 7
  | 3 => 12
  | 4 => 20
  | 5 => 32
  | _ => 64
def cls (v : Int) : Nat := if v < 1 then 0 else if v < 8 then 1 else if v < 128 then 2 else if v < 4096 then 3 else if v < 1048576 then 4 else if v < 4294967296 then 5 else 6
def hdr (i : Nat) : List Bool := List.replicate i true ++ (if i < 6 then [false] else [])
def encC (v : Int) : List Bool := hdr (cls v) ++ putB (clsW (cls v)) v
theorem cls_of {v : Int} {i : Nat} (hi : i ≤ 6) (h0 : 0 ≤ v) (h1 : v < 2 ^ clsW i) (h2 : i = 0 ∨ ¬ bl v.toNat ≤ clsW (i - 1)) : cls v = i := by
  rw [bl_le] at h2
  have hc : i = 0 ∨ i = 1 ∨ i = 2 ∨ i = 3 ∨ i = 4 ∨ i = 5 ∨ i = 6 := by omega
  rcases hc with rfl | rfl | rfl | rfl | rfl | rfl | rfl <;> simp only [clsW] at h1 h2 <;> unfold cls <;> simp at h1 h2 <;> (repeat' split) <;> omega
def CL : List Int := [0, 3, 7, 12, 20, 32, 64]
theorem rd_CL {i : Nat} (hi : i ≤ 6) : rd CL (i : Int) = (clsW i : Int) := by
  have hc : i = 0 ∨ i = 1 ∨ i = 2 ∨ i = 3 ∨ i = 4 ∨ i = 5 ∨ i = 6 := by omega
  rcases hc with rfl | rfl | rfl | rfl | rfl | rfl | rfl <;> rfl
theorem clsW_le (i : Nat) : clsW i ≤ 64 := by unfold clsW; split <;> omega
theorem count_end {l : List Int} (hb : Bytes l) (hl : l.length ≤ 1000) {k : Nat} (hk : 200 ≤ k) (i : Nat) (hi : i ≤ 6) (n0 n : Nat) (bad bad0 : Int) (hn : n ≤ 8 * l.length) (h0 : n0 ≤ n) (hh : bad = 0 → bad0 = 0 ∧ (bitsOf l).drop n0 = hdr i ++ (bitsOf l).drop n) :
    ∃ v, ∃ n' : Nat, ∃ bad', bits_Reader_Count.j1 k CL (i : Int) l (n : Int) bad = some (v, (n' : Int), bad') ∧ n0 ≤ n' ∧ n' ≤ 8 * l.length ∧ 0 ≤ v ∧ v ≤ 18446744073709551615 ∧ (bad' = 0 → bad0 = 0 ∧ (bitsOf l).drop n0 = encC v ++ (bitsOf l).drop n') ∧ (bad' ≠ 0 → v = 0) := by
  obtain ⟨k, rfl⟩ : ∃ m, k = m + 1 := ⟨k - 1, by omega⟩
  obtain ⟨v, n', bad', e, g1, g2, g3, g4⟩ := get_val hb hl (clsW i) (clsW_le i) (k := k) (by omega) n bad hn
  have hw : (2 : Int) ^ clsW i ≤ 2 ^ 64 := by exact_mod_cast Nat.pow_le_pow_right (n := 2) (by omega) (clsW_le i)
  have hv : 0 ≤ v ∧ v < 2 ^ clsW i := by
    by_cases c : bad' = 0
    · obtain ⟨_, bs, h1, _, h3⟩ := g3 c
      rw [h3]; exact val_bound _ _ h1
    · rw [g4 c]; exact ⟨by omega, pow_pos' _⟩
  simp only [bits_Reader_Count.j1]
  rw [if_pos (by omega), if_pos (by show (i : Int) < 7; omega), rd_CL hi, e, Option.bind_some]
  simp only []
  have fin : (i = 0 ∨ ¬ bl v.toNat ≤ clsW (i - 1)) → ∀ k, bits_Reader_Count.j2 (k + 1) v false l (n' : Int) bad' = some (v, (n' : Int), bad') ∧ (bad' = 0 → bad0 = 0 ∧ (bitsOf l).drop n0 = encC v ++ (bitsOf l).drop n') := by
    intro hc k
    constructor
    · simp only [bits_Reader_Count.j2, Bool.false_eq_true, if_false]
      by_cases c : bad' = 0
      · rw [if_pos c]
      · rw [if_neg c, g4 c]
    · intro c
      obtain ⟨g5, bs, g6, g7, g8⟩ := g3 c
      obtain ⟨g9, g10⟩ := hh g5
      refine ⟨g9, ?_⟩
      rw [g10, g7, ← List.append_assoc]
      congr 1
      unfold encC
      rw [cls_of hi hv.1 hv.2 hc, g8, putB_val _ _ g6]
  obtain ⟨k, rfl⟩ : ∃ m, k = m + 1 := ⟨k - 1, by omega⟩
  by_cases ci : i = 0
  · rw [if_neg (by omega)]
    obtain ⟨f1, f2⟩ := fin (.inl ci) k
    exact ⟨v, n', bad', f1, by omega, g2, hv.1, by omega, f2, g4⟩
  · rw [if_pos (by omega), long_val hv.1 (by omega) (by omega), Option.bind_some, w64 (by omega) (by omega), if_pos (by omega), if_pos (by show (i : Int) - 1 < 7; omega), show (i : Int) - 1 = ((i - 1 : Nat) : Int) from by omega, rd_CL (by omega)]
    by_cases c : bl v.toNat ≤ clsW (i - 1)
    · rw [decide_eq_true (by omega)]
      simp only [bits_Reader_Count.j2, if_true]
      unfold bits_Reader_fail.f
      by_cases c2 : bad' = 0
      · rw [if_pos c2, Option.bind_some]
        exact ⟨0, n', 6, rfl, by omega, g2, by omega, by omega, fun h => absurd h (by decide), fun _ => rfl⟩
      · rw [if_neg c2, Option.bind_some]
        simp only []
        rw [if_neg c2]
        exact ⟨0, n', bad', rfl, by omega, g2, by omega, by omega, fun h => absurd h c2, fun _ => rfl⟩
    · rw [decide_eq_false (by omega)]
      obtain ⟨f1, f2⟩ := fin (.inr c) k
      exact ⟨v, n', bad', f1, by omega, g2, hv.1, by omega, f2, g4⟩
theorem count_loop {l : List Int} (hb : Bytes l) (hl : l.length ≤ 1000) (n0 : Nat) (bad0 : Int) : ∀ (d k i n : Nat) (bad : Int), 6 - i = d → i ≤ 6 → n ≤ 8 * l.length → n0 ≤ n → (bad = 0 → bad0 = 0 ∧ (bitsOf l).drop n0 = List.replicate i true ++ (bitsOf l).drop n) → 200 + d < k →
    ∃ v, ∃ n' : Nat, ∃ bad', bits_Reader_Count.l0 k CL (i : Int) l (n : Int) bad = some (v, (n' : Int), bad') ∧ n0 ≤ n' ∧ n' ≤ 8 * l.length ∧ 0 ≤ v ∧ v ≤ 18446744073709551615 ∧ (bad' = 0 → bad0 = 0 ∧ (bitsOf l).drop n0 = encC v ++ (bitsOf l).drop n') ∧ (bad' ≠ 0 → v = 0) := by
  intro d
  induction d with
  | zero =>
    intro k i n bad hd hi hn h0 hh hk
    obtain ⟨k, rfl⟩ : ∃ m, k = m + 1 := ⟨k - 1, by omega⟩
    simp only [bits_Reader_Count.l0]
    rw [if_neg (by rw [show wrap64 ((CL.length : Int) - 1) = 6 from by decide +kernel]; omega)]
    refine count_end hb hl (by omega) i hi n0 n bad bad0 hn h0 (fun h => ⟨(hh h).1, ?_⟩)
    rw [(hh h).2, hdr, if_neg (by omega), List.append_nil]
  | succ d ih =>
    intro k i n bad hd hi hn h0 hh hk
    obtain ⟨k, rfl⟩ : ∃ m, k = m + 1 := ⟨k - 1, by omega⟩
    obtain ⟨b, n1, bad1, e, h1, h2, h3⟩ := bit_any hb hl n bad hn
    simp only [bits_Reader_Count.l0]
    rw [if_pos (by rw [show wrap64 ((CL.length : Int) - 1) = 6 from by decide +kernel]; omega), e, Option.bind_some]
    simp only []
    cases b
    · rw [if_neg (by simp)]
      refine count_end hb hl (by omega) i hi n0 n1 bad1 bad0 h2 (by omega) (fun h => ?_)
      obtain ⟨g1, g2⟩ := h3 h
      obtain ⟨g3, g4⟩ := hh g1
      refine ⟨g3, ?_⟩
      rw [g4, g2, hdr, if_pos (by omega), List.append_assoc]; rfl
    · rw [if_pos rfl, w64 (by omega) (by omega)]
      refine ih k (i + 1) n1 bad1 (by omega) (by omega) h2 (by omega) (fun h => ?_) (by omega)
      obtain ⟨g1, g2⟩ := h3 h
      obtain ⟨g3, g4⟩ := hh g1
      refine ⟨g3, ?_⟩
      rw [g4, g2, List.replicate_succ', List.append_assoc]; rfl
theorem count_val {l : List Int} (hb : Bytes l) (hl : l.length ≤ 1000) {k : Nat} (hk : 300 ≤ k) (n : Nat) (bad : Int) (hn : n ≤ 8 * l.length) :
    ∃ v, ∃ n' : Nat, ∃ bad', bits_Reader_Count.f k l (n : Int) bad = some (v, (n' : Int), bad') ∧ n ≤ n' ∧ n' ≤ 8 * l.length ∧ 0 ≤ v ∧ v ≤ 18446744073709551615 ∧ (bad' = 0 → bad = 0 ∧ (bitsOf l).drop n = encC v ++ (bitsOf l).drop n') ∧ (bad' ≠ 0 → v = 0) := by
  unfold bits_Reader_Count.f bits_classes.f
  rw [Option.bind_some]
  exact count_loop hb hl n bad 6 k 0 n bad rfl (by omega) hn (Nat.le_refl _) (fun h => ⟨h, rfl⟩) (by omega)
theorem small_val {l : List Int} (hb : Bytes l) (hl : l.length ≤ 1000) {k : Nat} (hk : 300 ≤ k) (n : Nat) (bad : Int) (hn : n ≤ 8 * l.length) (most : Int) (hm : 0 ≤ most ∧ most ≤ 1000000) :
    ∃ v, ∃ n' : Nat, ∃ bad', bits_Reader_Small.f k l (n : Int) bad most = some (v, (n' : Int), bad') ∧ n ≤ n' ∧ n' ≤ 8 * l.length ∧ 0 ≤ v ∧ v ≤ most ∧ (bad' = 0 → bad = 0 ∧ (bitsOf l).drop n = encC v ++ (bitsOf l).drop n') ∧ (bad' ≠ 0 → v = 0) := by
  obtain ⟨v, n', bad', e, g1, g2, g3, g4, g5, g6⟩ := count_val hb hl hk n bad hn
  unfold bits_Reader_Small.f
  rw [e, Option.bind_some, if_neg (by omega)]
  simp only []
  by_cases c : v > most
  · rw [wu64, if_pos (by omega)]
    unfold bits_Reader_fail.f
    by_cases c2 : bad' = 0
    · rw [if_pos c2]
      exact ⟨0, n', 9, rfl, g1, g2, by omega, by omega, fun h => absurd h (by decide), fun _ => rfl⟩
    · rw [if_neg c2]
      exact ⟨0, n', bad', rfl, g1, g2, by omega, by omega, fun h => absurd h c2, fun _ => rfl⟩
  · rw [wu64, if_neg (by omega), w64 (by omega) (by omega)]
    exact ⟨v, n', bad', rfl, g1, g2, g3, by omega, g5, g6⟩
def zagV (c : Int) : Int := if c % 2 = 0 then c / 2 else -1 - c / 2
def zigV (z : Int) : Int := if 0 ≤ z then 2 * z else -2 * z - 1
theorem zig_zag {c : Int} (h : 0 ≤ c) : zigV (zagV c) = c := by unfold zigV zagV; split <;> split <;> omega
theorem zag_val {c : Int} (h0 : 0 ≤ c) (h1 : c ≤ 18446744073709551615) : num_Zag.f c = some (zagV c) := by
  unfold num_Zag.f zagV
  have := mask_low_u64 c (n := 1) (by omega)
  rw [show ((2 : Int) ^ 1 - 1) = 1 from rfl, Int.pow_one] at this
  rw [this, w64 (x := c / 2) (by omega) (by omega), w64 (x := c % 2) (by omega) (by omega), w64 (x := -(c % 2)) (by omega) (by omega)]
  by_cases c : c % 2 = 0
  · rw [if_pos c, c]; exact congrArg some (xor_zero_i64 (by omega) (by omega))
  · rw [if_neg c, show ∀ x : Int, ¬ x % 2 = 0 → -(x % 2) = -1 from fun x h => by omega]
    · exact congrArg some (xor_ones_i64 (by omega) (by omega))
    · exact c
theorem int_val {l : List Int} (hb : Bytes l) (hl : l.length ≤ 1000) {k : Nat} (hk : 300 ≤ k) (n : Nat) (bad : Int) (hn : n ≤ 8 * l.length) :
    ∃ v, ∃ n' : Nat, ∃ bad', bits_Reader_Int.f k l (n : Int) bad = some (v, (n' : Int), bad') ∧ n ≤ n' ∧ n' ≤ 8 * l.length ∧ (bad' = 0 → bad = 0 ∧ (bitsOf l).drop n = encC (zigV v) ++ (bitsOf l).drop n') := by
  obtain ⟨v, n', bad', e, g1, g2, g3, g4, g5, _⟩ := count_val hb hl hk n bad hn
  unfold bits_Reader_Int.f
  rw [e, Option.bind_some]
  simp only []
  rw [zag_val g3 g4, Option.bind_some]
  refine ⟨_, n', bad', rfl, g1, g2, ?_⟩
  rw [zig_zag g3]
  exact g5
/-! ### the document's texts -/
def ch (b : Bool) : UInt8 := if b then 49 else 48
def txt (bs : List Bool) : ByteArray := ⟨(bs.map ch).toArray⟩
theorem txt_append (a b : List Bool) : txt a ++ txt b = txt (a ++ b) := by
  apply ByteArray.ext
  simp [txt]
theorem txt_size (a : List Bool) : (txt a).size = a.length := by simp [txt, ByteArray.size]
theorem put_loop (w : Nat) (hw : w ≤ 64) : ∀ (d k i : Nat) (x : Int) (bs : List Bool), w - i = d → i ≤ w → bs.length = i → 0 ≤ x → x ≤ 18446744073709551615 → 2 * d + 2 ≤ k →
    pluvialref02_Put.l0 k x (w : Int) (txt bs) (i : Int) = some (txt (putB d x ++ bs)) := by
  intro d
  induction d with
  | zero =>
    intro k i x bs hd hi hb h0 h1 hk
    obtain ⟨k, rfl⟩ : ∃ m, k = m + 2 := ⟨k - 2, by omega⟩
    simp only [pluvialref02_Put.l0]
    rw [if_neg (by omega)]
    simp only [pluvialref02_Put.j1, Bool.false_eq_true, if_false]
    rfl
  | succ d ih =>
    intro k i x bs hd hi hb h0 h1 hk
    obtain ⟨k, rfl⟩ : ∃ m, k = m + 2 := ⟨k - 2, by omega⟩
    simp only [pluvialref02_Put.l0]
    rw [if_pos (by omega), decide_eq_true (by omega)]
    simp only [pluvialref02_Put.j1, if_true]
    have e1 : Int.tmod x 2 = x % 2 := Int.tmod_eq_emod_of_nonneg h0
    have e2 : Int.tdiv x 2 = x / 2 := Int.tdiv_eq_ediv_of_nonneg h0
    rw [e1, e2, wu64, Int.emod_eq_of_lt (a := x / 2) (by omega) (by omega), w64 (by omega) (by omega), txt_size]
    rw [show (i : Int) + 1 = ((i + 1 : Nat) : Int) from by omega]
    have g : ∀ b, pluvialref02_Put.l0 k (x / 2) (w : Int) (txt (b :: bs)) ((i + 1 : Nat) : Int) = some (txt (putB d (x / 2) ++ (b :: bs))) := fun b => ih k (i + 1) (x / 2) (b :: bs) (by omega) (by omega) (by simp [hb]) (by omega) (by omega) (by omega)
    by_cases c : x % 2 = 1
    · rw [if_pos c, if_pos (by omega), show ((⟨#[49]⟩ : ByteArray) ++ txt bs) = txt (true :: bs) from txt_append [true] bs, g, putB, List.append_assoc, decide_eq_true c]; rfl
    · rw [if_neg c, if_pos (by omega), show ((⟨#[48]⟩ : ByteArray) ++ txt bs) = txt (false :: bs) from txt_append [false] bs, g, putB, List.append_assoc, decide_eq_false c]; rfl
theorem put_val {x : Int} (h0 : 0 ≤ x) (h1 : x ≤ 18446744073709551615) {w : Nat} (hw : w ≤ 64) {k : Nat} (hk : 200 ≤ k) : pluvialref02_Put.f k x (w : Int) = some (txt (putB w x)) := by
  unfold pluvialref02_Put.f
  have := put_loop w hw w k 0 x [] (by omega) (by omega) rfl h0 h1 (by omega)
  rw [List.append_nil] at this
  exact this
theorem cls_le {v : Int} (h0 : 0 ≤ v) (h1 : v ≤ 18446744073709551615) {i : Nat} (hi : i ≤ 6) : bl v.toNat ≤ clsW i ↔ cls v ≤ i := by
  rw [bl_le]
  have hc : i = 0 ∨ i = 1 ∨ i = 2 ∨ i = 3 ∨ i = 4 ∨ i = 5 ∨ i = 6 := by omega
  rcases hc with rfl | rfl | rfl | rfl | rfl | rfl | rfl <;> simp only [clsW] <;> unfold cls <;> (repeat' split) <;> omega
theorem cls_6 (v : Int) : cls v ≤ 6 := by unfold cls; (repeat' split) <;> omega
theorem class_l1 {v : Int} (h0 : 0 ≤ v) (h1 : v ≤ 18446744073709551615) : ∀ (d k i : Nat), cls v - i = d → i ≤ cls v → d < k →
    pluvialref02_class.l1 k ((bl v.toNat : Nat) : Int) CL (i : Int) = some (((cls v : Nat) : Int), ((clsW (cls v) : Nat) : Int)) := by
  have h6 := cls_6 v
  intro d
  induction d with
  | zero =>
    intro k i hd hi hk
    obtain ⟨k, rfl⟩ : ∃ m, k = m + 1 := ⟨k - 1, by omega⟩
    have e : i = cls v := by omega
    have := (cls_le h0 h1 (i := i) (by omega)).2 (by omega)
    simp only [pluvialref02_class.l1]
    rw [if_pos (by omega), if_pos (by show (i : Int) < 7; omega), rd_CL (by omega), if_neg (by omega), e]
  | succ d ih =>
    intro k i hd hi hk
    obtain ⟨k, rfl⟩ : ∃ m, k = m + 1 := ⟨k - 1, by omega⟩
    have : ¬ bl v.toNat ≤ clsW i := fun h => by have := (cls_le h0 h1 (i := i) (by omega)).1 h; omega
    simp only [pluvialref02_class.l1]
    rw [if_pos (by omega), if_pos (by show (i : Int) < 7; omega), rd_CL (by omega), if_pos (by omega), w64 (by omega) (by omega)]
    exact ih k (i + 1) (by omega) (by omega) (by omega)
theorem class_l0 : ∀ (n k : Nat) (c : Int), (n : Int) ≤ 18446744073709551615 → 0 ≤ c → c + bl n ≤ 1000 → bl n + 100 < k → ∃ k', 50 ≤ k' ∧ pluvialref02_class.l0 k (n : Int) c = pluvialref02_class.l1 k' (c + ((bl n : Nat) : Int)) CL 0 := by
  intro n
  induction n using Nat.strongRecOn with
  | ind n ih =>
    intro k c hn h0 h1 hk
    obtain ⟨k, rfl⟩ : ∃ m, k = m + 1 := ⟨k - 1, by omega⟩
    simp only [pluvialref02_class.l0]
    by_cases h : n = 0
    · subst h
      refine ⟨k, by omega, ?_⟩
      rw [if_neg (by omega), bl]; simp [CL]
    · rw [bl, dif_neg h] at h1 hk ⊢
      rw [Int.tdiv_eq_ediv_of_nonneg (by omega), wu64, if_pos (by omega), w64 (by omega) (by omega), show (n : Int) / 2 % 18446744073709551616 = ((n / 2 : Nat) : Int) from by omega]
      obtain ⟨k', g1, g2⟩ := ih (n / 2) (by omega) k (c + 1) (by omega) (by omega) (by omega) (by omega)
      refine ⟨k', g1, ?_⟩
      rw [g2]
      congr 1; omega
theorem class_val {v : Int} (h0 : 0 ≤ v) (h1 : v ≤ 18446744073709551615) {k : Nat} (hk : 200 ≤ k) : pluvialref02_class.f k v = some (((cls v : Nat) : Int), ((clsW (cls v) : Nat) : Int)) := by
  have h6 := cls_6 v
  obtain ⟨n, rfl⟩ := Int.eq_ofNat_of_zero_le h0
  have := (bl_le 64 n).2 (by omega)
  unfold pluvialref02_class.f
  obtain ⟨k', g1, g2⟩ := class_l0 n k 0 h1 (by omega) (by omega) (by omega)
  rw [g2, show (0 : Int) + ((bl n : Nat) : Int) = ((bl (n : Int).toNat : Nat) : Int) from by simp]
  exact class_l1 h0 h1 (cls (n : Int)) k' 0 rfl (by omega) (by omega)
theorem rcount_loop {v : Int} (h0 : 0 ≤ v) (h1 : v ≤ 18446744073709551615) : ∀ (d k i : Nat), cls v - i = d → i ≤ cls v → 300 + d < k →
    pluvialref02_Count.l0 k v ((cls v : Nat) : Int) ((clsW (cls v) : Nat) : Int) (txt (List.replicate i true)) (i : Int) = some (txt (encC v)) := by
  have h6 := cls_6 v
  have hw := clsW_le (cls v)
  intro d
  induction d with
  | zero =>
    intro k i hd hi hk
    obtain ⟨k, rfl⟩ : ∃ m, k = m + 1 := ⟨k - 1, by omega⟩
    have e : i = cls v := by omega
    simp only [pluvialref02_Count.l0]
    rw [if_neg (by omega), put_val h0 h1 hw (by omega), Option.bind_some, Option.bind_some, show (⟨#[48]⟩ : ByteArray) = txt [false] from rfl, e]
    simp only [txt_append, txt_size, List.length_append, List.length_replicate, putB_len, List.length_cons, List.length_nil]
    unfold encC hdr
    by_cases c : cls v < 6
    · rw [if_pos (by omega), if_pos (by omega), if_pos (by omega), if_pos c]
    · rw [if_neg (by omega), if_pos (by omega), if_neg c, List.append_nil]
  | succ d ih =>
    intro k i hd hi hk
    obtain ⟨k, rfl⟩ : ∃ m, k = m + 1 := ⟨k - 1, by omega⟩
    simp only [pluvialref02_Count.l0]
    rw [if_pos (by omega), txt_size, if_pos (by simp; omega), show (⟨#[49]⟩ : ByteArray) = txt [true] from rfl, txt_append, w64 (by omega) (by omega), ← List.replicate_succ']
    exact ih k (i + 1) (by omega) (by omega) (by omega)
theorem rcount_val {v : Int} (h0 : 0 ≤ v) (h1 : v ≤ 18446744073709551615) {k : Nat} (hk : 400 ≤ k) : pluvialref02_Count.f k v = some (txt (encC v)) := by
  have h6 := cls_6 v
  unfold pluvialref02_Count.f
  rw [class_val h0 h1 (by omega), Option.bind_some]
  exact rcount_loop h0 h1 (cls v) k 0 rfl (by omega) (by omega)
theorem encC_len (v : Int) : (encC v).length ≤ 100 := by
  have h6 := cls_6 v
  have hw := clsW_le (cls v)
  unfold encC hdr
  rw [List.length_append, List.length_append, putB_len, List.length_replicate]
  split <;> simp <;> omega
theorem rint_val {z : Int} (h0 : -262144 ≤ z) (h1 : z ≤ 262144) {k : Nat} (hk : 400 ≤ k) : pluvialref02_Int.f k z = some (txt (encC (zigV z))) := by
  unfold pluvialref02_Int.f
  have e : pluvialref01_Zig.f z = some (zigV z) := by
    unfold pluvialref01_Zig.f zigV
    by_cases c : 0 ≤ z
    · rw [if_pos c, if_pos c, wu64, wu64]; congr 1; omega
    · rw [if_neg (by omega), if_neg c, w64 (x := z + 1) (by omega) (by omega), w64 (by omega) (by omega), wu64, wu64, wu64]; congr 1; omega
  rw [e, Option.bind_some, rcount_val (by unfold zigV; split <;> omega) (by unfold zigV; split <;> omega) hk]
  rfl
/-- the runs of a layout, as bits -/
def lay : Bool → List S38 → List Bool
  | _, [] => []
  | first, s :: r => (if first then [] else encC (s.f0 - 1)) ++ encC (s.f1 - 1) ++ lay false r
theorem lay_snoc (a : List S38) (s : S38) : ∀ b, lay b (a ++ [s]) = lay b a ++ ((if b && a.isEmpty then [] else encC (s.f0 - 1)) ++ encC (s.f1 - 1)) := by
  induction a with
  | nil => intro b; cases b <;> simp [lay]
  | cons t a ih =>
    intro b
    simp only [List.cons_append, lay, ih, List.append_assoc]
    simp
def SB (S : List S38) : Prop := ∀ s ∈ S, 0 ≤ s.f0 ∧ s.f0 ≤ 1000000 ∧ 1 ≤ s.f1 ∧ s.f1 ≤ 1000000
theorem lay_loop (S : List S38) (hS : SB S) (hl : S.length ≤ 1000) (h1 : ∀ i (h : i < S.length), 0 < i → 1 ≤ S[i].f0) : ∀ (d k i : Nat) (pre : List Bool), S.length - i = d → i ≤ S.length → pre.length ≤ 300 + 300 * i → 500 + d < k →
    pluvialref06_Lay.l0 k S (txt pre) (i : Int) = some (txt (pre ++ lay (i == 0) (S.drop i))) := by
  intro d
  induction d with
  | zero =>
    intro k i pre hd hi hp hk
    obtain ⟨k, rfl⟩ : ∃ m, k = m + 1 := ⟨k - 1, by omega⟩
    simp only [pluvialref06_Lay.l0]
    rw [if_neg (by omega), List.drop_eq_nil_of_le (by omega), lay, List.append_nil]
  | succ d ih =>
    intro k i pre hd hi hp hk
    obtain ⟨k, rfl⟩ : ∃ m, k = m + 1 := ⟨k - 1, by omega⟩
    have c : i < S.length := by omega
    have er : rd_T38 S (i : Int) = S[i] := by unfold rd_T38; simp [c]
    have hb := hS _ (List.getElem_mem c)
    have n0 := encC_len (S[i].f0 - 1)
    have n1 := encC_len (S[i].f1 - 1)
    simp only [pluvialref06_Lay.l0]
    rw [er, if_pos (by omega), w64 (x := S[i].f1 - 1) (by omega) (by omega), w64 (x := S[i].f0 - 1) (by omega) (by omega), wu64, wu64, Int.emod_eq_of_lt (a := S[i].f1 - 1) (by omega) (by omega), rcount_val (v := S[i].f1 - 1) (by omega) (by omega) (by omega), w64 (x := (i : Int) + 1) (by omega) (by omega), List.drop_eq_getElem_cons c, lay, show (i : Int) + 1 = ((i + 1 : Nat) : Int) from by omega]
    by_cases c0 : i = 0
    · subst c0
      rw [if_neg (by omega), if_pos (by omega), Option.bind_some, txt_append, txt_size, txt_size, if_pos (by omega)]
      refine (ih k 1 (pre ++ encC (S[0].f1 - 1)) (by omega) (by omega) (by rw [List.length_append]; omega) (by omega)).trans ?_
      simp [List.append_assoc]
    · have := h1 i c (by omega)
      rw [if_pos (by omega), if_pos (by omega), Int.emod_eq_of_lt (a := S[i].f0 - 1) (by omega) (by omega), rcount_val (v := S[i].f0 - 1) (by omega) (by omega) (by omega), Option.bind_some, Option.bind_some, txt_append, txt_append, txt_size, txt_size, txt_size, txt_size, if_pos (by omega), if_pos (by rw [List.length_append]; omega)]
      refine (ih k (i + 1) (pre ++ encC (S[i].f0 - 1) ++ encC (S[i].f1 - 1)) (by omega) (by omega) (by rw [List.length_append, List.length_append]; omega) (by omega)).trans ?_
      rw [show (i == 0) = false from by simp [c0], show (i + 1 == 0) = false from by simp, if_neg (by simp)]
      simp only [List.append_assoc]
theorem lay_val {F : Int} (hF : -262144 ≤ F ∧ F ≤ 262144) (S : List S38) (hne : S ≠ []) (hS : SB S) (hl : S.length ≤ 1000) (h1 : ∀ i (h : i < S.length), 0 < i → 1 ≤ S[i].f0) {k : Nat} (hk : 2000 ≤ k) :
    pluvialref06_Lay.f k F S = some (txt (encC (S.length : Int) ++ encC (zigV F) ++ lay true S)) := by
  have hpos : S.length ≠ 0 := fun h => hne (List.eq_nil_of_length_eq_zero h)
  have n0 := encC_len (S.length : Int)
  have n1 := encC_len (zigV F)
  unfold pluvialref06_Lay.f
  rw [wu64, Int.emod_eq_of_lt (a := (S.length : Int)) (by omega) (by omega), rcount_val (by omega) (by omega) (by omega), Option.bind_some, if_neg (by omega), rint_val hF.1 hF.2 (by omega), Option.bind_some, txt_append, txt_size, txt_size, if_pos (by omega)]
  exact lay_loop S hS hl h1 S.length k 0 _ (by omega) (by omega) (by rw [List.length_append]; omega) (by omega)
theorem text_loop {l : List Int} (hb : Bytes l) (hl : l.length ≤ 1000) : ∀ (d k i : Nat) (pre : List Bool), l.length - i = d → i ≤ l.length → pre.length = 8 * i → 300 + d < k →
    pluvialref02_Text.l0 k l (txt pre) (i : Int) = some (txt (pre ++ bitsOf (l.drop i))) := by
  intro d
  induction d with
  | zero =>
    intro k i pre hd hi hp hk
    obtain ⟨k, rfl⟩ : ∃ m, k = m + 1 := ⟨k - 1, by omega⟩
    simp only [pluvialref02_Text.l0]
    rw [if_neg (by omega), List.drop_eq_nil_of_le (by omega), bitsOf, List.append_nil]
  | succ d ih =>
    intro k i pre hd hi hp hk
    obtain ⟨k, rfl⟩ : ∃ m, k = m + 1 := ⟨k - 1, by omega⟩
    have c : i < l.length := by omega
    have er : rd l (i : Int) = l[i] := by unfold rd; simp [c]
    have hx := hb _ (List.getElem_mem c)
    simp only [pluvialref02_Text.l0]
    have pv := put_val (x := l[i]) (by omega) (by omega) (w := 8) (by omega) (k := k) (by omega)
    rw [show ((8 : Nat) : Int) = 8 from rfl] at pv
    rw [if_pos (by omega), if_pos (by omega), er, wu64, Int.emod_eq_of_lt (a := l[i]) (by omega) (by omega), pv, Option.bind_some, txt_append, txt_size, txt_size, putB_len, if_pos (by omega), w64 (by omega) (by omega), List.drop_eq_getElem_cons c, bitsOf, ← List.append_assoc]
    exact ih k (i + 1) _ (by omega) (by omega) (by rw [List.length_append, putB_len]; omega) (by omega)
theorem text_val {l : List Int} (hb : Bytes l) (hl : l.length ≤ 1000) {k : Nat} (hk : 2000 ≤ k) : pluvialref02_Text.f k l = some (txt (bitsOf l)) := by
  unfold pluvialref02_Text.f
  exact text_loop hb hl l.length k 0 [] (by omega) (by omega) rfl (by omega)
theorem txt_extract (a b : List Bool) : (txt (a ++ b)).extract 0 a.length = txt a := by
  apply ByteArray.ext
  simp [txt]
/-! ### a layout that is right -/
def rgo : Bool → Int → List S38 → Bool
  | _, _, [] => true
  | first, rem, s :: r => decide (1 ≤ s.f1 ∧ s.f1 ≤ rem ∧ 0 ≤ s.f0 ∧ s.f0 ≤ 524288 ∧ (first = true ↔ s.f0 = 0)) && rgo false (rem - s.f1) r
theorem right_loop (S : List S38) (hl : S.length ≤ 1000) (hS : SB S) (lim F : Int) (hlim : 0 ≤ lim ∧ lim ≤ 1000) : ∀ (d k n : Nat) (c : Int), S.length - n = d → n ≤ S.length → 0 ≤ c → c ≤ lim → d < k →
    span_Right.l0 k lim c S (S.length : Int) (n : Int) F S = some (rgo (n == 0) (lim - c) (S.drop n) && (decide (-262144 ≤ F) && decide (F ≤ 262144))) := by
  intro d
  induction d with
  | zero =>
    intro k n c hd hn h0 h1 hk
    obtain ⟨k, rfl⟩ : ∃ m, k = m + 1 := ⟨k - 1, by omega⟩
    simp only [span_Right.l0]
    rw [if_neg (by omega), List.drop_eq_nil_of_le (by omega), rgo]
    by_cases c1 : -262144 ≤ F
    · rw [if_pos (by omega), decide_eq_true c1]; simp
    · rw [if_neg (by omega), decide_eq_false c1]; simp
  | succ d ih =>
    intro k n c hd hn h0 h1 hk
    obtain ⟨k, rfl⟩ : ∃ m, k = m + 1 := ⟨k - 1, by omega⟩
    have hi : n < S.length := by omega
    have er : rd_T38 S (n : Int) = S[n] := by unfold rd_T38; simp [hi]
    have hb := hS _ (List.getElem_mem hi)
    simp only [span_Right.l0]
    rw [if_pos (by omega), if_pos (by omega), if_pos (by omega), er, List.drop_eq_getElem_cons hi, rgo, w64 (x := lim - c) (by omega) (by omega), w64 (x := c + S[n].f1) (by omega) (by omega), w64 (x := (n : Int) + 1) (by omega) (by omega), show (n : Int) + 1 = ((n + 1 : Nat) : Int) from by omega]
    have hbool : (((n : Int) == 0) != (S[n].f0 == 0)) = false ↔ ((n == 0) = true ↔ S[n].f0 = 0) := by
      rw [bne_eq_false_iff_eq, Bool.eq_iff_iff, beq_iff_eq, beq_iff_eq, beq_iff_eq]
      constructor <;> intro h <;> constructor <;> intro g <;> omega
    by_cases c1 : S[n].f1 < 1
    · rw [if_pos c1, decide_eq_false (by omega)]; rfl
    rw [if_neg c1]
    by_cases c2 : S[n].f1 > lim - c
    · rw [if_pos c2, decide_eq_false (by omega)]; rfl
    rw [if_neg c2, if_neg (by omega)]
    by_cases c3 : S[n].f0 > 524288
    · rw [if_pos c3, decide_eq_false (by omega)]; rfl
    rw [if_neg c3]
    by_cases c4 : (((n : Int) == 0) != (S[n].f0 == 0)) = true
    · rw [if_pos c4, decide_eq_false (fun h => by rw [hbool.2 h.2.2.2.2] at c4; exact absurd c4 (by simp))]; rfl
    · rw [if_neg c4, decide_eq_true ⟨by omega, by omega, by omega, by omega, hbool.1 (by simpa using c4)⟩, ih k (n + 1) (c + S[n].f1) (by omega) (by omega) (by omega) (by omega) (by omega), show lim - (c + S[n].f1) = lim - c - S[n].f1 from by omega]
      simp
theorem rright_loop (S : List S38) (hl : S.length ≤ 1000) (hS : SB S) : ∀ (d k n : Nat) (c : Int), S.length - n = d → n ≤ S.length → -1000000 ≤ c → c ≤ 1000 → d < k →
    pluvialref06_Right.l0 k S c (n : Int) = some (rgo (n == 0) c (S.drop n)) := by
  intro d
  induction d with
  | zero =>
    intro k n c hd hn h0 h1 hk
    obtain ⟨k, rfl⟩ : ∃ m, k = m + 1 := ⟨k - 1, by omega⟩
    simp only [pluvialref06_Right.l0]
    rw [if_neg (by omega), List.drop_eq_nil_of_le (by omega), rgo]
  | succ d ih =>
    intro k n c hd hn h0 h1 hk
    obtain ⟨k, rfl⟩ : ∃ m, k = m + 1 := ⟨k - 1, by omega⟩
    have hi : n < S.length := by omega
    have er : rd_T38 S (n : Int) = S[n] := by unfold rd_T38; simp [hi]
    have hb := hS _ (List.getElem_mem hi)
    simp only [pluvialref06_Right.l0]
    rw [if_pos (by omega), er, List.drop_eq_getElem_cons hi, rgo, w64 (x := (n : Int) + 1) (by omega) (by omega), w64 (x := c - S[n].f1) (by omega) (by omega), show (n : Int) + 1 = ((n + 1 : Nat) : Int) from by omega]
    have rest : S[n].f1 ≤ c → pluvialref06_Right.l0 k S (c - S[n].f1) ((n + 1 : Nat) : Int) = some (rgo false (c - S[n].f1) (S.drop (n + 1))) := fun h => by
      have := ih k (n + 1) (c - S[n].f1) (by omega) (by omega) (by omega) (by omega) (by omega)
      rw [show (n + 1 == 0) = false from by simp] at this
      exact this
    by_cases c0 : n = 0
    · rw [if_pos (by omega), if_pos (by omega), show (n == 0) = true from by simp [c0]]
      by_cases c4 : S[n].f0 = 0
      · rw [if_pos c4, if_neg (by omega)]
        by_cases c1 : S[n].f1 < 1
        · rw [if_pos c1, decide_eq_false (by omega)]; rfl
        rw [if_neg c1]
        by_cases c2 : S[n].f1 > c
        · rw [if_pos c2, decide_eq_false (by omega)]; rfl
        rw [if_neg c2, rest (by omega), decide_eq_true ⟨by omega, by omega, by omega, by omega, by simp [c4]⟩]; simp
      · rw [if_neg c4, decide_eq_false (fun h => c4 (h.2.2.2.2.1 rfl))]; rfl
    · rw [if_neg (by omega), if_pos (by omega), if_pos (by omega), show (n == 0) = false from by simp [c0]]
      by_cases c3 : S[n].f0 < 1
      · rw [if_pos c3, decide_eq_false (fun h => absurd (h.2.2.2.2.2 (by omega)) (by simp))]; rfl
      rw [if_neg c3]
      by_cases c4 : S[n].f0 > 524288
      · rw [if_pos c4, decide_eq_false (by omega)]; rfl
      rw [if_neg c4]
      by_cases c1 : S[n].f1 < 1
      · rw [if_pos c1, decide_eq_false (by omega)]; rfl
      rw [if_neg c1]
      by_cases c2 : S[n].f1 > c
      · rw [if_pos c2, decide_eq_false (by omega)]; rfl
      rw [if_neg c2, rest (by omega), decide_eq_true ⟨by omega, by omega, by omega, by omega, ⟨fun h => by simp at h, fun h => by omega⟩⟩]; simp
/-! ### taking -/
structure Good (l : List Int) (lim : Int) (hd : List Bool) (cnt : Nat) (S : List S38) (n : Nat) : Prop where
  n_le : n ≤ 8 * l.length
  len : S.length = cnt
  bits : bitsOf l = hd ++ lay true S ++ (bitsOf l).drop n
  sb : SB S
  pos : ∀ i (h : i < S.length), 0 < i → 1 ≤ S[i].f0
  right : rgo true lim S = true
theorem take_fin {l : List Int} (lim : Int) (hlim : 1 ≤ lim ∧ lim ≤ 1000) (hd : List Bool) (cnt : Nat) (hc : cnt ≤ 1000) (k : Nat) (hk : 2000 ≤ k) (n : Nat) (bad F : Int) (S : List S38) (hn : n ≤ 8 * l.length) (hSc : S.length ≤ cnt) (hS : SB S) (hpos : ∀ i (h : i < S.length), 0 < i → 1 ≤ S[i].f0)
    (hinv : bad = 0 → S.length = cnt ∧ bitsOf l = hd ++ lay true S ++ (bitsOf l).drop n) (h0 : cnt = 0 → F = 0) (x : Int) :
    ∃ F' S', ∃ n' : Nat, ∃ bad', span_Take.j2 k lim (cnt : Int) x false l (n : Int) bad F S = some (F', S', (n' : Int), bad') ∧ ((S' = [] ∧ F' = 0) ∨ (S' ≠ [] ∧ F' = F ∧ bad' = 0 ∧ Good l lim hd cnt S' n')) := by
  obtain ⟨k, rfl⟩ : ∃ m, k = m + 1 := ⟨k - 1, by omega⟩
  simp only [span_Take.j2, Bool.false_eq_true, if_false, bits_Reader_Err.f, Option.bind_some]
  by_cases cb : bad = 0
  · obtain ⟨e1, e2⟩ := hinv cb
    rw [if_pos cb, if_neg (by omega)]
    by_cases cS : S = []
    · subst cS
      have : cnt = 0 := by simpa using e1.symm
      rw [h0 this]
      refine ⟨0, [], n, bad, ?_, .inl ⟨rfl, rfl⟩⟩
      simp [span_Right.f]
    · have hne : S.length ≠ 0 := fun h => cS (List.eq_nil_of_length_eq_zero h)
      unfold span_Right.f
      rw [if_neg (by omega)]
      have := right_loop S (by omega) hS lim F (by omega) S.length k 0 0 (by omega) (by omega) (by omega) (by omega) (by omega)
      rw [show ((0 : Nat) : Int) = 0 from rfl] at this
      rw [this, Option.bind_some]
      by_cases cr : (rgo (0 == 0) (lim - 0) (S.drop 0) && (decide (-262144 ≤ F) && decide (F ≤ 262144))) = true
      · rw [if_pos cr]
        refine ⟨F, S, n, bad, rfl, .inr ⟨cS, rfl, cb, hn, e1, e2, hS, hpos, ?_⟩⟩
        rw [Bool.and_eq_true] at cr
        have := cr.1
        rw [Int.sub_zero] at this
        exact this
      · rw [if_neg cr]
        exact ⟨0, [], n, bad, rfl, .inl ⟨rfl, rfl⟩⟩
  · rw [if_neg cb]
    exact ⟨0, [], n, bad, rfl, .inl ⟨rfl, rfl⟩⟩
theorem take_loop {l : List Int} (hb : Bytes l) (hl : l.length ≤ 1000) (lim : Int) (hlim : 1 ≤ lim ∧ lim ≤ 1000) (hd : List Bool) (cnt : Nat) (hc : cnt ≤ 1000) (F : Int) (h0 : cnt = 0 → F = 0) : ∀ (d k n : Nat) (bad : Int) (S : List S38), cnt - S.length = d → S.length ≤ cnt → n ≤ 8 * l.length → SB S → (∀ i (h : i < S.length), 0 < i → 1 ≤ S[i].f0) → (bad = 0 → bitsOf l = hd ++ lay true S ++ (bitsOf l).drop n) → 3000 + 2 * d ≤ k →
    ∃ F' S', ∃ n' : Nat, ∃ bad', span_Take.l0 k lim (cnt : Int) (S.length : Int) l (n : Int) bad F S = some (F', S', (n' : Int), bad') ∧ ((S' = [] ∧ F' = 0) ∨ (S' ≠ [] ∧ F' = F ∧ bad' = 0 ∧ Good l lim hd cnt S' n')) := by
  intro d
  induction d with
  | zero =>
    intro k n bad S hd' hSc hn hS hpos hinv hk
    obtain ⟨k, rfl⟩ : ∃ m, k = m + 1 := ⟨k - 1, by omega⟩
    simp only [span_Take.l0]
    rw [if_neg (by omega)]
    exact take_fin lim hlim hd cnt hc k (by omega) n bad F S hn hSc hS hpos (fun h => ⟨by omega, hinv h⟩) h0 _
  | succ d ih =>
    intro k n bad S hd' hSc hn hS hpos hinv hk
    obtain ⟨k, rfl⟩ : ∃ m, k = m + 2 := ⟨k - 2, by omega⟩
    simp only [span_Take.l0]
    rw [if_pos (by omega)]
    simp only [bits_Reader_Err.f, Option.bind_some]
    by_cases cb : bad = 0
    · rw [show (bad == 0) = true from by simp [cb]]
      simp only [span_Take.j2, if_true]
      have e := hinv cb
      have next : ∀ (v0 v1 : Int) (n2 : Nat) (bad2 : Int), 0 ≤ v0 → v0 ≤ 600000 → 0 ≤ v1 → v1 ≤ 999999 → n2 ≤ 8 * l.length → (S ≠ [] → 1 ≤ v0) → (bad2 = 0 → (bitsOf l).drop n = (if S = [] then [] else encC (v0 - 1)) ++ encC v1 ++ (bitsOf l).drop n2) →
          ∃ F' S', ∃ n' : Nat, ∃ bad', span_Take.l0 k lim (cnt : Int) ((S.length : Int) + 1) l (n2 : Int) bad2 F (S ++ [⟨v0, 1 + v1⟩]) = some (F', S', (n' : Int), bad') ∧ ((S' = [] ∧ F' = 0) ∨ (S' ≠ [] ∧ F' = F ∧ bad' = 0 ∧ Good l lim hd cnt S' n')) := by
        intro v0 v1 n2 bad2 a0 a1 a2 a3 a4 a5 a6
        have := ih k n2 bad2 (S ++ [⟨v0, 1 + v1⟩]) (by simp; omega) (by simp; omega) a4 (by
          intro s hs
          rcases List.mem_append.1 hs with hs | hs
          · exact hS s hs
          · rw [List.mem_singleton] at hs; subst hs; exact ⟨a0, by show v0 ≤ 1000000; omega, by show 1 ≤ 1 + v1; omega, by show 1 + v1 ≤ 1000000; omega⟩) (by
          intro i h hi
          by_cases c : i < S.length
          · rw [List.getElem_append_left c]; exact hpos i c hi
          · have hi' : i = S.length := by simp at h; omega
            subst hi'
            rw [List.getElem_append_right (Nat.le_refl _)]
            simp only [Nat.sub_self, List.getElem_cons_zero]
            exact a5 (fun h => by rw [h] at hi; simp at hi)) (by
          intro h
          refine e.trans ?_
          rw [a6 h, lay_snoc]
          have e1 : (1 + v1 - 1) = v1 := by omega
          by_cases cS : S = []
          · subst cS; simp [lay, e1]
          · have : S.isEmpty = false := by simpa using cS
            rw [if_neg cS, this, Bool.and_false, if_neg (by simp), e1]; simp only [List.append_assoc]) (by omega)
        rw [List.length_append] at this
        simpa using this
      by_cases cS : S = []
      · subst cS
        obtain ⟨v1, n2, bad2, g1, g2, g3, g4, g5, g6, _⟩ := small_val hb hl (k := k) (by omega) n bad hn (lim - 1) (by omega)
        rw [if_neg (by simp), w64 (x := lim - 1) (by omega) (by omega), g1, Option.bind_some, if_pos (by simp)]
        simp only []
        rw [w64 (x := 1 + v1) (by omega) (by omega), w64 (by simp) (by simp)]
        exact next 0 v1 n2 bad2 (by omega) (by omega) g4 (by omega) g3 (fun h => absurd rfl h) (fun h => by rw [if_pos rfl]; exact (g6 h).2)
      · have hne : S.length ≠ 0 := fun h => cS (List.eq_nil_of_length_eq_zero h)
        obtain ⟨v0, n1, bad1, f1, f2, f3, f4, f5, f6, _⟩ := small_val hb hl (k := k) (by omega) n bad hn 524287 (by omega)
        obtain ⟨v1, n2, bad2, g1, g2, g3, g4, g5, g6, _⟩ := small_val hb hl (k := k) (by omega) n1 bad1 f3 (lim - 1) (by omega)
        rw [if_pos (by omega), f1, Option.bind_some]
        simp only []
        rw [w64 (x := lim - 1) (by omega) (by omega), g1, Option.bind_some, if_pos (by omega)]
        simp only []
        rw [w64 (x := 1 + v1) (by omega) (by omega), w64 (x := 1 + v0) (by omega) (by omega), w64 (x := (S.length : Int) + 1) (by omega) (by omega)]
        refine next (1 + v0) v1 n2 bad2 (by omega) (by omega) g4 (by omega) g3 (fun _ => by omega) (fun h => ?_)
        obtain ⟨p1, p2⟩ := g6 h
        obtain ⟨p3, p4⟩ := f6 p1
        rw [if_neg cS, p4, p2, show 1 + v0 - 1 = v0 from by omega, List.append_assoc]
    · rw [show (bad == 0) = false from by simp [cb]]
      exact take_fin lim hlim hd cnt hc (k + 1) (by omega) n bad F S hn hSc hS hpos (fun h => absurd h cb) h0 _
theorem take_val {l : List Int} (hb : Bytes l) (hl : l.length ≤ 1000) (lim : Int) (hlim : 1 ≤ lim ∧ lim ≤ 1000) {k : Nat} (hk : 10000 ≤ k) :
    ∃ F' S', ∃ n' : Nat, ∃ bad', span_Take.f k l 0 0 lim = some (F', S', (n' : Int), bad') ∧ ((S' = [] ∧ F' = 0) ∨ (S' ≠ [] ∧ bad' = 0 ∧ (-262144 ≤ F' ∧ F' ≤ 262144) ∧ ∃ cnt : Nat, cnt ≤ 1000 ∧ Good l lim (encC (cnt : Int) ++ encC (zigV F')) cnt S' n')) := by
  obtain ⟨c, n1, bad1, f1, f2, f3, f4, f5, f6, f7⟩ := small_val hb hl (k := k) (by omega) 0 0 (by omega) lim (by omega)
  obtain ⟨cnt, rfl⟩ := Int.eq_ofNat_of_zero_le f4
  obtain ⟨k, rfl⟩ : ∃ m, k = m + 1 := ⟨k - 1, by omega⟩
  unfold span_Take.f
  rw [show ((0 : Nat) : Int) = 0 from rfl] at f1
  rw [f1, Option.bind_some]
  simp only []
  by_cases c0 : (cnt : Int) > 0
  · obtain ⟨F, n2, bad2, g1, g2, g3, g4⟩ := int_val hb hl (k := k + 1) (by omega) n1 bad1 f3
    rw [if_pos c0, g1, Option.bind_some]
    simp only []
    have neg : ∃ F' S', ∃ n' : Nat, ∃ bad', span_Take.j0 (k + 1) lim (-1) l (n2 : Int) bad2 0 = some (F', S', (n' : Int), bad') ∧ (S' = [] ∧ F' = 0) := by
      obtain ⟨k, rfl⟩ : ∃ m, k = m + 2 := ⟨k - 2, by omega⟩
      simp only [span_Take.j0, span_Take.l0]
      rw [if_neg (by omega)]
      simp only [span_Take.j2, Bool.false_eq_true, if_false, bits_Reader_Err.f, Option.bind_some]
      by_cases cb : bad2 = 0
      · rw [if_pos cb, if_pos (by omega)]; exact ⟨0, [], n2, bad2, rfl, rfl, rfl⟩
      · rw [if_neg cb]; exact ⟨0, [], n2, bad2, rfl, rfl, rfl⟩
    have neg' : ∃ F' S', ∃ n' : Nat, ∃ bad', span_Take.j0 (k + 1) lim (-1) l (n2 : Int) bad2 0 = some (F', S', (n' : Int), bad') ∧ ((S' = [] ∧ F' = 0) ∨ (S' ≠ [] ∧ bad' = 0 ∧ (-262144 ≤ F' ∧ F' ≤ 262144) ∧ ∃ cnt : Nat, cnt ≤ 1000 ∧ Good l lim (encC (cnt : Int) ++ encC (zigV F')) cnt S' n')) := by
      obtain ⟨a, b, c, d, e, h⟩ := neg
      exact ⟨a, b, c, d, e, .inl h⟩
    by_cases c1 : F ≥ -262144
    · rw [if_pos c1]
      by_cases c2 : F ≤ 262144
      · rw [if_pos c2]
        simp only [span_Take.j0]
        obtain ⟨F', S', n', bad', h1, h2⟩ := take_loop hb hl lim hlim (encC (cnt : Int) ++ encC (zigV F)) cnt (by omega) F (fun h => by omega) cnt k n2 bad2 [] (by simp) (by simp) g3 (by intro s hs; simp at hs) (by intro i h; simp at h) (fun h => by
          obtain ⟨p1, p2⟩ := g4 h
          obtain ⟨p3, p4⟩ := f6 p1
          rw [List.drop_zero] at p4
          rw [lay, List.append_nil, List.append_assoc, ← p2]
          exact p4) (by omega)
        refine ⟨F', S', n', bad', h1, ?_⟩
        rcases h2 with h2 | ⟨h2, rfl, h4, h5⟩
        · exact .inl h2
        · exact .inr ⟨h2, h4, ⟨c1, c2⟩, cnt, by omega, h5⟩
      · rw [if_neg c2]; exact neg'
    · rw [if_neg c1]; exact neg'
  · rw [if_neg c0]
    have hc : cnt = 0 := by omega
    subst hc
    simp only [span_Take.j0]
    obtain ⟨F', S', n', bad', h1, h2⟩ := take_loop hb hl lim hlim (encC ((0 : Nat) : Int)) 0 (by omega) 0 (fun _ => rfl) 0 k n1 bad1 [] (by simp) (by simp) f3 (by intro s hs; simp at hs) (by intro i h; simp at h) (fun h => by
      have := (f6 h).2
      rw [List.drop_zero] at this
      rw [lay, List.append_nil]; exact this) (by omega)
    refine ⟨F', S', n', bad', h1, ?_⟩
    rcases h2 with h2 | ⟨h2, _, _, h5⟩
    · exact .inl h2
    · exact absurd (List.eq_nil_of_length_eq_zero h5.len) h2
theorem main_k (l : List Int) (a : Int) (hb : Bytes l) (ha : 0 ≤ a ∧ a ≤ 65535) (k : Nat) (hk : 20000 ≤ k) : pluviallaw06_SpanTakes.f k l a = some true := by
  unfold pluviallaw06_SpanTakes.f
  by_cases c : (l.length : Int) > 400
  · rw [if_pos c, awake_any (by omega)]; rfl
  rw [if_neg c]
  have em : Int.tmod a 600 = a % 600 := Int.tmod_eq_emod_of_nonneg ha.1
  rw [em, w64 (x := a % 600) (by omega) (by omega), w64 (x := 1 + a % 600) (by omega) (by omega)]
  unfold bits_Read.f
  rw [Option.bind_some]
  simp only []
  obtain ⟨F, S, n, bad, e, h⟩ := take_val hb (by omega) (1 + a % 600) (by omega) (k := k) (by omega)
  rw [e, Option.bind_some]
  simp only []
  rcases h with ⟨rfl, rfl⟩ | ⟨hne, rfl, hF, cnt, hc, hg⟩
  · rw [if_pos (show (([] : List S38).length : Int) = 0 from rfl), awake_any (by omega), Option.bind_some, if_pos rfl]; rfl
  · have hS0 : S.length ≠ 0 := fun h => hne (List.eq_nil_of_length_eq_zero h)
    have hlen := hg.len
    have hle : S.length ≤ 1000 := by omega
    have hn := hg.n_le
    have hbl := bitsOf_len l
    have hbits := hg.bits
    rw [← hlen] at hbits
    have hsz := congrArg List.length hbits
    rw [List.length_append, List.length_drop] at hsz
    have hr : pluvialref06_Right.f k F S (1 + a % 600) = some true := by
      unfold pluvialref06_Right.f
      rw [if_neg (by omega), if_neg (by omega), decide_eq_false (by omega)]
      obtain ⟨k, rfl⟩ : ∃ m, k = m + 1 := ⟨k - 1, by omega⟩
      simp only [pluvialref06_Right.j0, Bool.false_eq_true, if_false]
      have := rright_loop S hle hg.sb S.length k 0 (1 + a % 600) (by omega) (by omega) (by omega) (by omega) (by omega)
      rw [show ((0 : Nat) : Int) = 0 from rfl, List.drop_zero] at this
      rw [this]
      exact congrArg some hg.right
    rw [if_neg (by omega), lay_val hF S hne hg.sb hle hg.pos (by omega), Option.bind_some, text_val hb (by omega) (by omega), Option.bind_some, awake_any (by omega), Option.bind_some, if_pos rfl]
    unfold bits_Reader_Err.f
    rw [Option.bind_some, if_pos rfl, hr, Option.bind_some, if_pos rfl, txt_size, txt_size, if_pos (by omega), if_pos (by omega), Int.toNat_natCast]
    have hx : (txt (bitsOf l)).extract 0 (encC (S.length : Int) ++ encC (zigV F) ++ lay true S).length = txt (encC (S.length : Int) ++ encC (zigV F) ++ lay true S) := by
      conv => lhs; rw [hbits]
      exact txt_extract _ _
    rw [hx, if_pos rfl]
    unfold bits_Reader_Left.f
    rw [Option.bind_some]
    simp only []
    rw [w64 (x := 8 * (l.length : Int)) (by omega) (by omega), w64 (by omega) (by omega), w64 (by omega) (by omega)]
    congr 1
    rw [beq_iff_eq]
    omega
theorem main : pluviallaw06_SpanTakes.Pure := by
  intro l a _ _ h0 h1
  exact ⟨20000, main_k l a (fun x hx => wf_u8 (h0 x hx)) (wf_u16 h1) 20000 (Nat.le_refl _)⟩
end Go.Proofs.Ytpdhcgicnhgfoaa.Pure.LSpanTakes
namespace Go.Proofs.Ytpdhcgicnhgfoaa.Pure
theorem SpanTakes : Go.Proofs.Ytpdhcgicnhgfoaa.QSpanTakes.pluviallaw06_SpanTakes.Pure := LSpanTakes.main
end Go.Proofs.Ytpdhcgicnhgfoaa.Pure
