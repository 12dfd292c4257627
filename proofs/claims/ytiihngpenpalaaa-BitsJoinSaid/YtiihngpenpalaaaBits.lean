/- Bits of numbers and of bytes, and a writer's bytes: what a bit that is laid makes of them. Plain Lean; each lemma names its bounds. -/
import Derived.Test.YtiihngpenpalaaaMth
import Derived.Test.YtiihngpenpalaaaPBitsJoinx1
namespace Go.Proofs.Ytiihngpenpalaaa.Bt
open Go.RowKit Go.Proofs.Ytiihngpenpalaaa Go.Proofs.Ytiihngpenpalaaa.Mth Go.Proofs.YtiihngpenpalaaaW.PrintWords
/-! ### bits of a number, the highest first -/
def putB : Nat → Int → List Bool
  | 0, _ => []
  | n + 1, x => putB n (x / 2) ++ [decide (x % 2 = 1)]
def b2i (b : Bool) : Int := if b then 1 else 0
def valA (a : Int) : List Bool → Int
  | [] => a
  | b :: r => valA (2 * a + b2i b) r
theorem valA_append (x y : List Bool) : ∀ a, valA a (x ++ y) = valA (valA a x) y := by
  induction x with
  | nil => intro a; rfl
  | cons b x ih => intro a; exact ih _
theorem val_snoc (x : List Bool) (b : Bool) : valA 0 (x ++ [b]) = 2 * valA 0 x + b2i b := by rw [valA_append]; rfl
theorem b2i_bound (b : Bool) : 0 ≤ b2i b ∧ b2i b ≤ 1 := by cases b <;> simp [b2i]
theorem snoc_cases {α : Type} (l : List α) : l = [] ∨ ∃ i s, l = i ++ [s] := by
  by_cases h : l = []
  · exact .inl h
  · exact .inr ⟨l.dropLast, l.getLast h, (List.dropLast_concat_getLast h).symm⟩
theorem putB_val : ∀ (n : Nat) (bs : List Bool), bs.length = n → putB n (valA 0 bs) = bs := by
  intro n
  induction n with
  | zero => intro bs h; rw [List.eq_nil_of_length_eq_zero h]; rfl
  | succ n ih =>
    intro bs h
    rcases snoc_cases bs with rfl | ⟨i, b, rfl⟩
    · simp at h
    · rw [val_snoc]
      have hb := b2i_bound b
      rw [putB, show (2 * valA 0 i + b2i b) / 2 = valA 0 i from by omega, ih i (by simpa using h)]
      congr 2
      cases b
      · rw [decide_eq_false_iff_not, show b2i false = 0 from rfl]; omega
      · rw [decide_eq_true_iff, show b2i true = 1 from rfl]; omega
theorem val_bound : ∀ (n : Nat) (bs : List Bool), bs.length = n → 0 ≤ valA 0 bs ∧ valA 0 bs < 2 ^ n := by
  intro n
  induction n with
  | zero => intro bs h; rw [List.eq_nil_of_length_eq_zero h]; simp [valA]
  | succ n ih =>
    intro bs h
    rcases snoc_cases bs with rfl | ⟨i, b, rfl⟩
    · simp at h
    · have := ih i (by simpa using h)
      have hb := b2i_bound b
      rw [val_snoc, Int.pow_succ]; omega
theorem putB_len : ∀ (n : Nat) (x : Int), (putB n x).length = n := by
  intro n
  induction n with
  | zero => intro x; rfl
  | succ n ih => intro x; simp [putB, ih]
theorem putB_get : ∀ (n : Nat) (x : Int) (i : Nat), i < n → (putB n x)[i]? = some (decide (x / 2 ^ (n - 1 - i) % 2 = 1)) := by
  intro n
  induction n with
  | zero => intro x i h; omega
  | succ n ih =>
    intro x i h
    rw [putB]
    by_cases c : i < n
    · rw [List.getElem?_append_left (by rw [putB_len]; exact c), ih _ _ c]
      have := div_div x 1 (n - 1 - i)
      rw [Int.pow_one] at this
      rw [this, show 1 + (n - 1 - i) = n + 1 - 1 - i from by omega]
    · have hi : i = n := by omega
      subst hi
      rw [List.getElem?_append_right (by rw [putB_len]; omega), putB_len]
      simp
def bitsOf : List Int → List Bool
  | [] => []
  | b :: r => putB 8 b ++ bitsOf r
theorem bitsOf_len : ∀ l : List Int, (bitsOf l).length = 8 * l.length := by
  intro l
  induction l with
  | nil => rfl
  | cons b r ih => simp only [bitsOf, List.length_append, putB_len, ih, List.length_cons]; omega
theorem bitsOf_get : ∀ (l : List Int) (i : Nat), i < 8 * l.length → (bitsOf l)[i]? = some (decide (l.getD (i / 8) 0 / 2 ^ (7 - i % 8) % 2 = 1)) := by
  intro l
  induction l with
  | nil => intro i h; simp at h
  | cons b r ih =>
    intro i h
    rw [bitsOf]
    simp only [List.length_cons] at h
    by_cases c : i < 8
    · rw [List.getElem?_append_left (by rw [putB_len]; exact c), putB_get 8 b i c]
      rw [show i / 8 = 0 from by omega, show 8 - 1 - i = 7 - i % 8 from by omega]; rfl
    · rw [List.getElem?_append_right (by rw [putB_len]; omega), putB_len, ih (i - 8) (by omega)]
      rw [show i / 8 = (i - 8) / 8 + 1 from by omega, List.getD_cons_succ, show (i - 8) % 8 = i % 8 from by omega]
def Bytes (l : List Int) : Prop := ∀ x ∈ l, 0 ≤ x ∧ x ≤ 255
theorem Bytes.get {l : List Int} (h : Bytes l) (i : Nat) : 0 ≤ l.getD i 0 ∧ l.getD i 0 ≤ 255 := by
  rw [List.getD_eq_getElem?_getD]
  by_cases hi : i < l.length
  · rw [List.getElem?_eq_getElem hi]; exact h _ (List.getElem_mem hi)
  · rw [List.getElem?_eq_none (by omega)]; simp
/-! ### how long a number is -/
def bl (n : Nat) : Nat := if h : n = 0 then 0 else bl (n / 2) + 1
termination_by n
decreasing_by omega
theorem bl_le : ∀ (w n : Nat), bl n ≤ w ↔ n < 2 ^ w := by
  intro w
  induction w with
  | zero =>
    intro n
    rw [bl]
    split
    · rename_i h; subst h; simp
    · simp; omega
  | succ w ih =>
    intro n
    rw [bl]
    split
    · rename_i h; subst h; have := Nat.two_pow_pos (w + 1); omega
    · rw [Nat.add_le_add_iff_right, ih, Nat.pow_succ]; omega
/-! ### counts -/
def clsW : Nat → Nat
  | 0 => 0
  | 1 => 3
  | 2 => 7
  | 3 => 12
  | 4 => 20
  | 5 => 32
  | _ => 64
def cls (v : Int) : Nat := if v < 1 then 0 else if v < 8 then 1 else if v < 128 then 2 else if v < 4096 then 3 else if v < 1048576 then 4 else if v < 4294967296 then 5 else 6
def hdr (i : Nat) : List Bool := List.replicate i true ++ (if i < 6 then [false] else [])
def encC (v : Int) : List Bool := hdr (cls v) ++ putB (clsW (cls v)) v
theorem cls_of {v : Int} {i : Nat} (hi : i ≤ 6) (h0 : 0 ≤ v) (h1 : v < 2 ^ clsW i) (h2 : i = 0 ∨ ¬ bl v.toNat ≤ clsW (i - 1)) : cls v = i := by
  rw [bl_le] at h2
  have hc : i = 0 ∨ i = 1 ∨ i = 2 ∨ i = 3 ∨ i = 4 ∨ i = 5 ∨ i = 6 := by omega
  rcases hc with rfl | rfl | rfl | rfl | rfl | rfl | rfl <;> simp only [clsW] at h1 h2 <;> unfold cls <;> simp at h1 h2 <;> (repeat' split) <;> omega
theorem clsW_le (i : Nat) : clsW i ≤ 64 := by unfold clsW; split <;> omega
theorem bitsOf_append (a b : List Int) : bitsOf (a ++ b) = bitsOf a ++ bitsOf b := by
  induction a with
  | nil => rfl
  | cons x a ih => simp only [List.cons_append, bitsOf, ih, List.append_assoc]
theorem Bytes.append {a b : List Int} (ha : Bytes a) (hb : Bytes b) : Bytes (a ++ b) := fun x hx => (List.mem_append.1 hx).elim (ha x) (hb x)
/-- bytes xs with f bits free are the bits s -/
def Pk (xs : List Int) (f : Int) (s : List Bool) : Prop := Bytes xs ∧ 0 ≤ f ∧ f ≤ 7 ∧ bitsOf xs = s ++ List.replicate f.toNat false
theorem pk_nil : Pk [] 0 [] := ⟨fun x hx => absurd hx (by simp), by decide, by decide, rfl⟩
theorem pk_len {xs : List Int} {f : Int} {s : List Bool} (h : Pk xs f s) : 8 * (xs.length : Int) = s.length + f := by
  have := congrArg List.length h.2.2.2
  rw [bitsOf_len, List.length_append, List.length_replicate] at this
  have := h.2.1
  omega
/-- a byte with a free bit more: before the next bit is laid -/
def Pk8 (xs : List Int) (f : Int) (s : List Bool) : Prop := Bytes xs ∧ 0 ≤ f ∧ f ≤ 7 ∧ bitsOf xs = s ++ List.replicate (f.toNat + 1) false
theorem pk_push {xs : List Int} {s : List Bool} (h : Pk xs 0 s) : Pk8 (xs ++ [0]) 7 s := by
  obtain ⟨h1, _, _, h4⟩ := h
  refine ⟨h1.append (by intro x hx; rw [List.mem_singleton] at hx; subst hx; decide), by decide, by decide, ?_⟩
  rw [bitsOf_append, h4]
  simp [bitsOf, putB]
theorem pk_free {xs : List Int} {f : Int} {s : List Bool} (h : Pk xs f s) (hf : f ≠ 0) : Pk8 xs (f - 1) s := by
  obtain ⟨h1, h2, h3, h4⟩ := h
  refine ⟨h1, by omega, by omega, ?_⟩
  rw [h4, show f.toNat = (f - 1).toNat + 1 from by omega]
theorem pk_no {xs : List Int} {f : Int} {s : List Bool} (h : Pk8 xs f s) : Pk xs f (s ++ [false]) := by
  obtain ⟨h1, h2, h3, h4⟩ := h
  refine ⟨h1, h2, h3, ?_⟩
  rw [h4, List.replicate_succ, List.append_assoc]; rfl
theorem pk8_pos {xs : List Int} {f : Int} {s : List Bool} (h : Pk8 xs f s) : 0 < xs.length := by
  have := congrArg List.length h.2.2.2
  rw [bitsOf_len, List.length_append, List.length_replicate] at this
  omega
theorem turn_fin : ∀ y : Fin 256, ∀ f : Fin 8, (putB 8 (y.val : Int)).drop (7 - f.val) = List.replicate (f.val + 1) false →
    0 ≤ Go.bits .or .u8 (y.val : Int) (2 ^ f.val) ∧ Go.bits .or .u8 (y.val : Int) (2 ^ f.val) ≤ 255 ∧
    putB 8 (Go.bits .or .u8 (y.val : Int) (2 ^ f.val)) = (putB 8 (y.val : Int)).take (7 - f.val) ++ true :: List.replicate f.val false := by decide +kernel
theorem pk_yes {xs : List Int} {f : Int} {s : List Bool} (h : Pk8 xs f s) : Pk (xs.set (xs.length - 1) (Go.bits .or .u8 (xs.getD (xs.length - 1) 0) (2 ^ f.toNat))) f (s ++ [true]) := by
  have hpos := pk8_pos h
  obtain ⟨h1, h2, h3, h4⟩ := h
  rcases snoc_cases xs with rfl | ⟨ys, y, rfl⟩
  · simp at hpos
  clear hpos
  have hy := h1 y (by simp)
  have hl : (ys ++ [y]).length - 1 = ys.length := by simp
  have hg : (ys ++ [y]).getD ys.length 0 = y := by rw [List.getD_eq_getElem?_getD, List.getElem?_append_right (Nat.le_refl _)]; simp
  obtain ⟨n, rfl⟩ := Int.eq_ofNat_of_zero_le hy.1
  obtain ⟨m, rfl⟩ := Int.eq_ofNat_of_zero_le h2
  rw [Int.toNat_natCast] at h4 ⊢
  have e4 : bitsOf ys ++ putB 8 (n : Int) = s ++ List.replicate (m + 1) false := by
    rw [bitsOf_append] at h4
    simpa [bitsOf] using h4
  have hlen := congrArg List.length e4
  rw [List.length_append, List.length_append, putB_len, List.length_replicate] at hlen
  have hd : (putB 8 (n : Int)).drop (7 - m) = List.replicate (m + 1) false := by
    have e5 := congrArg (List.drop s.length) e4
    rw [List.drop_append, List.drop_append_of_le_length (Nat.le_refl _), List.drop_length, List.nil_append, List.drop_eq_nil_of_le (by omega), List.nil_append, show s.length - (bitsOf ys).length = 7 - m from by omega] at e5
    exact e5
  have ht : s = bitsOf ys ++ (putB 8 (n : Int)).take (7 - m) := by
    have e5 := congrArg (List.take s.length) e4
    rw [List.take_append, List.take_of_length_le (l := bitsOf ys) (by omega), List.take_append, List.take_of_length_le (l := s) (Nat.le_refl _), Nat.sub_self, List.take_zero, List.append_nil, show s.length - (bitsOf ys).length = 7 - m from by omega] at e5
    exact e5.symm
  obtain ⟨k1, k2, k3⟩ := turn_fin ⟨n, by omega⟩ ⟨m, by omega⟩ hd
  rw [hl, hg]
  have es : (ys ++ [(n : Int)]).set ys.length (Go.bits .or .u8 (n : Int) (2 ^ m)) = ys ++ [Go.bits .or .u8 (n : Int) (2 ^ m)] := by
    rw [List.set_append, if_neg (by omega), Nat.sub_self]; rfl
  rw [es]
  refine ⟨Bytes.append (fun x hx => h1 x (by simp [hx])) (by intro x hx; rw [List.mem_singleton] at hx; subst hx; exact ⟨k1, k2⟩), by omega, by omega, ?_⟩
  rw [bitsOf_append, show bitsOf [Go.bits .or .u8 (n : Int) (2 ^ m)] = putB 8 (Go.bits .or .u8 (n : Int) (2 ^ m)) from by simp [bitsOf], k3, Int.toNat_natCast]
  simp only [] at *
  clear k1 k2 k3 hd hlen e4 h4
  subst ht
  simp
theorem encC_len (v : Int) : (encC v).length ≤ 100 := by
  have h1 := clsW_le (cls v)
  have h2 : cls v ≤ 6 := by unfold cls; (repeat' split) <;> omega
  unfold encC hdr
  rw [List.length_append, List.length_append, List.length_replicate, putB_len]
  split
  · rw [List.length_singleton]; omega
  · rw [List.length_nil]; omega
/-- bytes tell their bits -/
theorem bitsOf_inj : ∀ {a b : List Int}, Bytes a → Bytes b → bitsOf a = bitsOf b → a = b
  | [], [], _, _, _ => rfl
  | [], x :: b, _, _, h => by
    have := congrArg List.length h
    rw [bitsOf_len, bitsOf_len, List.length_cons, List.length_nil] at this; omega
  | x :: a, [], _, _, h => by
    have := congrArg List.length h
    rw [bitsOf_len, bitsOf_len, List.length_cons, List.length_nil] at this; omega
  | x :: a, y :: b, ha, hb, h => by
    have hl := congrArg List.length h
    rw [bitsOf_len, bitsOf_len, List.length_cons, List.length_cons] at hl
    simp only [bitsOf] at h
    obtain ⟨h1, h2⟩ := List.append_inj h (by rw [putB_len, putB_len])
    have hx := ha x (by simp)
    have hy := hb y (by simp)
    have hxy : x = y := by
      have : ∀ p q : Fin 256, putB 8 (p.val : Int) = putB 8 (q.val : Int) → p = q := by
        intro p q hpq
        have v1 : ∀ p : Fin 256, valA 0 (putB 8 (p.val : Int)) = (p.val : Int) := by decide +kernel
        have e := congrArg (valA 0) hpq
        rw [v1, v1] at e
        exact Fin.ext (by omega)
      have e := this ⟨x.toNat, by omega⟩ ⟨y.toNat, by omega⟩ (by show putB 8 ((x.toNat : Nat) : Int) = putB 8 ((y.toNat : Nat) : Int); rw [Int.toNat_of_nonneg hx.1, Int.toNat_of_nonneg hy.1]; exact h1)
      have := congrArg Fin.val e
      simp only at this
      omega
    rw [hxy, bitsOf_inj (fun z hz => ha z (List.mem_cons_of_mem _ hz)) (fun z hz => hb z (List.mem_cons_of_mem _ hz)) h2]
end Go.Proofs.Ytiihngpenpalaaa.Bt
