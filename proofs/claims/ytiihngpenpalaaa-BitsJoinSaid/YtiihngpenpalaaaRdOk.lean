/- What the reader's functions answer where a count, or nothing but noughts, stands next. Bounds: at most 1000 bytes, counts of 64 bits. -/
import Derived.Test.YtiihngpenpalaaaRd
namespace Go.Proofs.Ytiihngpenpalaaa.Bt
open Go.RowKit Go.Proofs.Ytiihngpenpalaaa Go.Proofs.Ytiihngpenpalaaa.PBitsJoin Go.Proofs.Ytiihngpenpalaaa.Mth Go.Proofs.YtiihngpenpalaaaW.PrintWords Go.Proofs.YtiihngpenpalaaaW.PrintLast Go.Proofs.YtiihngpenpalaaaW.PrintMore
theorem bit_read {l : List Int} (hb : Bytes l) (hl : l.length ≤ 1000) {n : Nat} {b : Bool} {rest : List Bool} (h : (bitsOf l).drop n = b :: rest) : bits_Reader_Bit.f l (n : Int) 0 = some (b, ((n + 1 : Nat) : Int), 0) ∧ n < 8 * l.length ∧ (bitsOf l).drop (n + 1) = rest := by
  have hlen := bitsOf_len l
  have c2 : n < 8 * l.length := by
    rcases Nat.lt_or_ge n (bitsOf l).length with g | g
    · omega
    · rw [List.drop_eq_nil_of_le g] at h; exact absurd h (by simp)
  rw [List.drop_eq_getElem_cons (by omega), List.cons.injEq] at h
  obtain ⟨hx, hr⟩ := h
  have h1 := bitsOf_get l n c2
  rw [List.getElem?_eq_getElem (by omega), hx] at h1
  have hbv := Option.some.inj h1
  refine ⟨?_, c2, hr⟩
  unfold bits_Reader_Bit.f
  have hg := hb.get (n / 8)
  have e0 : Int.tdiv (n : Int) 8 = ((n / 8 : Nat) : Int) := by rw [Int.tdiv_eq_ediv_of_nonneg (by omega)]; omega
  have e1 : Int.tmod (n : Int) 8 = ((n % 8 : Nat) : Int) := by rw [Int.tmod_eq_emod_of_nonneg (by omega)]; omega
  have er : rd l ((n / 8 : Nat) : Int) = l.getD (n / 8) 0 := by unfold rd; rw [Int.toNat_natCast]
  have es : IntKind.u64.wrap (7 - IntKind.u64.wrap ((n % 8 : Nat) : Int)) = ((7 - n % 8 : Nat) : Int) := by rw [wu64, wu64]; omega
  rw [if_pos rfl, w64 (x := 8 * (l.length : Int)) (by omega) (by omega), if_neg (by omega), e0, w64 (x := ((n / 8 : Nat) : Int)) (by omega) (by omega), if_pos (by omega), if_pos (by omega), e1, es, if_pos (by omega), er, w64 (x := (n : Int) + 1) (by omega) (by omega), and_one_u8]
  have : shr .u8 (l.getD (n / 8) 0) ((7 - n % 8 : Nat) : Int) = l.getD (n / 8) 0 / 2 ^ (7 - n % 8) := by
    unfold shr
    rw [Int.toNat_natCast, Nat.min_eq_left]
    show 7 - n % 8 ≤ 8
    omega
  rw [this, hbv]
  congr 1
theorem get_read_loop {l : List Int} (hb : Bytes l) (hl : l.length ≤ 1000) (w : Nat) (hw : w ≤ 64) : ∀ (bs : List Bool) (k : Nat) (pre : List Bool) (n : Nat) (rest : List Bool), pre.length + bs.length = w → (bitsOf l).drop n = bs ++ rest → bs.length < k →
    bits_Reader_Get.l0 k (valA 0 pre) (w : Int) (pre.length : Int) l (n : Int) 0 = some (valA 0 (pre ++ bs), ((n + bs.length : Nat) : Int), 0) := by
  intro bs
  induction bs with
  | nil =>
    intro k pre n rest hp hd hk
    obtain ⟨k, rfl⟩ : ∃ m, k = m + 1 := ⟨k - 1, by omega⟩
    simp only [bits_Reader_Get.l0]
    rw [List.length_nil] at hp
    rw [if_neg (by omega), List.append_nil]; rfl
  | cons b bs ih =>
    intro k pre n rest hp hd hk
    obtain ⟨k, rfl⟩ : ∃ m, k = m + 1 := ⟨k - 1, by omega⟩
    rw [List.length_cons] at hp hk
    obtain ⟨e, hn, hd2⟩ := bit_read hb hl hd
    have hv := val_bound pre.length pre rfl
    have hp64 : (2 : Int) ^ pre.length ≤ 2 ^ 63 := by exact_mod_cast Nat.pow_le_pow_right (n := 2) (by omega) (by omega : pre.length ≤ 63)
    have e2 : IntKind.u64.wrap (valA 0 pre * 2) = valA 0 pre * 2 := by rw [wu64]; omega
    have step := ih k (pre ++ [b]) (n + 1) rest (by rw [List.length_append, List.length_singleton]; omega) hd2 (by omega)
    rw [List.append_assoc, List.singleton_append] at step
    have el : (((pre ++ [b]).length : Nat) : Int) = (pre.length : Int) + 1 := by simp
    rw [val_snoc, el, show n + 1 + bs.length = n + (b :: bs).length from by rw [List.length_cons]; omega] at step
    simp only [bits_Reader_Get.l0]
    rw [if_pos (by omega), e, Option.bind_some]
    simp only []
    rw [e2, or_one_u64 hv.1 (by omega), w64 (by omega) (by omega)]
    cases b
    · rw [if_neg (by simp)]
      rw [show 2 * valA 0 pre + b2i false = valA 0 pre * 2 from by simp only [b2i]; simp; omega] at step
      exact step
    · rw [if_pos rfl]
      rw [show 2 * valA 0 pre + b2i true = valA 0 pre * 2 + 1 from by simp only [b2i]; simp; omega] at step
      exact step
theorem get_read {l : List Int} (hb : Bytes l) (hl : l.length ≤ 1000) {w : Nat} (hw : w ≤ 64) {k : Nat} (hk : 100 ≤ k) {n : Nat} {bs rest : List Bool} (hbs : bs.length = w) (hd : (bitsOf l).drop n = bs ++ rest) :
    bits_Reader_Get.f k l (n : Int) 0 (w : Int) = some (valA 0 bs, ((n + w : Nat) : Int), 0) := by
  unfold bits_Reader_Get.f
  rw [show mx 0 (mn (w : Int) 64) = (w : Int) from by unfold mx mn; split <;> split <;> omega]
  have := get_read_loop hb hl w hw bs k [] n rest (by simpa using hbs) hd (by omega)
  rw [hbs] at this
  exact this
theorem count_read_end {l : List Int} (hb : Bytes l) (hl : l.length ≤ 1000) {k : Nat} (hk : 200 ≤ k) {c : Int} (hc : 0 ≤ c ∧ c ≤ 18446744073709551615) {n : Nat} {rest : List Bool} (hd : (bitsOf l).drop n = putB (clsW (cls c)) c ++ rest) :
    bits_Reader_Count.j1 k CL ((cls c : Nat) : Int) l (n : Int) 0 = some (c, ((n + clsW (cls c) : Nat) : Int), 0) := by
  have h6 := cls_6 c
  obtain ⟨k, rfl⟩ : ∃ m, k = m + 2 := ⟨k - 2, by omega⟩
  have e := get_read hb hl (clsW_le (cls c)) (k := k + 1) (by omega) (putB_len _ _) hd
  rw [val_putB _ _ hc.1 (cls_lt hc.1 hc.2)] at e
  simp only [bits_Reader_Count.j1]
  rw [if_pos (by omega), if_pos (by show ((cls c : Nat) : Int) < 7; omega), rd_CL h6, e, Option.bind_some]
  simp only []
  by_cases c0 : cls c = 0
  · rw [if_neg (by omega)]
    simp only [bits_Reader_Count.j2, Bool.false_eq_true, if_false, if_true]
  · have hnot : ¬ bl c.toNat ≤ clsW (cls c - 1) := fun h => by
      have := (cls_le hc.1 hc.2 (i := cls c - 1) (by omega)).1 h
      omega
    rw [if_pos (by omega), long_val hc.1 hc.2 (by omega), Option.bind_some, w64 (by omega) (by omega), if_pos (by omega), if_pos (by show ((cls c : Nat) : Int) - 1 < 7; omega), show ((cls c : Nat) : Int) - 1 = ((cls c - 1 : Nat) : Int) from by omega, rd_CL (by omega), decide_eq_false (by omega)]
    simp only [bits_Reader_Count.j2, Bool.false_eq_true, if_false, if_true]
theorem count_read_loop {l : List Int} (hb : Bytes l) (hl : l.length ≤ 1000) {c : Int} (hc : 0 ≤ c ∧ c ≤ 18446744073709551615) {rest : List Bool} : ∀ (d k i n : Nat), cls c - i = d → i ≤ cls c → (bitsOf l).drop n = List.replicate d true ++ ((if cls c < 6 then [false] else []) ++ (putB (clsW (cls c)) c ++ rest)) → 200 + d < k →
    bits_Reader_Count.l0 k CL (i : Int) l (n : Int) 0 = some (c, ((n + (d + (if cls c < 6 then 1 else 0)) + clsW (cls c) : Nat) : Int), 0) := by
  have h6 := cls_6 c
  intro d
  induction d with
  | zero =>
    intro k i n hd hi hh hk
    obtain ⟨k, rfl⟩ : ∃ m, k = m + 1 := ⟨k - 1, by omega⟩
    have hic : i = cls c := by omega
    subst hic
    simp only [bits_Reader_Count.l0]
    rw [show wrap64 ((CL.length : Int) - 1) = 6 from by decide +kernel]
    by_cases c6 : cls c < 6
    · rw [if_pos c6, List.replicate_zero, List.nil_append, List.singleton_append] at hh
      obtain ⟨e, _, hd2⟩ := bit_read hb hl hh
      rw [if_pos (by omega), e, Option.bind_some]
      simp only []
      rw [if_neg (by simp), count_read_end hb hl (by omega) hc hd2, if_pos c6]
    · rw [if_neg c6, List.replicate_zero, List.nil_append, List.nil_append] at hh
      rw [if_neg (by omega), count_read_end hb hl (by omega) hc hh, if_neg c6]
      rfl
  | succ d ih =>
    intro k i n hd hi hh hk
    obtain ⟨k, rfl⟩ : ∃ m, k = m + 1 := ⟨k - 1, by omega⟩
    rw [List.replicate_succ, List.cons_append] at hh
    obtain ⟨e, _, hd2⟩ := bit_read hb hl hh
    simp only [bits_Reader_Count.l0]
    rw [show wrap64 ((CL.length : Int) - 1) = 6 from by decide +kernel, if_pos (by omega), e, Option.bind_some]
    simp only []
    rw [if_pos trivial, w64 (by omega) (by omega)]
    have := ih k (i + 1) (n + 1) (by omega) (by omega) hd2 (by omega)
    rw [show ((i + 1 : Nat) : Int) = (i : Int) + 1 from by omega] at this
    rw [this]
    congr 3; omega
/-- a count that stands next is taken -/
theorem count_read {l : List Int} (hb : Bytes l) (hl : l.length ≤ 1000) {k : Nat} (hk : 300 ≤ k) {c : Int} (hc : 0 ≤ c ∧ c ≤ 18446744073709551615) {n : Nat} {rest : List Bool} (hd : (bitsOf l).drop n = encC c ++ rest) :
    bits_Reader_Count.f k l (n : Int) 0 = some (c, ((n + (encC c).length : Nat) : Int), 0) := by
  unfold bits_Reader_Count.f bits_classes.f
  rw [Option.bind_some]
  have h6 := cls_6 c
  unfold encC hdr at hd
  rw [List.append_assoc, List.append_assoc] at hd
  have := count_read_loop hb hl hc (cls c) k 0 n (by omega) (by omega) hd (by omega)
  refine this.trans ?_
  have e : (encC c).length = cls c + (if cls c < 6 then 1 else 0) + clsW (cls c) := by
    unfold encC hdr
    rw [List.length_append, List.length_append, List.length_replicate, putB_len]
    split <;> rfl
  rw [e]
  congr 3; omega
theorem left_val (l : List Int) (hl : l.length ≤ 1000) (n : Nat) (hn : n ≤ 8 * l.length) : bits_Reader_Left.f l (n : Int) 0 = some (((8 * l.length - n : Nat) : Int), (n : Int), 0) := by
  unfold bits_Reader_Left.f
  rw [w64 (x := 8 * (l.length : Int)) (by omega) (by omega), w64 (by omega) (by omega)]
  congr 2; omega
theorem end_loop {l : List Int} (hb : Bytes l) (hl : l.length ≤ 1000) : ∀ (f k n : Nat), n + f = 8 * l.length → (bitsOf l).drop n = List.replicate f false → 2 * f + 2 < k → bits_Reader_End.l0 k l (n : Int) 0 = some (0, ((n + f : Nat) : Int), 0) := by
  intro f
  induction f with
  | zero =>
    intro k n hn hd hk
    obtain ⟨k, rfl⟩ : ∃ m, k = m + 2 := ⟨k - 2, by omega⟩
    simp only [bits_Reader_End.l0]
    rw [if_pos trivial, left_val l hl n (by omega), Option.bind_some]
    simp only []
    rw [decide_eq_false (by omega)]
    simp only [bits_Reader_End.j3, Bool.false_eq_true, if_false]
    rfl
  | succ f ih =>
    intro k n hn hd hk
    obtain ⟨k, rfl⟩ : ∃ m, k = m + 2 := ⟨k - 2, by omega⟩
    rw [List.replicate_succ] at hd
    obtain ⟨e, _, hd2⟩ := bit_read hb hl hd
    simp only [bits_Reader_End.l0]
    rw [if_pos trivial, left_val l hl n (by omega), Option.bind_some]
    simp only []
    rw [decide_eq_true (by omega)]
    simp only [bits_Reader_End.j3, if_true]
    rw [e, Option.bind_some]
    simp only []
    rw [if_neg (by simp), ih k (n + 1) (by omega) hd2 (by omega)]
    congr 3; omega
/-- nothing but noughts, fewer than eight: that is right -/
theorem end_read {l : List Int} (hb : Bytes l) (hl : l.length ≤ 1000) {k n f : Nat} (hk : 50 ≤ k) (hf : f ≤ 7) (hn : n + f = 8 * l.length) (hd : (bitsOf l).drop n = List.replicate f false) : bits_Reader_End.f k l (n : Int) 0 = some (0, ((n + f : Nat) : Int), 0) := by
  unfold bits_Reader_End.f
  rw [if_pos rfl, left_val l hl n (by omega), Option.bind_some]
  simp only []
  rw [decide_eq_false (by omega)]
  obtain ⟨k, rfl⟩ : ∃ m, k = m + 2 := ⟨k - 2, by omega⟩
  simp only [bits_Reader_End.j0, Bool.false_eq_true, if_false, bits_Reader_End.j1]
  exact end_loop hb hl f k n hn hd (by omega)
end Go.Proofs.Ytiihngpenpalaaa.Bt
