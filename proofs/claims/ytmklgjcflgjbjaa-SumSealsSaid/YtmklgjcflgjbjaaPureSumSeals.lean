/- What SumSeals computes is true for every input: sealed bytes are opened as they were, cut or turned ones so far as they are whole. It holds for lists of byte lists, and numbers of their kinds. -/
import Derived.Test.YtmklgjcflgjbjaaQSumSealsx3
import Derived.Test.YtmklgjcflgjbjaaMth
import Derived.Test.YtmklgjcflgjbjaaCrc
namespace Go.Proofs.Ytmklgjcflgjbjaa.Pure.LSumSeals
open Go.RowKit Go.Proofs.Ytmklgjcflgjbjaa Go.Proofs.Ytmklgjcflgjbjaa.QSumSeals Go.Proofs.YtmklgjcflgjbjaaW.PrintWords Go.Proofs.YtmklgjcflgjbjaaW.PrintLast Go.Proofs.YtmklgjcflgjbjaaW.PrintMore Mth _root_.Go.Proofs.Ytmklgjcflgjbjaa.Sum
theorem awake_val : pluviallaw03_awake.f = some true := rfl
/-- the number of four bytes, the lowest first; fewer: as if 0 stood behind -/
def numV (l : List Int) : Int := l.getD 0 0 + 256 * l.getD 1 0 + 65536 * l.getD 2 0 + 16777216 * l.getD 3 0
def Bytes (l : List Int) : Prop := ∀ x ∈ l, 0 ≤ x ∧ x ≤ 255
theorem Bytes.get {l : List Int} (h : Bytes l) (i : Nat) : 0 ≤ l.getD i 0 ∧ l.getD i 0 ≤ 255 := by
  rw [List.getD_eq_getElem?_getD]
  by_cases hi : i < l.length
  · rw [List.getElem?_eq_getElem hi]; exact h _ (List.getElem_mem hi)
  · rw [List.getElem?_eq_none (by omega)]; simp
theorem or_step {n b : Int} (hn : 0 ≤ n ∧ n ≤ 16777215) (hb : 0 ≤ b ∧ b ≤ 255) : Go.bits .or .u32 ((n * 256) % 4294967296) (b % 4294967296) = n * 256 + b := by
  rw [show n * 256 % 4294967296 = n * 2 ^ 8 from by omega, show b % 4294967296 = b from by omega, or_add_u32 hn.1 hb.1 (by omega) (by omega)]; omega
/-- one round -/
theorem num_step {l : List Int} (h : Bytes l) (k i : Nat) (n : Int) (hi : i < l.length) (hn : 0 ≤ n ∧ n ≤ 16777215) (hi3 : i ≤ 3) :
    sum_Number.l0 (k + 1) l n (i : Int) = sum_Number.l0 k l (n * 256 + l.getD i 0) ((i : Int) - 1) := by
  have hb := h.get i
  simp only [sum_Number.l0]
  have er : rd l (i : Int) = l.getD i 0 := by unfold rd; simp
  rw [if_pos (by omega), if_pos (by omega), if_pos (by omega), er, or_step hn hb, w64 (by omega) (by omega)]
theorem num_end (k : Nat) (l : List Int) (n : Int) : sum_Number.l0 (k + 1) l n (-1) = some n := by
  simp only [sum_Number.l0]; rw [if_neg (by omega)]
theorem number_val {l : List Int} (h : Bytes l) {k : Nat} (hk : 6 ≤ k) : sum_Number.f k l = some (numV l) := by
  obtain ⟨k, rfl⟩ : ∃ m, k = m + 6 := ⟨k - 6, by omega⟩
  have g0 := h.get 0
  have g1 := h.get 1
  have g2 := h.get 2
  have g3 := h.get 3
  unfold sum_Number.f numV
  have gz : ∀ i, l.length ≤ i → l.getD i 0 = 0 := by
    intro i hi; rw [List.getD_eq_getElem?_getD, List.getElem?_eq_none hi]; rfl
  by_cases c : 4 ≤ l.length
  · have em : mn (l.length : Int) 4 = 4 := by unfold mn; split <;> omega
    rw [em]
    rw [show (4 : Int) - 1 = ((3 : Nat) : Int) from rfl, num_step h (k + 5) 3 0 (by omega) (by omega) (by omega)]
    rw [show ((3 : Nat) : Int) - 1 = ((2 : Nat) : Int) from rfl, num_step h (k + 4) 2 _ (by omega) (by omega) (by omega)]
    rw [show ((2 : Nat) : Int) - 1 = ((1 : Nat) : Int) from rfl, num_step h (k + 3) 1 _ (by omega) (by omega) (by omega)]
    rw [show ((1 : Nat) : Int) - 1 = ((0 : Nat) : Int) from rfl, num_step h (k + 2) 0 _ (by omega) (by omega) (by omega)]
    rw [show ((0 : Nat) : Int) - 1 = -1 from rfl, num_end]
    congr 1; omega
  · have z3 := gz 3 (by omega)
    have em : mn (l.length : Int) 4 = l.length := by unfold mn; split <;> omega
    rw [em]
    by_cases c2 : l.length = 3
    · rw [c2, show ((3 : Nat) : Int) - 1 = ((2 : Nat) : Int) from rfl, num_step h (k + 5) 2 0 (by omega) (by omega) (by omega)]
      rw [show ((2 : Nat) : Int) - 1 = ((1 : Nat) : Int) from rfl, num_step h (k + 4) 1 _ (by omega) (by omega) (by omega)]
      rw [show ((1 : Nat) : Int) - 1 = ((0 : Nat) : Int) from rfl, num_step h (k + 3) 0 _ (by omega) (by omega) (by omega)]
      rw [show ((0 : Nat) : Int) - 1 = -1 from rfl, num_end]
      congr 1; omega
    · have z2 := gz 2 (by omega)
      by_cases c1 : l.length = 2
      · rw [c1, show ((2 : Nat) : Int) - 1 = ((1 : Nat) : Int) from rfl, num_step h (k + 5) 1 0 (by omega) (by omega) (by omega)]
        rw [show ((1 : Nat) : Int) - 1 = ((0 : Nat) : Int) from rfl, num_step h (k + 4) 0 _ (by omega) (by omega) (by omega)]
        rw [show ((0 : Nat) : Int) - 1 = -1 from rfl, num_end]
        congr 1; omega
      · have z1 := gz 1 (by omega)
        by_cases c0 : l.length = 1
        · rw [c0, show ((1 : Nat) : Int) - 1 = ((0 : Nat) : Int) from rfl, num_step h (k + 5) 0 0 (by omega) (by omega) (by omega)]
          rw [show ((0 : Nat) : Int) - 1 = -1 from rfl, num_end]
          congr 1; omega
        · have z0 := gz 0 (by omega)
          rw [show (l.length : Int) - 1 = -1 from by omega, num_end]
          congr 1; omega
/-- four bytes of a number -/
def four (n : Int) : List Int := [n % 256, n / 256 % 256, n / 65536 % 256, n / 16777216 % 256]
theorem four_bytes (n : Int) : Bytes (four n) := by
  intro x hx; simp only [four, List.mem_cons, List.not_mem_nil, or_false] at hx; omega
theorem four_num {n : Int} (h : 0 ≤ n ∧ n ≤ 4294967295) (r : List Int) : numV (four n ++ r) = n := by
  simp only [numV, four, List.cons_append, List.getD_cons_zero, List.getD_cons_succ]; omega
theorem str_toList (l : List Int) : (strOfNums l).toList = l.map fun n => UInt8.ofNat n.toNat := by
  rw [ByteArray.toList_eq]; simp [strOfNums]
theorem str_inj {a b : List Int} (ha : Bytes a) (hb : Bytes b) (h : (strOfNums a).toList = (strOfNums b).toList) : a = b := by
  rw [str_toList, str_toList] at h
  induction a generalizing b with
  | nil => cases b with
    | nil => rfl
    | cons y b => simp at h
  | cons x a ih => cases b with
    | nil => simp at h
    | cons y b =>
      simp only [List.map_cons, List.cons.injEq] at h
      have hx := ha x (by simp)
      have hy := hb y (by simp)
      have e := congrArg UInt8.toNat h.1
      simp only [UInt8.toNat_ofNat'] at e
      rw [ih (fun z hz => ha z (List.mem_cons_of_mem _ hz)) (fun z hz => hb z (List.mem_cons_of_mem _ hz)) h.2]
      congr 1; omega
theorem sumOf_val {l : List (List Int)} (h : Bytes l.flatten) : sum_Of.f l = some (4294967295 - ((crcB (BitVec.allOnes 32) l.flatten).toNat : Int)) := congrArg some (sum_val h)
def crcV (l : List Int) : Int := 4294967295 - ((crcB (BitVec.allOnes 32) l).toNat : Int)
def innerV (b : List Int) : List Int := (b.take (8 + (numV b).toNat)).drop 8
def openV (b : List Int) : List Int × List Int × Int :=
  if b.length < 8 then ([], [], 7) else if b.length - 8 < (numV b).toNat then ([], [], 7)
  else if crcV (b.take 4 ++ innerV b) = numV (b.drop 4) then (innerV b, b.drop (8 + (numV b).toNat), 0) else ([], [], 8)
theorem Bytes.take {l : List Int} (h : Bytes l) (n : Nat) : Bytes (l.take n) := fun x hx => h x (List.mem_of_mem_take hx)
theorem Bytes.drop {l : List Int} (h : Bytes l) (n : Nat) : Bytes (l.drop n) := fun x hx => h x (List.mem_of_mem_drop hx)
theorem Bytes.append {a b : List Int} (ha : Bytes a) (hb : Bytes b) : Bytes (a ++ b) := fun x hx => (List.mem_append.1 hx).elim (ha x) (hb x)
theorem numV_bound {l : List Int} (h : Bytes l) : 0 ≤ numV l ∧ numV l ≤ 4294967295 := by
  have g0 := h.get 0
  have g1 := h.get 1
  have g2 := h.get 2
  have g3 := h.get 3
  unfold numV; omega
theorem innerV_len {b : List Int} (h8 : 8 ≤ b.length) (h : ¬ b.length - 8 < (numV b).toNat) : (innerV b).length = (numV b).toNat := by
  unfold innerV
  rw [List.length_drop, List.length_take]; omega
theorem open_val {b : List Int} (hb : Bytes b) (hl : b.length ≤ 100000) {k : Nat} (hk : 10 ≤ k) : sum_Open.f k b = some (openV b) := by
  unfold sum_Open.f openV
  have hn := numV_bound hb
  by_cases c8 : b.length < 8
  · rw [if_pos (by omega), if_pos c8]
  rw [if_neg (by omega), if_neg c8, number_val hb (by omega), Option.bind_some, wu64, wu64, w64 (by omega) (by omega)]
  by_cases cn : b.length - 8 < (numV b).toNat
  · rw [if_pos (by omega), if_pos cn]
  have e8 : IntKind.u64.wrap (8 + numV b % 18446744073709551616) = ((8 + (numV b).toNat : Nat) : Int) := by rw [wu64]; omega
  have hin := innerV_len (by omega) cn
  rw [if_neg (by omega), if_neg cn, e8, if_pos (by omega), if_pos (by omega), Option.bind_some, Int.toNat_natCast, if_pos (by omega)]
  rw [show List.drop 8 (List.take (8 + (numV b).toNat) b) = innerV b from rfl]
  have hbi : Bytes (innerV b) := (hb.take _).drop _
  have e1 : ([b.take 4, innerV b] : List (List Int)).flatten = b.take 4 ++ innerV b := by simp
  rw [sumOf_val (by rw [e1]; exact (hb.take 4).append hbi), Option.bind_some, e1, number_val (hb.drop 4) (by omega), Option.bind_some]
  rw [show (4294967295 - ((crcB (BitVec.allOnes 32) (b.take 4 ++ innerV b)).toNat : Int)) = crcV (b.take 4 ++ innerV b) from rfl]
  by_cases cc : crcV (b.take 4 ++ innerV b) = numV (b.drop 4)
  · rw [if_pos cc, if_pos cc, if_pos (by rw [List.length_nil, hin]; omega), if_pos (by omega), Option.bind_some, if_pos (by rw [List.length_nil, List.length_drop]; omega)]
    simp only [List.nil_append]
  · rw [if_neg cc, if_neg cc]
/-- what an opened one is -/
theorem openV_ok {b : List Int} (h : (openV b).2.2 = 0) : 8 + (openV b).1.length ≤ b.length ∧ (openV b).2.1 = b.drop (8 + (openV b).1.length) := by
  unfold openV at h ⊢
  by_cases c8 : b.length < 8
  · rw [if_pos c8] at h; exact absurd h (by decide)
  rw [if_neg c8] at h ⊢
  by_cases cn : b.length - 8 < (numV b).toNat
  · rw [if_pos cn] at h; exact absurd h (by decide)
  rw [if_neg cn] at h ⊢
  have hin := innerV_len (by omega) cn
  by_cases cc : crcV (b.take 4 ++ innerV b) = numV (b.drop 4)
  · rw [if_pos cc]
    refine ⟨?_, ?_⟩
    · show 8 + (innerV b).length ≤ b.length
      omega
    · show b.drop (8 + (numV b).toNat) = b.drop (8 + (innerV b).length)
      rw [hin]
  · rw [if_neg cc] at h; exact absurd h (by decide)
def allGo : Nat → List Int → List (List Int) × Nat × Int
  | 0, _ => ([], 0, 0)
  | n + 1, b => if b = [] then ([], 0, 0) else if (openV b).2.2 = 0 then ((openV b).1 :: (allGo n (openV b).2.1).1, 8 + (openV b).1.length + (allGo n (openV b).2.1).2.1, (allGo n (openV b).2.1).2.2) else ([], 0, (openV b).2.2)
theorem all_loop {b : List Int} (hb : Bytes b) (hl : b.length ≤ 100000) : ∀ (d k n : Nat) (acc : List (List Int)), b.length - n ≤ d → n ≤ b.length → acc.length ≤ n → 20 + d ≤ k →
    sum_All.l0 k b acc (n : Int) = some (acc ++ (allGo d (b.drop n)).1, ((n + (allGo d (b.drop n)).2.1 : Nat) : Int), (allGo d (b.drop n)).2.2) := by
  intro d
  induction d with
  | zero =>
    intro k n acc hd hn ha hk
    obtain ⟨k, rfl⟩ : ∃ m, k = m + 1 := ⟨k - 1, by omega⟩
    simp only [sum_All.l0, allGo]
    rw [if_neg (by omega)]; simp
  | succ d ih =>
    intro k n acc hd hn ha hk
    obtain ⟨k, rfl⟩ : ∃ m, k = m + 1 := ⟨k - 1, by omega⟩
    simp only [sum_All.l0, allGo]
    by_cases ce : b.drop n = []
    · have : b.length ≤ n := List.drop_eq_nil_iff.1 ce
      rw [if_neg (by omega), if_pos ce]; simp
    · have hlt : n < b.length := by
        rcases Nat.lt_or_ge n b.length with h | h
        · exact h
        · exact absurd (List.drop_eq_nil_of_le h) ce
      rw [if_pos (by omega), if_pos (by omega), if_pos (by omega), Int.toNat_natCast, open_val (hb.drop n) (by rw [List.length_drop]; omega) (by omega), Option.bind_some, if_neg ce]
      by_cases c0 : (openV (b.drop n)).2.2 = 0
      · obtain ⟨g1, g2⟩ := openV_ok c0
        rw [List.length_drop] at g1
        rw [List.drop_drop] at g2
        rw [if_pos c0, if_pos (by omega), if_pos c0, w64 (x := 8 + ((openV (b.drop n)).1.length : Int)) (by omega) (by omega), w64 (by omega) (by omega), g2]
        rw [show (n : Int) + (8 + ((openV (b.drop n)).1.length : Int)) = ((n + (8 + (openV (b.drop n)).1.length) : Nat) : Int) from by omega]
        rw [ih k (n + (8 + (openV (b.drop n)).1.length)) (acc ++ [(openV (b.drop n)).1]) (by omega) (by omega) (by simp; omega) (by omega)]
        rw [List.append_assoc, Nat.add_assoc]
        simp only [List.cons_append, List.nil_append]
      · rw [if_neg c0, if_neg c0]; simp
theorem allGo_nil (d : Nat) : allGo d [] = ([], 0, 0) := by cases d <;> rfl
theorem allGo_ok (d : Nat) {b : List Int} (hb : b ≠ []) (h : (openV b).2.2 = 0) : allGo (d + 1) b = ((openV b).1 :: (allGo d (openV b).2.1).1, 8 + (openV b).1.length + (allGo d (openV b).2.1).2.1, (allGo d (openV b).2.1).2.2) := by
  rw [allGo, if_neg hb, if_pos h]
theorem allGo_bad (d : Nat) {b : List Int} (hb : b ≠ []) (h : ¬ (openV b).2.2 = 0) : allGo (d + 1) b = ([], 0, (openV b).2.2) := by
  rw [allGo, if_neg hb, if_neg h]
theorem all_val {b : List Int} (hb : Bytes b) (hl : b.length ≤ 100000) {d k : Nat} (hd : b.length ≤ d) (hk : 20 + d ≤ k) : sum_All.f k b = some ((allGo d b).1, ((allGo d b).2.1 : Int), (allGo d b).2.2) := by
  have h := all_loop hb hl d k 0 [] (by omega) (by omega) (by simp) hk
  rw [List.drop_zero, List.nil_append, Nat.zero_add] at h
  exact h
def sealV (b : List Int) : List Int := four (b.length : Int) ++ (four (crcV (four (b.length : Int) ++ b)) ++ b)
def sealsV (l : List (List Int)) : List Int := (l.map sealV).flatten
theorem crcV_bound (l : List Int) : 0 ≤ crcV l ∧ crcV l ≤ 4294967295 := by
  unfold crcV
  have := bvlt (crcB (BitVec.allOnes 32) l)
  omega
theorem seal_bytes {b : List Int} (h : Bytes b) : Bytes (sealV b) := Bytes.append (four_bytes _) (Bytes.append (four_bytes _) h)
theorem seals_bytes {l : List (List Int)} (h : ∀ x ∈ l, Bytes x) : Bytes (sealsV l) := by
  intro y hy
  unfold sealsV at hy
  rw [List.mem_flatten] at hy
  obtain ⟨s, hs, hy⟩ := hy
  rw [List.mem_map] at hs
  obtain ⟨x, hx, rfl⟩ := hs
  exact seal_bytes (h x hx) y hy
theorem four_len (n : Int) : (four n).length = 4 := rfl
theorem seal_len (b : List Int) : (sealV b).length = 8 + b.length := by
  unfold sealV
  rw [List.length_append, List.length_append, four_len, four_len]; omega
theorem seal_val {b : List Int} (h : Bytes b) (hl : b.length ≤ 200) : sum_Seal.f b = some (sealV b) := by
  unfold sum_Seal.f
  have f4 : ∀ n, sum_Four.f n = some (four n) := fun n => rfl
  have e1 : ([four (b.length : Int), b] : List (List Int)).flatten = four (b.length : Int) ++ b := by simp
  rw [f4, Option.bind_some, show (b.length : Int) % 4294967296 = (b.length : Int) from by omega, if_pos (by rw [four_len]; decide), Option.bind_some, sumOf_val (by rw [e1]; exact Bytes.append (four_bytes _) h), Option.bind_some, e1, f4, Option.bind_some]
  rw [List.nil_append, if_pos (by rw [four_len, four_len]; decide), Option.bind_some, if_pos (by rw [List.length_append, four_len, four_len]; omega), List.append_assoc]
  rfl
/-- a sealed one is opened -/
theorem openV_seal {x : List Int} (hx : x.length ≤ 200) (rest : List Int) : openV (sealV x ++ rest) = (x, rest, 0) := by
  have hn : numV (sealV x ++ rest) = (x.length : Int) := by
    unfold sealV; rw [List.append_assoc]; exact four_num (by omega) _
  have hd4 : numV ((sealV x ++ rest).drop 4) = crcV (four (x.length : Int) ++ x) := by
    unfold sealV
    rw [List.append_assoc, List.drop_left' (four_len _), List.append_assoc]
    exact four_num (crcV_bound _) _
  have ht4 : (sealV x ++ rest).take 4 = four (x.length : Int) := by
    unfold sealV
    rw [List.append_assoc, List.take_left' (four_len _)]
  have h8 : (sealV x ++ rest).drop 8 = x ++ rest := by
    unfold sealV
    rw [← List.append_assoc, List.append_assoc _ x rest, List.drop_left' (by rw [List.length_append, four_len, four_len])]
  have hi : innerV (sealV x ++ rest) = x := by
    unfold innerV
    rw [hn, Int.toNat_natCast, List.drop_take, h8, List.take_left' (by omega)]
  unfold openV
  rw [if_neg (by rw [List.length_append, seal_len]; omega), hn, Int.toNat_natCast, if_neg (by rw [List.length_append, seal_len]; omega), ht4, hi, hd4, if_pos rfl]
  congr 2
  rw [← List.drop_drop, h8, List.drop_left' rfl]
/-- the beginning of a sealed one isn't -/
theorem openV_cut {x : List Int} (hx : x.length ≤ 200) {p : Nat} (hp : p < 8 + x.length) : (openV ((sealV x).take p)).2.2 = 7 := by
  have hl : ((sealV x).take p).length = p := by rw [List.length_take, seal_len]; omega
  unfold openV
  by_cases c : p < 8
  · rw [if_pos (by rw [hl]; exact c)]
  have hn : numV ((sealV x).take p) = (x.length : Int) := by
    unfold sealV
    rw [List.take_append, List.take_of_length_le (by rw [four_len]; omega)]
    exact four_num (by omega) _
  rw [if_neg (by rw [hl]; exact c), if_pos (by rw [hl, hn, Int.toNat_natCast]; omega)]
theorem num_turn (c v : Int) (j : Nat) (hj : j < 4) (r : List Int) (hc : 0 ≤ c ∧ c ≤ 4294967295) (hne : (four c).getD j 0 ≠ v) : numV ((four c).set j v ++ r) ≠ c := by
  rcases j with _ | _ | _ | _ | j
  · simp only [four, List.set, numV, List.cons_append, List.getD_cons_zero, List.getD_cons_succ] at hne ⊢; omega
  · simp only [four, List.set, numV, List.cons_append, List.getD_cons_zero, List.getD_cons_succ] at hne ⊢; omega
  · simp only [four, List.set, numV, List.cons_append, List.getD_cons_zero, List.getD_cons_succ] at hne ⊢; omega
  · simp only [four, List.set, numV, List.cons_append, List.getD_cons_zero, List.getD_cons_succ] at hne ⊢; omega
  · omega
theorem set_split {x : List Int} {j : Nat} (hj : j < x.length) (v : Int) : x.set j v = x.take j ++ v :: x.drop (j + 1) := List.set_eq_take_append_cons_drop .. |>.trans (if_pos hj)
theorem crc_turn {a x : List Int} {j : Nat} {v : Int} (hx : Bytes x) (hv : 0 ≤ v ∧ v ≤ 255) (hj : j < x.length) (hne : x.getD j 0 ≠ v) : crcV (a ++ x.set j v) ≠ crcV (a ++ x) := by
  have e : x = x.take j ++ x[j] :: x.drop (j + 1) := by rw [← List.drop_eq_getElem_cons hj, List.take_append_drop]
  have hg : x.getD j 0 = x[j] := by rw [List.getD_eq_getElem?_getD, List.getElem?_eq_getElem hj]; rfl
  rw [hg] at hne
  intro h
  have hB := hx x[j] (List.getElem_mem hj)
  have := crcB_turn (pre := a ++ x.take j) (post := x.drop (j + 1)) hv hB (fun h => hne h.symm) (BitVec.allOnes 32)
  rw [List.append_assoc, List.append_assoc, ← set_split hj, ← e] at this
  apply this
  unfold crcV at h
  apply BitVec.eq_of_toNat_eq
  omega
/-- a byte turned in a sealed one, not one that says how many there are -/
theorem openV_turn {x : List Int} (hx : x.length ≤ 200) (hb : Bytes x) {q : Nat} {v : Int} (h4 : 4 ≤ q) (hq : q < 8 + x.length) (hv : 0 ≤ v ∧ v ≤ 255) (hne : (sealV x).getD q 0 ≠ v) (rest : List Int) : (openV ((sealV x).set q v ++ rest)).2.2 = 8 := by
  have hl : ((sealV x).set q v ++ rest).length = 8 + x.length + rest.length := by rw [List.length_append, List.length_set, seal_len]
  have es : (sealV x).set q v = four (x.length : Int) ++ (four (crcV (four (x.length : Int) ++ x)) ++ x).set (q - 4) v := by
    unfold sealV
    rw [List.set_append, if_neg (by rw [four_len]; omega), four_len]
  have eg : (sealV x).getD q 0 = (four (crcV (four (x.length : Int) ++ x)) ++ x).getD (q - 4) 0 := by
    unfold sealV
    rw [List.getD_eq_getElem?_getD, List.getD_eq_getElem?_getD, List.getElem?_append_right (by rw [four_len]; omega), four_len]
  have hn : numV ((sealV x).set q v ++ rest) = (x.length : Int) := by
    rw [es, List.append_assoc]; exact four_num (by omega) _
  have ht4 : ((sealV x).set q v ++ rest).take 4 = four (x.length : Int) := by
    rw [es, List.append_assoc, List.take_left' (four_len _)]
  have hd4 : ((sealV x).set q v ++ rest).drop 4 = (four (crcV (four (x.length : Int) ++ x)) ++ x).set (q - 4) v ++ rest := by
    rw [es, List.append_assoc, List.drop_left' (four_len _)]
  have hd8 : ((sealV x).set q v ++ rest).drop 8 = ((four (crcV (four (x.length : Int) ++ x)) ++ x).set (q - 4) v ++ rest).drop 4 := by
    rw [← hd4, List.drop_drop]
  have hi : innerV ((sealV x).set q v ++ rest) = (((four (crcV (four (x.length : Int) ++ x)) ++ x).set (q - 4) v ++ rest).drop 4).take x.length := by
    unfold innerV
    rw [hn, Int.toNat_natCast, List.drop_take, hd8]
    congr 1; omega
  have hb' := crcV_bound (four (x.length : Int) ++ x)
  unfold openV
  rw [if_neg (by rw [hl]; omega), hn, Int.toNat_natCast, if_neg (by rw [hl]; omega), ht4, hi, hd4]
  generalize hC : crcV (four (x.length : Int) ++ x) = C at *
  by_cases c : q < 8
  · have e1 : (four C ++ x).set (q - 4) v = (four C).set (q - 4) v ++ x := by rw [List.set_append, if_pos (by rw [four_len]; omega)]
    rw [e1, List.append_assoc, List.drop_left' (by rw [List.length_set, four_len]), List.take_left' rfl, hC]
    rw [if_neg (fun h => num_turn C v (q - 4) (by omega) (x ++ rest) hb' (by
      intro h2; apply hne; rw [eg, ← h2, List.getD_eq_getElem?_getD, List.getD_eq_getElem?_getD, List.getElem?_append_left (by rw [four_len]; omega)]) h.symm)]
  · have e1 : (four C ++ x).set (q - 4) v = four C ++ x.set (q - 8) v := by
      rw [List.set_append, if_neg (by rw [four_len]; omega), four_len]; congr 2
    rw [e1, List.append_assoc, List.drop_left' (four_len _), List.take_left' (by rw [List.length_set]), four_num hb']
    rw [if_neg]
    intro h
    rw [← hC] at h
    refine crc_turn hb hv (j := q - 8) (by omega) ?_ h
    intro h2; apply hne
    rw [eg, ← h2, List.getD_eq_getElem?_getD, List.getD_eq_getElem?_getD, List.getElem?_append_right (by rw [four_len]; omega), four_len, show q - 4 - 4 = q - 8 from by omega]
theorem seals_nil : sealsV [] = [] := rfl
theorem seals_cons (x : List Int) (l : List (List Int)) : sealsV (x :: l) = sealV x ++ sealsV l := rfl
theorem seals_append (a b : List (List Int)) : sealsV (a ++ b) = sealsV a ++ sealsV b := by unfold sealsV; simp
/-- sealed ones ahead of something -/
theorem all_seals : ∀ (l : List (List Int)) (rest : List Int) (d : Nat), (∀ x ∈ l, x.length ≤ 200) → allGo (d + l.length) (sealsV l ++ rest) = (l ++ (allGo d rest).1, (sealsV l).length + (allGo d rest).2.1, (allGo d rest).2.2)
  | [], rest, d, _ => by simp [seals_nil]
  | x :: l, rest, d, h => by
    have ho := openV_seal (h x (by simp)) (sealsV l ++ rest)
    have ih := all_seals l rest d (fun y hy => h y (List.mem_cons_of_mem _ hy))
    rw [seals_cons, List.append_assoc, show d + (x :: l).length = (d + l.length) + 1 from by simp; omega]
    rw [allGo_ok _ (by intro h0; have := congrArg List.length h0; rw [List.length_append, seal_len, List.length_nil] at this; omega) (by rw [ho]), ho]
    simp only []
    rw [ih]
    simp only [List.cons_append, List.length_append, seal_len]
    congr 2; omega
theorem seals_len : ∀ (l : List (List Int)), (∀ x ∈ l, x.length ≤ 200) → (sealsV l).length ≤ 208 * l.length
  | [], _ => by simp [seals_nil]
  | x :: l, h => by
    have := seals_len l (fun y hy => h y (List.mem_cons_of_mem _ hy))
    have := h x (by simp)
    rw [seals_cons, List.length_append, seal_len, List.length_cons]; omega
def start (l : List (List Int)) (i : Nat) : Nat := (sealsV (l.take i)).length
theorem seals_split {l : List (List Int)} {i : Nat} (hi : i < l.length) : sealsV l = sealsV (l.take i) ++ (sealV l[i] ++ sealsV (l.drop (i + 1))) := by
  rw [← seals_cons, ← List.drop_eq_getElem_cons hi, ← seals_append, List.take_append_drop]
theorem start_succ {l : List (List Int)} {i : Nat} (hi : i < l.length) : start l (i + 1) = start l i + (8 + l[i].length) := by
  unfold start
  rw [List.take_succ_eq_append_getElem hi, seals_append, List.length_append, seals_cons, seals_nil, List.append_nil, seal_len]
theorem start_all (l : List (List Int)) : start l l.length = (sealsV l).length := by unfold start; rw [List.take_length]
theorem start_le {l : List (List Int)} (i : Nat) : start l i ≤ (sealsV l).length := by
  unfold start
  have : sealsV l = sealsV (l.take i) ++ sealsV (l.drop i) := by rw [← seals_append, List.take_append_drop]
  rw [this, List.length_append]; omega
/-- a beginning of sealed ones -/
theorem all_cut {l : List (List Int)} (h : ∀ x ∈ l, x.length ≤ 200) {c i : Nat} (hi : i < l.length) (h0 : start l i ≤ c) (h1 : c < start l (i + 1)) (d : Nat) :
    ∃ e : Int, allGo (d + 1 + i) ((sealsV l).take c) = (l.take i, start l i, e) ∧ (e = 0 ↔ start l i = c) := by
  rw [start_succ hi] at h1
  have hti : (l.take i).length = i := by rw [List.length_take]; omega
  have e1 : (sealsV l).take c = sealsV (l.take i) ++ (sealV l[i]).take (c - start l i) := by
    have hs : (sealsV (l.take i)).length = start l i := rfl
    rw [seals_split hi, List.take_append, List.take_of_length_le (by rw [hs]; exact h0), hs, List.take_append, seal_len, show c - start l i - (8 + l[i].length) = 0 from by omega, List.take_zero, List.append_nil]
  have hall := all_seals (l.take i) ((sealV l[i]).take (c - start l i)) (d + 1) (fun x hx => h x (List.mem_of_mem_take hx))
  rw [hti, ← e1] at hall
  by_cases c0 : start l i = c
  · refine ⟨0, ?_, by simp [c0]⟩
    rw [hall, show c - start l i = 0 from by omega, List.take_zero, allGo_nil, List.append_nil]; rfl
  · refine ⟨7, ?_, by simp [c0]⟩
    have ho := openV_cut (x := l[i]) (h _ (List.getElem_mem hi)) (p := c - start l i) (by omega)
    rw [hall, allGo_bad d (by intro h0; have := congrArg List.length h0; rw [List.length_take, seal_len, List.length_nil] at this; omega) (by rw [ho]; decide), ho, List.append_nil]; rfl
/-- all of sealed ones -/
theorem all_whole {l : List (List Int)} (h : ∀ x ∈ l, x.length ≤ 200) (d : Nat) : allGo (d + l.length) (sealsV l) = (l, (sealsV l).length, 0) := by
  have := all_seals l [] d h
  rw [List.append_nil, allGo_nil, List.append_nil] at this
  exact this
/-- one byte turned -/
theorem all_turn {l : List (List Int)} (h : ∀ x ∈ l, x.length ≤ 200) (hb : ∀ x ∈ l, Bytes x) {p i : Nat} {v : Int} (hi : i < l.length) (h0 : start l i + 4 ≤ p) (h1 : p < start l (i + 1)) (hv : 0 ≤ v ∧ v ≤ 255) (hne : (sealsV l).getD p 0 ≠ v) (d : Nat) :
    allGo (d + 1 + i) ((sealsV l).set p v) = (l.take i, start l i, 8) := by
  rw [start_succ hi] at h1
  have hti : (l.take i).length = i := by rw [List.length_take]; omega
  have hs : (sealsV (l.take i)).length = start l i := rfl
  have e1 : (sealsV l).set p v = sealsV (l.take i) ++ ((sealV l[i]).set (p - start l i) v ++ sealsV (l.drop (i + 1))) := by
    rw [seals_split hi, List.set_append, if_neg (by rw [hs]; omega), hs, List.set_append, if_pos (by rw [seal_len]; omega)]
  have eg : (sealsV l).getD p 0 = (sealV l[i]).getD (p - start l i) 0 := by
    rw [seals_split hi, List.getD_eq_getElem?_getD, List.getElem?_append_right (by rw [hs]; omega), hs, List.getElem?_append_left (by rw [seal_len]; omega), List.getD_eq_getElem?_getD]
  rw [eg] at hne
  have ho := openV_turn (h _ (List.getElem_mem hi)) (hb _ (List.getElem_mem hi)) (q := p - start l i) (by omega) (by omega) hv hne (sealsV (l.drop (i + 1)))
  have hall := all_seals (l.take i) ((sealV l[i]).set (p - start l i) v ++ sealsV (l.drop (i + 1))) (d + 1) (fun x hx => h x (List.mem_of_mem_take hx))
  rw [hti, ← e1] at hall
  rw [hall, allGo_bad d (by intro h0; have := congrArg List.length h0; rw [List.length_append, List.length_set, seal_len, List.length_nil] at this; omega) (by rw [ho]; decide), ho, List.append_nil]; rfl
theorem check_loop {l got : List (List Int)} (hg : got.length ≤ l.length) (hl : l.length ≤ 1000) (he : ∀ i : Nat, i < got.length → got.getD i [] = l.getD i []) : ∀ (d n k : Nat), got.length - n ≤ d → n ≤ got.length → d < k → pluviallaw03_SumSeals_1.l0 k l got (got.length : Int) (n : Int) = some true := by
  intro d
  induction d with
  | zero =>
    intro n k hd hn hk
    obtain ⟨k, rfl⟩ : ∃ m, k = m + 1 := ⟨k - 1, by omega⟩
    simp only [pluviallaw03_SumSeals_1.l0]
    rw [if_neg (by omega)]
  | succ d ih =>
    intro n k hd hn hk
    obtain ⟨k, rfl⟩ : ∃ m, k = m + 1 := ⟨k - 1, by omega⟩
    simp only [pluviallaw03_SumSeals_1.l0]
    by_cases c : n < got.length
    · have er : rd_L1 got (n : Int) = rd_L1 l (n : Int) := by unfold rd_L1; rw [Int.toNat_natCast]; exact he n c
      rw [if_pos (by omega), if_pos (by omega), if_pos (by omega), if_pos (by omega), er, if_pos rfl, w64 (by omega) (by omega)]
      exact ih (n + 1) k (by omega) (by omega) (by omega)
    · rw [if_neg (by omega)]
theorem check_val {l : List (List Int)} {b : List Int} (hb : Bytes b) (hbl : b.length ≤ 10000) (hl : l.length ≤ 1000) {n y d k : Nat} {e : Int} (hn : n ≤ l.length) (ha : allGo d b = (l.take n, y, e)) (he : e = 0 ↔ y = b.length) (hd : b.length ≤ d) (hk : 2000 + d ≤ k) :
    pluviallaw03_SumSeals_1.f k b (n : Int) l = some true := by
  have htn : (l.take n).length = n := by rw [List.length_take]; omega
  unfold pluviallaw03_SumSeals_1.f
  rw [all_val hb (by omega) hd (by omega), Option.bind_some, ha]
  simp only []
  rw [htn, if_pos rfl]
  have hx : ((e == 0) != ((y : Int) == (b.length : Int))) = false := by
    by_cases c : e = 0
    · rw [c, he.1 c]; simp
    · have hy : ¬ y = b.length := fun h => c (he.2 h)
      rw [beq_eq_false_iff_ne.2 c, beq_eq_false_iff_ne.2 (by omega)]; rfl
  rw [hx]
  obtain ⟨k, rfl⟩ : ∃ m, k = m + 1 := ⟨k - 1, by omega⟩
  simp only [pluviallaw03_SumSeals_1.j0, Bool.false_eq_true, if_false]
  exact check_loop (by omega) hl (fun i hi => by
    rw [List.getD_eq_getElem?_getD, List.getD_eq_getElem?_getD, List.getElem?_take, if_pos (by omega)]) n 0 k (by omega) (by omega) (by omega)
/-- where the sealed ones end -/
def Ends (l : List (List Int)) (n : Nat) (x : List Int) : Prop := x.length = n ∧ ∀ i, i < n → x.getD i 0 = (start l (i + 1) : Int)
theorem ends_rd {l : List (List Int)} {n : Nat} {x : List Int} (h : Ends l n x) {i : Nat} (hi : i < n) : rd x (i : Int) = (start l (i + 1) : Int) := by
  have e : rd x (i : Int) = x.getD i 0 := by unfold rd; rw [Int.toNat_natCast]
  rw [e]; exact h.2 i hi
theorem xor_ne {x v : Int} (hx : 0 ≤ x ∧ x ≤ 255) (hv : 0 ≤ v ∧ v ≤ 255) (h0 : v ≠ 0) : x ≠ Go.bits .xor .u8 x v := by
  intro h
  have e := xor_u8 (a := x) (b := v) (by omega) (by omega)
  rw [← h] at e
  have e2 : bv v = 0#32 := by
    have e3 := congrArg (fun z => bv x ^^^ z) e
    simp only [BitVec.xor_self, ← BitVec.xor_assoc, BitVec.zero_xor] at e3
    exact e3.symm
  have := bv_inj (a := v) (b := 0) (by omega) (by omega) (by rw [e2]; rfl)
  omega
theorem law_j6 {l : List (List Int)} (hl : l.length ≤ 20) (h : ∀ x ∈ l, x.length ≤ 200) (hb : ∀ x ∈ l, Bytes x) {a3 : Int} (ha3 : 0 ≤ a3 ∧ a3 ≤ 255) {i p : Nat} {t : Bool} (hi : i < l.length) (h1 : p < start l (i + 1)) (ht : t = false → a3 ≠ 0 ∧ start l i + 4 ≤ p) {k : Nat} (hk : 20000 ≤ k) :
    pluviallaw03_SumSeals.j6 k a3 (sealsV l) (p : Int) (i : Int) t = some true := by
  obtain ⟨k, rfl⟩ : ∃ m, k = m + 1 := ⟨k - 1, by omega⟩
  simp only [pluviallaw03_SumSeals.j6]
  cases t with
  | true => rw [if_pos rfl, awake_val]; rfl
  | false =>
    obtain ⟨g0, g4⟩ := ht rfl
    have hlen := seals_len l h
    have hsl := start_le (l := l) (i + 1)
    have hBs := seals_bytes hb
    rw [if_neg (by decide), Option.bind_some, List.nil_append, if_pos (by rw [List.length_nil]; omega), Option.bind_some, if_pos (by omega), if_pos (by omega), Int.toNat_natCast]
    have hrd : rd (sealsV l) (p : Int) = (sealsV l).getD p 0 := by unfold rd; rw [Int.toNat_natCast]
    rw [hrd]
    have hg := hBs.get p
    have hv := xor8_bound ((sealsV l).getD p 0) a3
    have hn := xor_ne hg ha3 g0
    have hset : Bytes ((sealsV l).set p (Go.bits .xor .u8 ((sealsV l).getD p 0) a3)) := by
      intro x hx
      rcases List.mem_or_eq_of_mem_set hx with hx | rfl
      · exact hBs x hx
      · omega
    have ht := all_turn h hb hi g4 h1 (v := Go.bits .xor .u8 ((sealsV l).getD p 0) a3) (by omega) hn 5000
    rw [all_val hset (by rw [List.length_set]; omega) (d := 5000 + 1 + i) (by rw [List.length_set]; omega) (by omega), Option.bind_some, ht, awake_val, Option.bind_some, if_pos rfl]
    simp only []
    rw [if_pos (by rw [List.length_take]; omega)]
    rfl
theorem law_l2 {l : List (List Int)} (hl : l.length ≤ 20) (h : ∀ x ∈ l, x.length ≤ 200) (hb : ∀ x ∈ l, Bytes x) {ends : List Int} (hE : Ends l l.length ends) {a3 : Int} (ha3 : 0 ≤ a3 ∧ a3 ≤ 255) {p : Nat} (hp : p < (sealsV l).length) : ∀ (d i k : Nat), l.length - i ≤ d → i < l.length → start l i ≤ p → 20001 + d ≤ k → pluviallaw03_SumSeals.l2 k a3 (sealsV l) ends (p : Int) (i : Int) (start l i : Int) = some true := by
  intro d
  induction d with
  | zero => intro i k hd hi _ _; omega
  | succ d ih =>
    intro i k hd hi h0 hk
    obtain ⟨k, rfl⟩ : ∃ m, k = m + 1 := ⟨k - 1, by omega⟩
    simp only [pluviallaw03_SumSeals.l2]
    have hlen := seals_len l h
    have hsl := start_le (l := l) (i + 1)
    rw [if_pos (by omega), if_pos (by rw [hE.1]; omega), ends_rd hE hi]
    by_cases c : start l (i + 1) ≤ p
    · rw [if_pos (by omega), w64 (by omega) (by omega)]
      have hlt : i + 1 < l.length := by
        rcases Nat.lt_or_ge (i + 1) l.length with g | g
        · exact g
        · exfalso; rw [show i + 1 = l.length from by omega, start_all] at c; omega
      exact ih (i + 1) k (by omega) hlt c (by omega)
    · rw [if_neg (by omega)]
      by_cases c3 : a3 = 0
      · rw [if_pos c3]
        exact law_j6 hl h hb ha3 hi (by omega) (by intro hf; exact absurd hf (by decide)) (by omega)
      · rw [if_neg c3, w64 (by omega) (by omega)]
        exact law_j6 hl h hb ha3 hi (by omega) (by intro hf; exact ⟨c3, by have := of_decide_eq_false hf; omega⟩) (by omega)
theorem law_j3 {l : List (List Int)} (hne : 0 < l.length) (hl : l.length ≤ 20) (h : ∀ x ∈ l, x.length ≤ 200) (hb : ∀ x ∈ l, Bytes x) {ends : List Int} (hE : Ends l l.length ends) {a2 a3 : Int} (ha2 : 0 ≤ a2 ∧ a2 ≤ 65535) (ha3 : 0 ≤ a3 ∧ a3 ≤ 255) {c i : Nat} (hi : i ≤ l.length) (h0 : start l i ≤ c) (hc : c ≤ (sealsV l).length) (h1 : i = l.length ∨ c < start l (i + 1)) {k : Nat} (hk : 30000 ≤ k) :
    pluviallaw03_SumSeals.j3 k a2 a3 l (sealsV l) ends (c : Int) (i : Int) = some true := by
  obtain ⟨k, rfl⟩ : ∃ m, k = m + 1 := ⟨k - 1, by omega⟩
  simp only [pluviallaw03_SumSeals.j3]
  have hlen := seals_len l h
  have hBs := seals_bytes hb
  have hw := all_whole h 5000
  have hpos : 0 < (sealsV l).length := by
    have := start_le (l := l) 1
    rw [show (1 : Nat) = 0 + 1 from rfl, start_succ hne] at this
    omega
  rw [check_val hBs (by omega) (by omega) (n := l.length) (y := (sealsV l).length) (e := 0) (d := 5000 + l.length) (Nat.le_refl _) (by rw [hw, List.take_length]) (by simp) (by omega) (by omega), Option.bind_some, if_pos rfl, if_pos (by omega), if_pos (by omega), Int.toNat_natCast]
  have htl : ((sealsV l).take c).length = c := by rw [List.length_take]; omega
  have hchk : pluviallaw03_SumSeals_1.f k ((sealsV l).take c) (i : Int) l = some true := by
    rcases Nat.lt_or_ge i l.length with g | g
    · obtain ⟨e, h2, h3⟩ := all_cut h g h0 (h1.resolve_left (by omega)) 5000
      exact check_val (hBs.take c) (by omega) (by omega) hi h2 (by rw [htl]; exact h3) (by omega) (by omega)
    · have : i = l.length := by omega
      subst this
      rw [start_all] at h0
      have hcl : c = (sealsV l).length := by omega
      rw [hcl, List.take_length]
      exact check_val hBs (by omega) (by omega) (n := l.length) (y := (sealsV l).length) (e := 0) (d := 5000 + l.length) (Nat.le_refl _) (by rw [hw, List.take_length]) (by simp) (by omega) (by omega)
  rw [hchk, Option.bind_some]
  obtain ⟨k, rfl⟩ : ∃ m, k = m + 1 := ⟨k - 1, by omega⟩
  simp only [pluviallaw03_SumSeals.j4, Bool.not_true, Bool.false_eq_true, if_false]
  rw [if_neg (by omega), w64 (by omega) (by omega), Int.tmod_eq_emod_of_nonneg (by omega)]
  obtain ⟨p, hp⟩ : ∃ p : Nat, a2 % ((sealsV l).length : Int) = (p : Int) := ⟨(a2 % ((sealsV l).length : Int)).toNat, by rw [Int.toNat_of_nonneg (Int.emod_nonneg _ (by omega))]⟩
  have hp2 : p < (sealsV l).length := by
    have := Int.emod_lt_of_pos a2 (show (0 : Int) < ((sealsV l).length : Int) by omega)
    omega
  rw [hp]
  have := law_l2 hl h hb hE ha3 hp2 l.length 0 k (by omega) hne (by show (sealsV (l.take 0)).length ≤ p; rw [List.take_zero]; exact Nat.zero_le _) (by omega)
  rw [show (start l 0 : Int) = 0 from rfl] at this
  exact this
theorem law_l1 {l : List (List Int)} (hne : 0 < l.length) (hl : l.length ≤ 20) (h : ∀ x ∈ l, x.length ≤ 200) (hb : ∀ x ∈ l, Bytes x) {ends : List Int} (hE : Ends l l.length ends) {a2 a3 : Int} (ha2 : 0 ≤ a2 ∧ a2 ≤ 65535) (ha3 : 0 ≤ a3 ∧ a3 ≤ 255) {c : Nat} (hc : c ≤ (sealsV l).length) : ∀ (d i k : Nat), l.length - i ≤ d → i ≤ l.length → start l i ≤ c → 30001 + d ≤ k → pluviallaw03_SumSeals.l1 k a2 a3 l (sealsV l) ends (c : Int) (i : Int) = some true := by
  intro d
  induction d with
  | zero =>
    intro i k hd hi h0 hk
    obtain ⟨k, rfl⟩ : ∃ m, k = m + 1 := ⟨k - 1, by omega⟩
    simp only [pluviallaw03_SumSeals.l1]
    rw [if_neg (by rw [hE.1]; omega)]
    exact law_j3 hne hl h hb hE ha2 ha3 hi h0 hc (.inl (by omega)) (by omega)
  | succ d ih =>
    intro i k hd hi h0 hk
    obtain ⟨k, rfl⟩ : ∃ m, k = m + 1 := ⟨k - 1, by omega⟩
    simp only [pluviallaw03_SumSeals.l1]
    by_cases ci : i < l.length
    · rw [if_pos (by rw [hE.1]; omega), if_pos (by omega), ends_rd hE ci]
      by_cases cc : start l (i + 1) ≤ c
      · rw [if_pos (by omega), w64 (by omega) (by omega)]
        exact ih (i + 1) k (by omega) (by omega) cc (by omega)
      · rw [if_neg (by omega)]
        exact law_j3 hne hl h hb hE ha2 ha3 hi h0 hc (.inr (by omega)) (by omega)
    · rw [if_neg (by rw [hE.1]; omega)]
      exact law_j3 hne hl h hb hE ha2 ha3 hi h0 hc (.inl (by omega)) (by omega)
theorem law_l0 {l : List (List Int)} (hne : 0 < l.length) (hl : l.length ≤ 20) (hb : ∀ x ∈ l, Bytes x) {a1 a2 a3 : Int} (ha1 : 0 ≤ a1 ∧ a1 ≤ 65535) (ha2 : 0 ≤ a2 ∧ a2 ≤ 65535) (ha3 : 0 ≤ a3 ∧ a3 ≤ 255) :
    ∀ (d n k : Nat) (ends : List Int), l.length - n ≤ d → n ≤ l.length → (∀ x ∈ l.take n, x.length ≤ 200) → Ends l n ends → 40000 + d ≤ k →
    pluviallaw03_SumSeals.l0 k a1 a2 a3 l (sealsV (l.take n)) ends l (l.length : Int) (n : Int) = some true := by
  have fin : ∀ (k : Nat) (ends : List Int), (∀ x ∈ l, x.length ≤ 200) → Ends l l.length ends → 39000 ≤ k →
      (if (wrap64 (((sealsV l).length : Int) + 1)) = 0 then (none) else (pluviallaw03_SumSeals.l1 k a2 a3 l (sealsV l) ends (Int.tmod (wrap64 (a1)) (wrap64 (((sealsV l).length : Int) + 1))) 0)) = some true := by
    intro k ends h hE hk
    have hlen := seals_len l h
    rw [w64 (x := ((sealsV l).length : Int) + 1) (by omega) (by omega), if_neg (by omega), w64 (by omega) (by omega), Int.tmod_eq_emod_of_nonneg (by omega)]
    obtain ⟨c, hc⟩ : ∃ c : Nat, a1 % (((sealsV l).length : Int) + 1) = (c : Int) := ⟨(a1 % (((sealsV l).length : Int) + 1)).toNat, by rw [Int.toNat_of_nonneg (Int.emod_nonneg _ (by omega))]⟩
    have hc2 : c ≤ (sealsV l).length := by
      have := Int.emod_lt_of_pos a1 (show (0 : Int) < ((sealsV l).length : Int) + 1 by omega)
      omega
    rw [hc]
    exact law_l1 hne hl h hb hE ha2 ha3 hc2 l.length 0 k (by omega) (by omega) (by show (sealsV (l.take 0)).length ≤ c; rw [List.take_zero]; exact Nat.zero_le _) (by omega)
  intro d
  induction d with
  | zero =>
    intro n k ends hd hn h hE hk
    obtain ⟨k, rfl⟩ : ∃ m, k = m + 1 := ⟨k - 1, by omega⟩
    have : n = l.length := by omega
    subst this
    rw [List.take_length] at h ⊢
    simp only [pluviallaw03_SumSeals.l0]
    rw [if_neg (by omega)]
    exact fin k ends h hE (by omega)
  | succ d ih =>
    intro n k ends hd hn h hE hk
    obtain ⟨k, rfl⟩ : ∃ m, k = m + 1 := ⟨k - 1, by omega⟩
    by_cases c : n < l.length
    · simp only [pluviallaw03_SumSeals.l0]
      have er : rd_L1 l (n : Int) = l[n] := by
        unfold rd_L1; rw [Int.toNat_natCast, List.getD_eq_getElem?_getD, List.getElem?_eq_getElem c]; rfl
      rw [if_pos (by omega), if_pos (by omega), if_pos (by omega), er]
      by_cases cl : (l[n].length : Int) > 200
      · rw [if_pos cl, awake_val]; rfl
      · have hlen := seals_len (l.take n) h
        have htn : (l.take n).length = n := by rw [List.length_take]; omega
        have es : sealsV (l.take n) ++ sealV l[n] = sealsV (l.take (n + 1)) := by
          rw [List.take_succ_eq_append_getElem c, seals_append, seals_cons, seals_nil, List.append_nil]
        rw [if_neg cl, seal_val (hb _ (List.getElem_mem c)) (by omega), Option.bind_some, if_pos (by rw [seal_len]; omega), Option.bind_some, es, if_pos (by rw [hE.1]; omega), w64 (by omega) (by omega)]
        refine ih (n + 1) k _ (by omega) (by omega) ?_ ?_ (by omega)
        · intro x hx
          rw [List.take_succ_eq_append_getElem c, List.mem_append] at hx
          rcases hx with hx | hx
          · exact h x hx
          · rw [List.mem_singleton] at hx; subst hx; omega
        · refine ⟨by rw [List.length_append, hE.1]; rfl, fun i hi => ?_⟩
          rw [List.getD_eq_getElem?_getD]
          by_cases ci : i < n
          · rw [List.getElem?_append_left (by rw [hE.1]; exact ci), ← List.getD_eq_getElem?_getD]
            exact hE.2 i ci
          · have : i = n := by omega
            subst this
            rw [List.getElem?_append_right (by rw [hE.1]; omega), hE.1, Nat.sub_self]
            rfl
    · have : n = l.length := by omega
      subst this
      rw [List.take_length] at h ⊢
      simp only [pluviallaw03_SumSeals.l0]
      rw [if_neg (by omega)]
      exact fin k ends h hE (by omega)
theorem main (l : List (List Int)) (a1 a2 a3 : Int) (hb : ∀ x ∈ l, Bytes x) (hl : l.length ≤ 9223372036854775807) (ha1 : 0 ≤ a1 ∧ a1 ≤ 65535) (ha2 : 0 ≤ a2 ∧ a2 ≤ 65535) (ha3 : 0 ≤ a3 ∧ a3 ≤ 255) : ∃ k, pluviallaw03_SumSeals.f k l a1 a2 a3 = some true := by
  refine ⟨50001, ?_⟩
  generalize hK : 50000 = K
  have hk : 50000 ≤ K := by omega
  rw [show 50001 = 50000 + 1 from rfl, hK]
  clear hK
  unfold pluviallaw03_SumSeals.f
  by_cases c : (l.length : Int) = 0
  · rw [if_pos c]
    simp only [pluviallaw03_SumSeals.j0]
    rw [if_pos trivial, awake_val]; rfl
  rw [if_neg c]
  simp only [pluviallaw03_SumSeals.j0]
  by_cases c2 : (l.length : Int) > 20
  · rw [if_pos (decide_eq_true c2), awake_val]; rfl
  rw [if_neg (by rw [decide_eq_false c2]; decide)]
  have := law_l0 (l := l) (by omega) (by omega) hb ha1 ha2 ha3 l.length 0 K [] (by omega) (by omega) (by intro x hx; rw [List.take_zero] at hx; exact absurd hx (by simp)) ⟨rfl, fun i hi => absurd hi (by omega)⟩ (by omega)
  rw [List.take_zero, seals_nil] at this
  exact this
end Go.Proofs.Ytmklgjcflgjbjaa.Pure.LSumSeals
