/- What SumFours computes is true for every input: a number's bytes are its own, the lowest first. It holds for all whole numbers of its parameters, no condition. -/
import Derived.Test.YtmklgjcflgjbjaaQSumFoursx2
import Derived.Test.YtmklgjcflgjbjaaMth
namespace Go.Proofs.Ytmklgjcflgjbjaa.Pure.LSumFours
open Go.RowKit Go.Proofs.Ytmklgjcflgjbjaa Go.Proofs.Ytmklgjcflgjbjaa.QSumFours Go.Proofs.YtmklgjcflgjbjaaW.PrintWords Go.Proofs.YtmklgjcflgjbjaaW.PrintLast Go.Proofs.YtmklgjcflgjbjaaW.PrintMore Mth
theorem awake_val : pluviallaw03_awake.f = some true := rfl
/-- the number of four bytes, the lowest first; fewer: as if 0 stood behind -/
def numV (l : List Int) : Int := l.getD 0 0 + 256 * l.getD 1 0 + 65536 * l.getD 2 0 + 16777216 * l.getD 3 0
def Bytes (l : List Int) : Prop := ∀ x ∈ l, 0 ≤ x ∧ x ≤ 255
theorem Bytes.get {l : List Int} (h : Bytes l) (i : Nat) : 0 ≤ l.getD i 0 ∧ l.getD i 0 ≤ 255 := by
  rw [List.getD_eq_getElem?_getD]
  by_cases hi : i < l.length
  · rw [List.getElem?_eq_getElem hi]; exact h _ (List.getElem_mem hi)
  · rw [List.getElem?_eq_none (by omega)]; simp
theorem or_step {n b : Int} (hn : 0 ≤ n ∧ n ≤ 16777215) (hb : 0 ≤ b ∧ b ≤ 255) : Go.bits .or .u32 ((n * 256) % 4294967296) (b % 4294967296) = n * 256 + b := by
  rw [show n * 256 % 4294967296 = n * 2 ^ 8 from by omega, show b % 4294967296 = b from by omega, or_add_u32 hn.1 hb.1 (by omega) (by omega)]; omega
/-- one round -/
theorem num_step {l : List Int} (h : Bytes l) (k i : Nat) (n : Int) (hi : i < l.length) (hn : 0 ≤ n ∧ n ≤ 16777215) (hi3 : i ≤ 3) :
    sum_Number.l0 (k + 1) l n (i : Int) = sum_Number.l0 k l (n * 256 + l.getD i 0) ((i : Int) - 1) := by
  have hb := h.get i
  simp only [sum_Number.l0]
  have er : rd l (i : Int) = l.getD i 0 := by unfold rd; simp
  rw [if_pos (by omega), if_pos (by omega), if_pos (by omega), er, or_step hn hb, w64 (by omega) (by omega)]
theorem num_end (k : Nat) (l : List Int) (n : Int) : sum_Number.l0 (k + 1) l n (-1) = some n := by
  simp only [sum_Number.l0]; rw [if_neg (by omega)]
theorem number_val {l : List Int} (h : Bytes l) {k : Nat} (hk : 6 ≤ k) : sum_Number.f k l = some (numV l) := by
  obtain ⟨k, rfl⟩ : ∃ m, k = m + 6 := ⟨k - 6, by omega⟩
  have g0 := h.get 0
  have g1 := h.get 1
  have g2 := h.get 2
  have g3 := h.get 3
  unfold sum_Number.f numV
  have gz : ∀ i, l.length ≤ i → l.getD i 0 = 0 := by
    intro i hi; rw [List.getD_eq_getElem?_getD, List.getElem?_eq_none hi]; rfl
  by_cases c : 4 ≤ l.length
  · have em : mn (l.length : Int) 4 = 4 := by unfold mn; split <;> omega
    rw [em]
    rw [show (4 : Int) - 1 = ((3 : Nat) : Int) from rfl, num_step h (k + 5) 3 0 (by omega) (by omega) (by omega)]
    rw [show ((3 : Nat) : Int) - 1 = ((2 : Nat) : Int) from rfl, num_step h (k + 4) 2 _ (by omega) (by omega) (by omega)]
    rw [show ((2 : Nat) : Int) - 1 = ((1 : Nat) : Int) from rfl, num_step h (k + 3) 1 _ (by omega) (by omega) (by omega)]
    rw [show ((1 : Nat) : Int) - 1 = ((0 : Nat) : Int) from rfl, num_step h (k + 2) 0 _ (by omega) (by omega) (by omega)]
    rw [show ((0 : Nat) : Int) - 1 = -1 from rfl, num_end]
    congr 1; omega
  · have z3 := gz 3 (by omega)
    have em : mn (l.length : Int) 4 = l.length := by unfold mn; split <;> omega
    rw [em]
    by_cases c2 : l.length = 3
    · rw [c2, show ((3 : Nat) : Int) - 1 = ((2 : Nat) : Int) from rfl, num_step h (k + 5) 2 0 (by omega) (by omega) (by omega)]
      rw [show ((2 : Nat) : Int) - 1 = ((1 : Nat) : Int) from rfl, num_step h (k + 4) 1 _ (by omega) (by omega) (by omega)]
      rw [show ((1 : Nat) : Int) - 1 = ((0 : Nat) : Int) from rfl, num_step h (k + 3) 0 _ (by omega) (by omega) (by omega)]
      rw [show ((0 : Nat) : Int) - 1 = -1 from rfl, num_end]
      congr 1; omega
    · have z2 := gz 2 (by omega)
      by_cases c1 : l.length = 2
      · rw [c1, show ((2 : Nat) : Int) - 1 = ((1 : Nat) : Int) from rfl, num_step h (k + 5) 1 0 (by omega) (by omega) (by omega)]
        rw [show ((1 : Nat) : Int) - 1 = ((0 : Nat) : Int) from rfl, num_step h (k + 4) 0 _ (by omega) (by omega) (by omega)]
        rw [show ((0 : Nat) : Int) - 1 = -1 from rfl, num_end]
        congr 1; omega
      · have z1 := gz 1 (by omega)
        by_cases c0 : l.length = 1
        · rw [c0, show ((1 : Nat) : Int) - 1 = ((0 : Nat) : Int) from rfl, num_step h (k + 5) 0 0 (by omega) (by omega) (by omega)]
          rw [show ((0 : Nat) : Int) - 1 = -1 from rfl, num_end]
          congr 1; omega
        · have z0 := gz 0 (by omega)
          rw [show (l.length : Int) - 1 = -1 from by omega, num_end]
          congr 1; omega
/-- four bytes of a number -/
def four (n : Int) : List Int := [n % 256, n / 256 % 256, n / 65536 % 256, n / 16777216 % 256]
theorem four_bytes (n : Int) : Bytes (four n) := by
  intro x hx; simp only [four, List.mem_cons, List.not_mem_nil, or_false] at hx; omega
theorem four_num {n : Int} (h : 0 ≤ n ∧ n ≤ 4294967295) (r : List Int) : numV (four n ++ r) = n := by
  simp only [numV, four, List.cons_append, List.getD_cons_zero, List.getD_cons_succ]; omega
theorem str_toList (l : List Int) : (strOfNums l).toList = l.map fun n => UInt8.ofNat n.toNat := by
  rw [ByteArray.toList_eq]; simp [strOfNums]
theorem str_inj {a b : List Int} (ha : Bytes a) (hb : Bytes b) (h : (strOfNums a).toList = (strOfNums b).toList) : a = b := by
  rw [str_toList, str_toList] at h
  induction a generalizing b with
  | nil => cases b with
    | nil => rfl
    | cons y b => simp at h
  | cons x a ih => cases b with
    | nil => simp at h
    | cons y b =>
      simp only [List.map_cons, List.cons.injEq] at h
      have hx := ha x (by simp)
      have hy := hb y (by simp)
      have e := congrArg UInt8.toNat h.1
      simp only [UInt8.toNat_ofNat'] at e
      rw [ih (fun z hz => ha z (List.mem_cons_of_mem _ hz)) (fun z hz => hb z (List.mem_cons_of_mem _ hz)) h.2]
      congr 1; omega
theorem main : pluviallaw03_SumFours.Pure := by
  intro a b ha hb
  have ha' := wf_u32 ha
  have hb' := wf_u32 hb
  refine ⟨10, ?_⟩
  have hB : Bytes (four a ++ four b) := by
    intro x hx; rw [List.mem_append] at hx
    rcases hx with hx | hx
    · exact four_bytes a x hx
    · exact four_bytes b x hx
  have f4 : ∀ n, sum_Four.f n = some (four n) := fun n => rfl
  unfold pluviallaw03_SumFours.f
  rw [f4, f4]
  simp only [Option.bind_some]
  have l8 : (four a ++ four b).length = 8 := rfl
  have d4 : (four a ++ four b).drop 4 = four b := rfl
  have t4 : (four a ++ four b).take 4 = four a := rfl
  rw [if_pos (by rw [show (four a).length = 4 from rfl, show (four b).length = 4 from rfl]; decide), awake_val, Option.bind_some, if_pos rfl, l8, if_pos (by decide), number_val hB (by omega), four_num ha', Option.bind_some, if_pos rfl, if_pos (by decide), d4, number_val (four_bytes b) (by omega)]
  have e := four_num hb' []
  rw [List.append_nil] at e
  rw [e, Option.bind_some, if_pos rfl, if_pos (by decide), if_pos (show rd (four a ++ four b) 0 = a % 256 from rfl), if_pos (by decide), if_pos (show rd (four a ++ four b) 7 = b / 16777216 % 256 from rfl), t4]
  have hs : ((strOfNums (four a)).toList == (strOfNums (four b)).toList) = (a == b) := by
    rw [Bool.eq_iff_iff]
    simp only [beq_iff_eq]
    constructor
    · intro h
      have h2 := str_inj (four_bytes a) (four_bytes b) h
      have e1 := four_num ha' []
      rw [List.append_nil, h2, e] at e1
      exact e1.symm
    · intro h; rw [h]
  rw [hs, beq_self_eq_true, if_pos rfl, number_val (l := []) (by intro x hx; simp at hx) (by omega)]
  rfl
end Go.Proofs.Ytmklgjcflgjbjaa.Pure.LSumFours
namespace Go.Proofs.Ytmklgjcflgjbjaa.Pure
theorem SumFours : Go.Proofs.Ytmklgjcflgjbjaa.QSumFours.pluviallaw03_SumFours.Pure := LSumFours.main
end Go.Proofs.Ytmklgjcflgjbjaa.Pure
