/- The contract of sum.table: it hands back the 256 values of the byte-wise sum; no condition. -/
import Derived.Test.YtmklgjcflgjbjaaPSumAddsx0
import Derived.Deep.WholeRow
import Derived.Laws.CopyOwn
import Derived.Lib.Hide
namespace Go.Proofs.Ytmklgjcflgjbjaa.Sum
open Go.RowKit Go.Proofs.YtmklgjcflgjbjaaW.PrintWords Go.Proofs.YtmklgjcflgjbjaaW.PrintLast Go.Proofs.YtmklgjcflgjbjaaW.PrintMore

/-- one step of the sum of a byte -/
def cstep (c : Int) : Int := if Go.bits .and .u32 c 1 = 1 then Go.bits .xor .u32 (c / 2) 3988292384 else c / 2
def csteps : Nat → Int → Int
  | 0, c => c
  | n + 1, c => cstep (csteps n c)
def tabv (i : Nat) : Int := csteps 8 (i : Int)
/-- the table's cells when n of them are made -/
def tabC (n : Nat) : Array Value := (Array.range 256).map fun i => .int .u32 (if i < n then tabv i else 0)
theorem tabC_size (n : Nat) : (tabC n).size = 256 := by simp [tabC]
theorem zero46 : (Try.prog.info? 46).map (fun i => (i.zero, i.size)) = some (some (.agg (Array.replicate 256 (.int .u32 0))), 256) := by kernel_rfl
theorem tabC_zero : tabC 0 = Array.replicate 256 (.int .u32 0) := by
  apply Array.ext
  · simp [tabC]
  · intro j h1 h2; simp [tabC]
theorem tabC_succ (i : Nat) : (tabC i).setIfInBounds i (.int .u32 (tabv i)) = tabC (i + 1) := by
  apply Array.ext
  · simp [tabC]
  · intro j h1 h2
    rw [Array.getElem_setIfInBounds (by rw [tabC_size] at *; simpa [tabC_size] using h2)]
    simp only [tabC, Array.getElem_map, Array.getElem_range]
    by_cases e : i = j
    · subst e; rw [if_pos rfl, if_pos (by omega)]
    · rw [if_neg e]
      by_cases h : j < i
      · rw [if_pos h, if_pos (by omega)]
      · rw [if_neg h, if_neg (by omega)]
theorem tabC_one (n : Nat) : (tabC n).all (·.oneCell') = true := by
  rw [Array.all_eq_true_iff_forall_mem]
  intro v hv
  unfold tabC at hv
  obtain ⟨j, _, rfl⟩ := Array.mem_map.1 hv
  rfl
theorem tabC_get {n i : Nat} (h : i < 256) : (tabC n)[i]? = some (.int .u32 (if i < n then tabv i else 0)) := by
  rw [Array.getElem?_eq_getElem (by rw [tabC_size]; exact h)]
  simp [tabC]
set_option maxHeartbeats 4000000 in
set_option maxRecDepth 1000000 in
theorem table_calls (w : World) : Calls Try.prog 20 #[] w fun e w' => e = .returned (.agg (tabC 256)) ∧ Below w.heap.size w w' := by
  have hv46 := (zero_of_info (P := Try.prog) zero46).1
  have t46 := Try.underlying46
  go_enter Try.func20, Try.ntmps20
  go_wp2
  go_loopg [4] 256 (fun g s4 wx => ∃ i : Nat, i + g = 256 ∧ s4 = .int .i64 i ∧ wx = (w.alloc (.cells (Array.replicate 256 (.int .u32 0)) 46)).alloc (.cells (tabC i) 46))
  case atStart => exact ⟨0, by omega, rfl, by rw [tabC_zero]⟩
  case round =>
    obtain ⟨i, hig, rfl, rfl⟩ := hrel
    cases gk with
    | zero =>
      obtain rfl : i = 256 := by omega
      have hi46 := (zero_of_info (P := Try.prog) zero46).2
      have hsz : (Try.prog.info? 46).map (·.size) = some (tabC 256).size := by rw [tabC_size]; exact hi46
      clear hi46
      have Hsz := Lib.hid hsz
      clear hsz
      go_wp2_with (first
        | (refine wpList_load_row rfl 46 (.tmp 1) rfl (w.heap.size + 1) rfl 46 (tabC 256) (0, 0) _ (heap_alloc2_new w _ _) t46 rfl Hsz.out ?_)
        | (refine wpList_store_row rfl 46 (.tmp 0) (.tmp 24) rfl w.heap.size (tabC 256) rfl rfl 46 (Array.replicate 256 (.int .u32 0)) (heap_alloc2_old w _ _) Hsz.out (by rw [tabC_size]; simp) (tabC_one _) ?_))
      refine bodyPost_ret (v := .agg (tabC 256)) (results_cell_row rfl _ _ w.heap.size 46 (tabC 256) (0, 0) _ rfl (setRow_heap _ _ _ _ _ _ (heap_alloc2_old w _ _)) t46 rfl Hsz.out) rfl ⟨rfl, ?_⟩
      exact below_setRow (below_alloc (below_alloc (Below.refl _ _) _) _) (Nat.le_refl _) _
    | succ g =>
      have hi : i < 256 := by omega
      have hiz : (i : Int) < 256 := by omega
      go_wp2
      go_loopg [3, 9] 8 (fun g2 c j wx => ∃ n : Nat, n + g2 = 8 ∧ j = .int .i64 n ∧ c = .int .u32 (csteps n i) ∧ wx = (w.alloc (.cells (Array.replicate 256 (.int .u32 0)) 46)).alloc (.cells (tabC i) 46))
      case atStart => exact ⟨0, by omega, rfl, by first | rfl | (simp [csteps]; done) | go_num, rfl⟩
      case round =>
        obtain ⟨n, hng, rfl, rfl, rfl⟩ := hrel
        cases gk with
        | zero =>
          obtain rfl : n = 8 := by omega
          have hcell := tabC_get (n := i) hi
          go_wp2
          go_roundg g
          case measure => omega
          case rel => exact ⟨i + 1, by omega, by first | rfl | simp, by rw [← tabC_succ]; rfl⟩
        | succ g2 =>
          have hnz : (n : Int) < 8 := by omega
          by_cases hb : Go.bits .and .u32 (csteps n i) 1 = 1
          · have hb' : (Go.bits .and .u32 (csteps n i) 1 == 1) = true := by simpa using hb
            have e : csteps (n + 1) i = Go.bits .xor .u32 (csteps n i / 2) 3988292384 := by simp only [csteps, cstep]; rw [if_pos hb]
            have He := Lib.hid e
            clear e hb
            go_wp2
            go_roundg g2
            case measure => omega
            case rel => exact ⟨n + 1, by omega, by first | rfl | simp, by rw [He.out], rfl⟩
          · have hb' : (Go.bits .and .u32 (csteps n i) 1 == 1) = false := by simpa using hb
            have e : csteps (n + 1) i = csteps n i / 2 := by simp only [csteps, cstep]; rw [if_neg hb]
            have He := Lib.hid e
            clear e hb
            go_wp2
            go_roundg g2
            case measure => omega
            case rel => exact ⟨n + 1, by omega, by first | rfl | simp, by rw [He.out], rfl⟩
end Go.Proofs.Ytmklgjcflgjbjaa.Sum
