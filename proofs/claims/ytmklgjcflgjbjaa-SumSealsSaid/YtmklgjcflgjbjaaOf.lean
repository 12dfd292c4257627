/- The contract of sum.Of: what it answers for any list of byte lists; no condition. -/
import Derived.Test.YtmklgjcflgjbjaaTable
namespace Go.Proofs.Ytmklgjcflgjbjaa.Sum
open Go.RowKit Go.Proofs.YtmklgjcflgjbjaaW.PrintWords Go.Proofs.YtmklgjcflgjbjaaW.PrintLast Go.Proofs.YtmklgjcflgjbjaaW.PrintMore

/-- an element of a list of lists, in memory -/
theorem at_slice {w : World} {A : Option Addr} {n : Nat} {xs : List (List Int)} (h : (Kd.slice 5 (Kd.int .u8)).C w A n xs) (i : Nat) (hi : i < xs.length) :
    ∃ ad Ai ci, A = some ad ∧ w.cell? (ad.add i) = some (.slice Ai xs[i].length ci) ∧ xs[i].length ≤ ci ∧ (Kd.int .u8).C w Ai xs[i].length xs[i] := by
  obtain ⟨h1, h2, h3⟩ := h
  obtain ⟨ad, hA, hx⟩ := h3 (by omega)
  obtain ⟨c, hc, ⟨Ai, ci, rfl, hci, hC⟩, hcell⟩ := hx i xs[i] (List.getElem?_eq_getElem hi)
  have := hcell 0 _ rfl
  refine ⟨ad, Ai, ci, hA, ?_, hci, hC⟩
  simpa [Kd.slice] using this
def isByte (x : Int) : Bool := decide (0 ≤ x) && decide (x ≤ 255)
/-- what a byte does to a sum -/
def upd (c x : Int) : Int := Go.bits .xor .u32 (tabv (Go.bits .xor .u8 (c % 256) x).toNat) (c / 256)
def crcGo (c : Int) : List Int → Int
  | [] => c
  | x :: r => crcGo (upd c x) r
/-- all bits turned -/
def crcFin (c : Int) : Int := Go.bits .xor .u32 IntKind.u32.max c
def crcAll (c : Int) : List (List Int) → Int
  | [] => c
  | l :: r => crcAll (crcGo c l) r
theorem crcGo_snoc (l : List Int) : ∀ (c x : Int), crcGo c (l ++ [x]) = upd (crcGo c l) x := by
  induction l with
  | nil => intro c x; rfl
  | cons y l ih => intro c x; simp [crcGo, ih]
theorem crcAll_snoc (l : List (List Int)) : ∀ (c : Int) (x : List Int), crcAll c (l ++ [x]) = crcGo (crcAll c l) x := by
  induction l with
  | nil => intro c x; rfl
  | cons y l ih => intro c x; simp [crcAll, ih]
theorem info46s : (Try.prog.info? 46).map (·.size) = some (tabC 256).size := by rw [tabC_size]; exact (zero_of_info (P := Try.prog) zero46).2
theorem xor8_bound (a b : Int) : 0 ≤ Go.bits .xor .u8 a b ∧ Go.bits .xor .u8 a b < 256 := by
  have h : ∀ x : Int, 0 ≤ IntKind.u8.wrap x ∧ IntKind.u8.wrap x < 256 := by
    intro x
    have e : IntKind.u8.wrap x = x % 256 := by simp [IntKind.wrap, IntKind.signed, IntKind.bits]
    omega
  exact h _
set_option maxHeartbeats 4000000 in
set_option maxRecDepth 1000000 in
theorem of_walk (A0 : Option Addr) (c0 : Nat) (l0 : List (List Int)) (w : World) (hr0 : (Kd.slice 5 (Kd.int .u8)).C w A0 l0.length l0) (hc0 : l0.length ≤ c0) :
    Calls Try.prog 9 #[.slice A0 l0.length c0] w fun e w' => e = .returned (.int .u32 (crcFin (crcAll 4294967295 l0))) ∧ Below w.heap.size w w' := by
  have HR0 := Aside0.mk hr0
  have HC0 := Aside0.mk hc0
  have hmax : l0.length ≤ 9223372036854775807 := hr0.2.1
  clear hr0 hc0
  have hv46 := (zero_of_info (P := Try.prog) zero46).1
  have t46 := Try.underlying46
  go_enter Try.func9, Try.ntmps9
  go_wp2_with (first | (go_at_call 20; refine (table_calls _).mono ?_; rintro e w1 ⟨rfl, hb⟩; have HB := Aside0.mk hb; clear hb) | (refine wpList_store_row rfl 46 (.tmp 3) (.tmp 9) rfl w1.heap.size (tabC 256) rfl rfl 46 (Array.replicate 256 (.int .u32 0)) (heap_alloc_new w1 _) info46s (by rw [tabC_size]; simp) (tabC_one _) ?_; rw [World.setRow_alloc_new]))
  have hT : ∀ i : Nat, i < 256 → (w1.alloc (.cells (tabC 256) 46)).cell? ⟨w1.heap.size, i, none⟩ = some (.int .u32 (tabv i)) := by
    intro i hi
    rw [World.cell?_alloc_new, tabC_get hi, if_pos hi]
  have hBW : Below w.heap.size w (w1.alloc (.cells (tabC 256) 46)) := below_alloc HB.out _
  clear HB
  generalize w1.alloc (.cells (tabC 256) 46) = W at hT hBW ⊢
  generalize w1.heap.size = gt at hT ⊢
  have HT := Aside0.mk hT
  have HB := Aside0.mk hBW
  clear hT hBW
  go_loopg [4, 12] l0.length (fun g c j wx => ∃ n : Nat, n + g = l0.length ∧ j = .int .i64 n ∧ c = .int .u32 (crcAll 4294967295 (l0.take n)) ∧ wx = W)
  case atStart => exact ⟨0, by omega, rfl, rfl, rfl⟩
  case round =>
    obtain ⟨n, hng, rfl, rfl, rfl⟩ := hrel
    cases gk with
    | zero =>
      obtain rfl : n = l0.length := by omega
      rw [List.take_length]
      go_wp2
      go_ret
      exact ⟨rfl, HB.out⟩
    | succ g =>
      have hn : n < l0.length := by omega
      have hnd : decide (n < l0.length) = true := decide_eq_true hn
      have hni : (n : Int) < (l0.length : Int) := by omega
      obtain ⟨ad, Ai, ci, rfl, hx, hci, hC⟩ := at_slice HR0.out n hn
      have HC1 := Aside0.mk hC
      have hmax2 : l0[n].length ≤ 9223372036854775807 := hC.2.1
      have HC2 := Aside0.mk hci
      clear hC hci
      replace hx := (HB.out.cell (World.block_lt_of_cell? w _ hx)).trans hx
      obtain ⟨li, hli⟩ : ∃ li, li = l0[n] := ⟨_, rfl⟩
      rw [← hli] at hx HC1 HC2 hmax2
      have Hli := Aside0.mk hli
      clear hli
      obtain ⟨cs, hcs⟩ : ∃ cs, cs = crcAll 4294967295 (l0.take n) := ⟨_, rfl⟩
      rw [← hcs]
      have Hcs := Aside0.mk hcs
      clear hcs
      go_wp2
      go_loopg [4, 18] li.length (fun g2 c j wx => ∃ m : Nat, m + g2 = li.length ∧ j = .int .i64 m ∧ c = .int .u32 (crcGo cs (li.take m)) ∧ wx = wr)
      case atStart => exact ⟨0, by omega, rfl, rfl, rfl⟩
      case round =>
        obtain ⟨m, hmg, rfl, rfl, rfl⟩ := hrel
        cases gk with
        | zero =>
          obtain rfl : m = li.length := by omega
          go_wp2
          go_roundg g
          case measure => omega
          case rel => exact ⟨n + 1, by omega, by first | rfl | simp, by rw [List.take_succ_eq_append_getElem hn, crcAll_snoc, ← Hcs.out, ← Hli.out, List.take_length], rfl⟩
        | succ g2 =>
          have hm : m < li.length := by omega
          have hmd : decide (m < li.length) = true := decide_eq_true hm
          have hmi : (m : Int) < (li.length : Int) := by omega
          obtain ⟨ad2, rfl, hy⟩ := Kd.at_int HC1.out (m : Int) (by omega) hmi
          replace hy := (HB.out.cell (World.block_lt_of_cell? w _ hy)).trans hy
          rw [Int.toNat_natCast] at hy
          obtain ⟨x, hxe⟩ : ∃ x, x = rd li (m : Int) := ⟨_, rfl⟩
          rw [← hxe] at hy
          have Hx := Aside0.mk hxe
          clear hxe
          obtain ⟨c, hce⟩ : ∃ c, c = crcGo cs (li.take m) := ⟨_, rfl⟩
          rw [← hce]
          have Hc := Aside0.mk hce
          clear hce
          have hb := xor8_bound (c % 256) x
          have hb0 := hb.1
          have hb1 := hb.2
          have ht := HT.out (Go.bits .xor .u8 (c % 256) x).toNat (by omega)
          clear hb
          go_wp2
          go_roundg g2
          case measure => omega
          case rel => exact ⟨m + 1, by omega, by first | rfl | simp, by rw [List.take_succ_eq_append_getElem hm, crcGo_snoc, ← Hc.out, show li[m] = x from by rw [Hx.out]; unfold rd; simp [hm]]; rfl, rfl⟩
end Go.Proofs.Ytmklgjcflgjbjaa.Sum
