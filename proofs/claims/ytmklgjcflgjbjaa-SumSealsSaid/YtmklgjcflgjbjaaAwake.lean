/- The contract of the law package's awake: the sum of the document's example is met; no condition. -/
import Derived.Test.YtmklgjcflgjbjaaOf
import Derived.Lib.SlBytesConst
namespace Go.Proofs.Ytmklgjcflgjbjaa.Sum
open Go.RowKit Go.Proofs.YtmklgjcflgjbjaaW.PrintWords Go.Proofs.YtmklgjcflgjbjaaW.PrintLast Go.Proofs.YtmklgjcflgjbjaaW.PrintMore

theorem C_bytes {w : World} {ad : Addr} {l : List Int} (hm : l.length ≤ 9223372036854775807) (h : ∀ i (hi : i < l.length), w.cell? (ad.add i) = some (.int .u8 l[i])) : (Kd.int .u8).C w (some ad) l.length l := by
  refine ⟨rfl, hm, fun _ => ⟨ad, rfl, fun j p hj => ?_⟩⟩
  obtain ⟨hj1, rfl⟩ := List.getElem?_eq_some_iff.1 hj
  refine ⟨[.int .u8 l[j]], rfl, rfl, fun i u hu => ?_⟩
  cases i with
  | zero =>
    simp only [List.getElem?_cons_zero, Option.some.injEq] at hu
    subst hu
    have := h j hj1
    simpa [Kd.int, Kd.scalar] using this
  | succ i => simp at hu
/-- a list of lists of bytes, in memory -/
theorem C_rows {w : World} {ad : Addr} {l : List (List Int)} (hm : l.length ≤ 9223372036854775807)
    (h : ∀ i (hi : i < l.length), ∃ A c, w.cell? (ad.add i) = some (.slice A l[i].length c) ∧ l[i].length ≤ c ∧ (Kd.int .u8).C w A l[i].length l[i]) : (Kd.slice 5 (Kd.int .u8)).C w (some ad) l.length l := by
  refine ⟨rfl, hm, fun _ => ⟨ad, rfl, fun j p hj => ?_⟩⟩
  obtain ⟨hj1, rfl⟩ := List.getElem?_eq_some_iff.1 hj
  obtain ⟨A, c, h1, h2, h3⟩ := h j hj1
  refine ⟨[.slice A l[j].length c], rfl, ⟨A, c, rfl, h2, h3⟩, fun i u hu => ?_⟩
  cases i with
  | zero =>
    simp only [List.getElem?_cons_zero, Option.some.injEq] at hu
    subst hu
    simpa [Kd.slice] using h1
  | succ i => simp at hu
theorem add_block (b o i : Nat) : (⟨b, o, none⟩ : Addr).add i = ⟨b, o + i, none⟩ := by unfold Addr.add; split <;> simp_all
def nine : List Int := [49, 50, 51, 52, 53, 54, 55, 56, 57]
theorem crc_nine : crcFin (crcAll 4294967295 [nine]) = 3421780262 := by decide +kernel
theorem nine_call (ad : Addr) (w : World) (h : (Kd.slice 5 (Kd.int .u8)).C w (some ad) [nine].length [nine]) :
    Calls Try.prog 9 #[.slice (some ad) 1 1] w fun e w' => e = .returned (.int .u32 3421780262) ∧ Below w.heap.size w w' := by
  have := of_walk (some ad) 1 [nine] w h (by simp)
  rw [crc_nine] at this
  exact this
/-- the example's bytes, as the walk lays them -/
theorem nine_laid (w : World) (fr : Nat × Nat) : (Kd.slice 5 (Kd.int .u8)).C ((w.alloc (.cells #[.int .u8 49, .int .u8 50, .int .u8 51, .int .u8 52, .int .u8 53, .int .u8 54, .int .u8 55, .int .u8 56, .int .u8 57] 5 fr)).alloc (.cells #[.slice (some ⟨w.heap.size, 0, none⟩) 9 9] 24)) (some ⟨w.heap.size + 1, 0, none⟩) [nine].length [nine] := by
  refine C_rows (by simp) fun i hi => ?_
  have : i = 0 := by simp at hi; omega
  subst this
  refine ⟨some ⟨w.heap.size, 0, none⟩, 9, ?_, by simp [nine], ?_⟩
  · rw [add_block, cell_of_row _ _ _ _ 24 (0, 0) (heap_alloc2_new w _ _)]
    rfl
  · refine C_bytes (by simp [nine]) fun k hk => ?_
    rw [add_block, Nat.zero_add, cell_of_row _ _ _ _ 5 fr (heap_alloc2_old w _ _)]
    have hk' : k < 9 := hk
    match k, hk' with
    | 0, _ => rfl
    | 1, _ => rfl
    | 2, _ => rfl
    | 3, _ => rfl
    | 4, _ => rfl
    | 5, _ => rfl
    | 6, _ => rfl
    | 7, _ => rfl
    | 8, _ => rfl
set_option maxHeartbeats 4000000 in
set_option maxRecDepth 1000000 in
theorem awake_walk (w : World) : Calls Try.prog 8 #[] w fun e w' => e = .returned (.bool true) ∧ Below w.heap.size w w' := by
  have kc := fun (w : World) (C : Array Value) (n c : Nat) => Lib.run_convert_bytes_const (P := Try.prog) w 24 5 C n c Try.underlying24 Try.underlying5
  go_enter Try.func8, Try.ntmps8
  go_wp2_with (go_at_call 9; refine (nine_call _ _ (nine_laid _ _)).mono ?_; rintro e w1 ⟨rfl, hb⟩)
  go_ret
  exact ⟨rfl, (below_alloc (below_alloc (Below.refl _ _) _) _).trans (hb.mono (by simp; omega))⟩
end Go.Proofs.Ytmklgjcflgjbjaa.Sum
