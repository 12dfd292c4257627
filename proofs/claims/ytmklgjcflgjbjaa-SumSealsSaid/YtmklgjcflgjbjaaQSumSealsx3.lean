-- Written by a program of the session (wip/xprint.sh, wip/xpatch.py; a variant of the print) out of the translation. Lean checks it.
import Derived.Test.YtmklgjcflgjbjaaQSumSealsx0
import Derived.Test.YtmklgjcflgjbjaaQSumSealsx1
import Derived.Test.YtmklgjcflgjbjaaQSumSealsx2
namespace Go.Proofs.Ytmklgjcflgjbjaa.QSumSeals
open Go.RowKit Go.Proofs.YtmklgjcflgjbjaaW.PrintWords Go.Proofs.YtmklgjcflgjbjaaW.PrintLast Go.Proofs.YtmklgjcflgjbjaaW.PrintMore
attribute [local go_sem] max2_int min2_int max_two min_two max_three min_three max_four min_four   -- for this text's walks alone
set_option linter.unusedVariables false
set_option linter.unusedSimpArgs false

/-! ### pluviallaw03_SumSeals: function 7 -/
mutual
def pluviallaw03_SumSeals.j0 : Nat → Int → Int → Int → List (List Int) → Bool → Option (Bool)
  | 0, _, _, _, _, _ => none
  | k + 1, x1, x2, x3, x4, x30 => if x30 = true then ((pluviallaw03_awake.f).bind fun t176 => (some t176)) else (pluviallaw03_SumSeals.l0 k x1 x2 x3 x4 ([] : List Int) ([] : List Int) x4 (x4.length : Int) 0)
def pluviallaw03_SumSeals.l0 : Nat → Int → Int → Int → List (List Int) → List Int → List Int → List (List Int) → Int → Int → Option (Bool)
  | 0, _, _, _, _, _, _, _, _, _ => none
  | k + 1, x1, x2, x3, x4, x9, x10, x32, x33, x34 => if x34 < x33 then (if 0 ≤ x34 then (if x34 < (x32.length : Int) then (if ((rd_L1 x32 x34).length : Int) > 200 then ((pluviallaw03_awake.f).bind fun t178 => (some t178)) else ((sum_Seal.f (rd_L1 x32 x34)).bind fun t179 => (if x9.length + t179.length < 140737488355328 then ((some (x9 ++ t179 : List Int)).bind fun y182 => (if x10.length < 17592186044416 then (pluviallaw03_SumSeals.l0 k x1 x2 x3 x4 y182 (x10 ++ [(y182.length : Int)]) x32 x33 (wrap64 (x34 + 1))) else (none))) else (none)))) else (none)) else (none)) else (if (wrap64 ((x9.length : Int) + 1)) = 0 then (none) else (pluviallaw03_SumSeals.l1 k x2 x3 x4 x9 x10 (Int.tmod (wrap64 (x1)) (wrap64 ((x9.length : Int) + 1))) 0))
def pluviallaw03_SumSeals.j3 : Nat → Int → Int → List (List Int) → List Int → List Int → Int → Int → Option (Bool)
  | 0, _, _, _, _, _, _, _ => none
  | k + 1, x2, x3, x4, x9, x10, x14, x15 => (pluviallaw03_SumSeals_1.f k x9 (x4.length : Int) x4).bind fun t189 => (if t189 = true then (if 0 ≤ x14 then (if x14 ≤ (x9.length : Int) then ((pluviallaw03_SumSeals_1.f k (x9.take (x14 : Int).toNat) x15 x4).bind fun t194 => (pluviallaw03_SumSeals.j4 k x2 x3 x9 x10 (!t194))) else (none)) else (none)) else (pluviallaw03_SumSeals.j4 k x2 x3 x9 x10 true))
def pluviallaw03_SumSeals.j4 : Nat → Int → Int → List Int → List Int → Bool → Option (Bool)
  | 0, _, _, _, _, _ => none
  | k + 1, x2, x3, x9, x10, x87 => if x87 = true then (some false) else (if (x9.length : Int) = 0 then (none) else (pluviallaw03_SumSeals.l2 k x3 x9 x10 (Int.tmod (wrap64 (x2)) (x9.length : Int)) 0 0))
def pluviallaw03_SumSeals.l2 : Nat → Int → List Int → List Int → Int → Int → Int → Option (Bool)
  | 0, _, _, _, _, _, _ => none
  | k + 1, x3, x9, x10, x16, x17, x18 => if 0 ≤ x17 then (if x17 < (x10.length : Int) then (if (rd x10 x17) ≤ x16 then (pluviallaw03_SumSeals.l2 k x3 x9 x10 x16 (wrap64 (x17 + 1)) (rd x10 x17)) else (if x3 = 0 then (pluviallaw03_SumSeals.j6 k x3 x9 x16 x17 true) else (pluviallaw03_SumSeals.j6 k x3 x9 x16 x17 (decide (x16 < (wrap64 (x18 + 4))))))) else (none)) else (none)
def pluviallaw03_SumSeals.j6 : Nat → Int → List Int → Int → Int → Bool → Option (Bool)
  | 0, _, _, _, _, _ => none
  | k + 1, x3, x9, x16, x17, x112 => if x112 = true then ((pluviallaw03_awake.f).bind fun t197 => (some t197)) else ((some (([] : List Int) : List Int)).bind fun y198 => (if y198.length + x9.length < 140737488355328 then ((some (y198 ++ x9 : List Int)).bind fun y201 => (if 0 ≤ x16 then (if x16 < (y201.length : Int) then ((sum_All.f k (y201.set (x16 : Int).toNat (Go.bits .xor .u8 (rd y201 x16) x3))).bind fun bt206 => ((pluviallaw03_awake.f).bind fun t211 => (if t211 = true then (if (bt206.1.length : Int) = x17 then (some (bt206.2.2 == 8)) else (some false)) else (some false)))) else (none)) else (none))) else (none)))
def pluviallaw03_SumSeals.l1 : Nat → Int → Int → List (List Int) → List Int → List Int → Int → Int → Option (Bool)
  | 0, _, _, _, _, _, _, _ => none
  | k + 1, x2, x3, x4, x9, x10, x14, x15 => if x15 < (x10.length : Int) then (if 0 ≤ x15 then (if (rd x10 x15) ≤ x14 then (pluviallaw03_SumSeals.l1 k x2 x3 x4 x9 x10 x14 (wrap64 (x15 + 1))) else (pluviallaw03_SumSeals.j3 k x2 x3 x4 x9 x10 x14 x15)) else (none)) else (pluviallaw03_SumSeals.j3 k x2 x3 x4 x9 x10 x14 x15)
end
def pluviallaw03_SumSeals.f (k : Nat) (l0 : List (List Int)) (a1 : Int) (a2 : Int) (a3 : Int) : Option (Bool) := if (l0.length : Int) = 0 then (pluviallaw03_SumSeals.j0 k a1 a2 a3 l0 true) else (pluviallaw03_SumSeals.j0 k a1 a2 a3 l0 (decide ((l0.length : Int) > 20)))
theorem pluviallaw03_SumSeals.mono_l : ∀ k, (∀ y0 y1 y2 y3 y4, LeO (pluviallaw03_SumSeals.j0 k y0 y1 y2 y3 y4) (pluviallaw03_SumSeals.j0 (k + 1) y0 y1 y2 y3 y4)) ∧ (∀ y0 y1 y2 y3 y4 y5 y6 y7 y8, LeO (pluviallaw03_SumSeals.l0 k y0 y1 y2 y3 y4 y5 y6 y7 y8) (pluviallaw03_SumSeals.l0 (k + 1) y0 y1 y2 y3 y4 y5 y6 y7 y8)) ∧ (∀ y0 y1 y2 y3 y4 y5 y6, LeO (pluviallaw03_SumSeals.j3 k y0 y1 y2 y3 y4 y5 y6) (pluviallaw03_SumSeals.j3 (k + 1) y0 y1 y2 y3 y4 y5 y6)) ∧ (∀ y0 y1 y2 y3 y4, LeO (pluviallaw03_SumSeals.j4 k y0 y1 y2 y3 y4) (pluviallaw03_SumSeals.j4 (k + 1) y0 y1 y2 y3 y4)) ∧ (∀ y0 y1 y2 y3 y4 y5, LeO (pluviallaw03_SumSeals.l2 k y0 y1 y2 y3 y4 y5) (pluviallaw03_SumSeals.l2 (k + 1) y0 y1 y2 y3 y4 y5)) ∧ (∀ y0 y1 y2 y3 y4, LeO (pluviallaw03_SumSeals.j6 k y0 y1 y2 y3 y4) (pluviallaw03_SumSeals.j6 (k + 1) y0 y1 y2 y3 y4)) ∧ (∀ y0 y1 y2 y3 y4 y5 y6, LeO (pluviallaw03_SumSeals.l1 k y0 y1 y2 y3 y4 y5 y6) (pluviallaw03_SumSeals.l1 (k + 1) y0 y1 y2 y3 y4 y5 y6))
  | 0 => ⟨fun _ _ _ _ _ r h => by simp [pluviallaw03_SumSeals.j0] at h, fun _ _ _ _ _ _ _ _ _ r h => by simp [pluviallaw03_SumSeals.l0] at h, fun _ _ _ _ _ _ _ r h => by simp [pluviallaw03_SumSeals.j3] at h, fun _ _ _ _ _ r h => by simp [pluviallaw03_SumSeals.j4] at h, fun _ _ _ _ _ _ r h => by simp [pluviallaw03_SumSeals.l2] at h, fun _ _ _ _ _ r h => by simp [pluviallaw03_SumSeals.j6] at h, fun _ _ _ _ _ _ _ r h => by simp [pluviallaw03_SumSeals.l1] at h⟩
  | k + 1 => by
    obtain ⟨ih0, ih1, ih2, ih3, ih4, ih5, ih6⟩ := pluviallaw03_SumSeals.mono_l k
    refine ⟨?_, ?_, ?_, ?_, ?_, ?_, ?_⟩
    · intro y0 y1 y2 y3 y4
      unfold pluviallaw03_SumSeals.j0
      repeat' first
      | (with_reducible exact ih0 _ _ _ _ _)
      | (with_reducible exact ih1 _ _ _ _ _ _ _ _ _)
      | (with_reducible exact ih2 _ _ _ _ _ _ _)
      | (with_reducible exact ih3 _ _ _ _ _)
      | (with_reducible exact ih4 _ _ _ _ _ _)
      | (with_reducible exact ih5 _ _ _ _ _)
      | (with_reducible exact ih6 _ _ _ _ _ _ _)
      | (with_reducible exact pluviallaw03_SumSeals_1.mono _ _ _ _)
      | (with_reducible exact sum_All.mono _ _)
      | (with_reducible exact LeO.refl _)
      | (with_reducible exact LeO.none _)
      | (with_reducible refine LeO.ite ?_ ?_)
      | (with_reducible refine LeO.bind ?_ (fun _ => ?_))
      | exact ih0 _ _ _ _ _
      | exact ih1 _ _ _ _ _ _ _ _ _
      | exact ih2 _ _ _ _ _ _ _
      | exact ih3 _ _ _ _ _
      | exact ih4 _ _ _ _ _ _
      | exact ih5 _ _ _ _ _
      | exact ih6 _ _ _ _ _ _ _
      | exact pluviallaw03_SumSeals_1.mono _ _ _ _
      | exact sum_All.mono _ _
      | exact LeO.none _
      | refine LeO.ite ?_ ?_
      | refine LeO.bind ?_ (fun _ => ?_)
    · intro y0 y1 y2 y3 y4 y5 y6 y7 y8
      unfold pluviallaw03_SumSeals.l0
      repeat' first
      | (with_reducible exact ih0 _ _ _ _ _)
      | (with_reducible exact ih1 _ _ _ _ _ _ _ _ _)
      | (with_reducible exact ih2 _ _ _ _ _ _ _)
      | (with_reducible exact ih3 _ _ _ _ _)
      | (with_reducible exact ih4 _ _ _ _ _ _)
      | (with_reducible exact ih5 _ _ _ _ _)
      | (with_reducible exact ih6 _ _ _ _ _ _ _)
      | (with_reducible exact pluviallaw03_SumSeals_1.mono _ _ _ _)
      | (with_reducible exact sum_All.mono _ _)
      | (with_reducible exact LeO.refl _)
      | (with_reducible exact LeO.none _)
      | (with_reducible refine LeO.ite ?_ ?_)
      | (with_reducible refine LeO.bind ?_ (fun _ => ?_))
      | exact ih0 _ _ _ _ _
      | exact ih1 _ _ _ _ _ _ _ _ _
      | exact ih2 _ _ _ _ _ _ _
      | exact ih3 _ _ _ _ _
      | exact ih4 _ _ _ _ _ _
      | exact ih5 _ _ _ _ _
      | exact ih6 _ _ _ _ _ _ _
      | exact pluviallaw03_SumSeals_1.mono _ _ _ _
      | exact sum_All.mono _ _
      | exact LeO.none _
      | refine LeO.ite ?_ ?_
      | refine LeO.bind ?_ (fun _ => ?_)
    · intro y0 y1 y2 y3 y4 y5 y6
      unfold pluviallaw03_SumSeals.j3
      repeat' first
      | (with_reducible exact ih0 _ _ _ _ _)
      | (with_reducible exact ih1 _ _ _ _ _ _ _ _ _)
      | (with_reducible exact ih2 _ _ _ _ _ _ _)
      | (with_reducible exact ih3 _ _ _ _ _)
      | (with_reducible exact ih4 _ _ _ _ _ _)
      | (with_reducible exact ih5 _ _ _ _ _)
      | (with_reducible exact ih6 _ _ _ _ _ _ _)
      | (with_reducible exact pluviallaw03_SumSeals_1.mono _ _ _ _)
      | (with_reducible exact sum_All.mono _ _)
      | (with_reducible exact LeO.refl _)
      | (with_reducible exact LeO.none _)
      | (with_reducible refine LeO.ite ?_ ?_)
      | (with_reducible refine LeO.bind ?_ (fun _ => ?_))
      | exact ih0 _ _ _ _ _
      | exact ih1 _ _ _ _ _ _ _ _ _
      | exact ih2 _ _ _ _ _ _ _
      | exact ih3 _ _ _ _ _
      | exact ih4 _ _ _ _ _ _
      | exact ih5 _ _ _ _ _
      | exact ih6 _ _ _ _ _ _ _
      | exact pluviallaw03_SumSeals_1.mono _ _ _ _
      | exact sum_All.mono _ _
      | exact LeO.none _
      | refine LeO.ite ?_ ?_
      | refine LeO.bind ?_ (fun _ => ?_)
    · intro y0 y1 y2 y3 y4
      unfold pluviallaw03_SumSeals.j4
      repeat' first
      | (with_reducible exact ih0 _ _ _ _ _)
      | (with_reducible exact ih1 _ _ _ _ _ _ _ _ _)
      | (with_reducible exact ih2 _ _ _ _ _ _ _)
      | (with_reducible exact ih3 _ _ _ _ _)
      | (with_reducible exact ih4 _ _ _ _ _ _)
      | (with_reducible exact ih5 _ _ _ _ _)
      | (with_reducible exact ih6 _ _ _ _ _ _ _)
      | (with_reducible exact pluviallaw03_SumSeals_1.mono _ _ _ _)
      | (with_reducible exact sum_All.mono _ _)
      | (with_reducible exact LeO.refl _)
      | (with_reducible exact LeO.none _)
      | (with_reducible refine LeO.ite ?_ ?_)
      | (with_reducible refine LeO.bind ?_ (fun _ => ?_))
      | exact ih0 _ _ _ _ _
      | exact ih1 _ _ _ _ _ _ _ _ _
      | exact ih2 _ _ _ _ _ _ _
      | exact ih3 _ _ _ _ _
      | exact ih4 _ _ _ _ _ _
      | exact ih5 _ _ _ _ _
      | exact ih6 _ _ _ _ _ _ _
      | exact pluviallaw03_SumSeals_1.mono _ _ _ _
      | exact sum_All.mono _ _
      | exact LeO.none _
      | refine LeO.ite ?_ ?_
      | refine LeO.bind ?_ (fun _ => ?_)
    · intro y0 y1 y2 y3 y4 y5
      unfold pluviallaw03_SumSeals.l2
      repeat' first
      | (with_reducible exact ih0 _ _ _ _ _)
      | (with_reducible exact ih1 _ _ _ _ _ _ _ _ _)
      | (with_reducible exact ih2 _ _ _ _ _ _ _)
      | (with_reducible exact ih3 _ _ _ _ _)
      | (with_reducible exact ih4 _ _ _ _ _ _)
      | (with_reducible exact ih5 _ _ _ _ _)
      | (with_reducible exact ih6 _ _ _ _ _ _ _)
      | (with_reducible exact pluviallaw03_SumSeals_1.mono _ _ _ _)
      | (with_reducible exact sum_All.mono _ _)
      | (with_reducible exact LeO.refl _)
      | (with_reducible exact LeO.none _)
      | (with_reducible refine LeO.ite ?_ ?_)
      | (with_reducible refine LeO.bind ?_ (fun _ => ?_))
      | exact ih0 _ _ _ _ _
      | exact ih1 _ _ _ _ _ _ _ _ _
      | exact ih2 _ _ _ _ _ _ _
      | exact ih3 _ _ _ _ _
      | exact ih4 _ _ _ _ _ _
      | exact ih5 _ _ _ _ _
      | exact ih6 _ _ _ _ _ _ _
      | exact pluviallaw03_SumSeals_1.mono _ _ _ _
      | exact sum_All.mono _ _
      | exact LeO.none _
      | refine LeO.ite ?_ ?_
      | refine LeO.bind ?_ (fun _ => ?_)
    · intro y0 y1 y2 y3 y4
      unfold pluviallaw03_SumSeals.j6
      repeat' first
      | (with_reducible exact ih0 _ _ _ _ _)
      | (with_reducible exact ih1 _ _ _ _ _ _ _ _ _)
      | (with_reducible exact ih2 _ _ _ _ _ _ _)
      | (with_reducible exact ih3 _ _ _ _ _)
      | (with_reducible exact ih4 _ _ _ _ _ _)
      | (with_reducible exact ih5 _ _ _ _ _)
      | (with_reducible exact ih6 _ _ _ _ _ _ _)
      | (with_reducible exact pluviallaw03_SumSeals_1.mono _ _ _ _)
      | (with_reducible exact sum_All.mono _ _)
      | (with_reducible exact LeO.refl _)
      | (with_reducible exact LeO.none _)
      | (with_reducible refine LeO.ite ?_ ?_)
      | (with_reducible refine LeO.bind ?_ (fun _ => ?_))
      | exact ih0 _ _ _ _ _
      | exact ih1 _ _ _ _ _ _ _ _ _
      | exact ih2 _ _ _ _ _ _ _
      | exact ih3 _ _ _ _ _
      | exact ih4 _ _ _ _ _ _
      | exact ih5 _ _ _ _ _
      | exact ih6 _ _ _ _ _ _ _
      | exact pluviallaw03_SumSeals_1.mono _ _ _ _
      | exact sum_All.mono _ _
      | exact LeO.none _
      | refine LeO.ite ?_ ?_
      | refine LeO.bind ?_ (fun _ => ?_)
    · intro y0 y1 y2 y3 y4 y5 y6
      unfold pluviallaw03_SumSeals.l1
      repeat' first
      | (with_reducible exact ih0 _ _ _ _ _)
      | (with_reducible exact ih1 _ _ _ _ _ _ _ _ _)
      | (with_reducible exact ih2 _ _ _ _ _ _ _)
      | (with_reducible exact ih3 _ _ _ _ _)
      | (with_reducible exact ih4 _ _ _ _ _ _)
      | (with_reducible exact ih5 _ _ _ _ _)
      | (with_reducible exact ih6 _ _ _ _ _ _ _)
      | (with_reducible exact pluviallaw03_SumSeals_1.mono _ _ _ _)
      | (with_reducible exact sum_All.mono _ _)
      | (with_reducible exact LeO.refl _)
      | (with_reducible exact LeO.none _)
      | (with_reducible refine LeO.ite ?_ ?_)
      | (with_reducible refine LeO.bind ?_ (fun _ => ?_))
      | exact ih0 _ _ _ _ _
      | exact ih1 _ _ _ _ _ _ _ _ _
      | exact ih2 _ _ _ _ _ _ _
      | exact ih3 _ _ _ _ _
      | exact ih4 _ _ _ _ _ _
      | exact ih5 _ _ _ _ _
      | exact ih6 _ _ _ _ _ _ _
      | exact pluviallaw03_SumSeals_1.mono _ _ _ _
      | exact sum_All.mono _ _
      | exact LeO.none _
      | refine LeO.ite ?_ ?_
      | refine LeO.bind ?_ (fun _ => ?_)
theorem pluviallaw03_SumSeals.mono : ∀ a0 a1 a2 a3 k, LeO (pluviallaw03_SumSeals.f k a0 a1 a2 a3) (pluviallaw03_SumSeals.f (k + 1) a0 a1 a2 a3) := by
  intro a0 a1 a2 a3 k
  obtain ⟨ih0, ih1, ih2, ih3, ih4, ih5, ih6⟩ := pluviallaw03_SumSeals.mono_l k
  unfold pluviallaw03_SumSeals.f
  repeat' first
      | (with_reducible exact ih0 _ _ _ _ _)
      | (with_reducible exact ih1 _ _ _ _ _ _ _ _ _)
      | (with_reducible exact ih2 _ _ _ _ _ _ _)
      | (with_reducible exact ih3 _ _ _ _ _)
      | (with_reducible exact ih4 _ _ _ _ _ _)
      | (with_reducible exact ih5 _ _ _ _ _)
      | (with_reducible exact ih6 _ _ _ _ _ _ _)
      | (with_reducible exact pluviallaw03_SumSeals_1.mono _ _ _ _)
      | (with_reducible exact sum_All.mono _ _)
      | (with_reducible exact LeO.refl _)
      | (with_reducible exact LeO.none _)
      | (with_reducible refine LeO.ite ?_ ?_)
      | (with_reducible refine LeO.bind ?_ (fun _ => ?_))
      | exact ih0 _ _ _ _ _
      | exact ih1 _ _ _ _ _ _ _ _ _
      | exact ih2 _ _ _ _ _ _ _
      | exact ih3 _ _ _ _ _
      | exact ih4 _ _ _ _ _ _
      | exact ih5 _ _ _ _ _
      | exact ih6 _ _ _ _ _ _ _
      | exact pluviallaw03_SumSeals_1.mono _ _ _ _
      | exact sum_All.mono _ _
      | exact LeO.none _
      | refine LeO.ite ?_ ?_
      | refine LeO.bind ?_ (fun _ => ?_)
set_option maxHeartbeats 8000000 in
set_option maxRecDepth 100000 in
theorem pluviallaw03_SumSeals.calls (k : Nat) (A0 : Option Addr) (c0 : Nat) (l0 : List (List Int)) (a1 : Int) (a2 : Int) (a3 : Int) (r : Bool) (hr_ : Aside0 (r = true)) (w00 : World) (hr0 : Kd.C (Kd.slice 5 (Kd.int .u8)) w00 A0 l0.length l0) (hc0 : l0.length ≤ c0) (h : pluviallaw03_SumSeals.f k l0 a1 a2 a3 = some r) :
    Calls Try.prog 7 #[.slice A0 l0.length c0, .int .u16 a1, .int .u16 a2, .int .u8 a3] w00 fun e w' => e = .returned (.bool r) ∧ Below w00.heap.size w00 w' := by
  have HR0 := Aside0.mk hr0
  have HC0 := Aside0.mk hc0
  clear hr0 hc0
  have key : ∀ (w : World) (pb : Addr), w00.alloc (.cells #[.slice A0 l0.length c0] 22) = w → ({ block := w00.heap.size, off := 0 } : Addr) = pb → Kd.C (Kd.slice 5 (Kd.int .u8)) w A0 l0.length l0 → w.cell? pb = some (.slice A0 l0.length c0) → Calls Try.prog 7 #[.slice A0 l0.length c0, .int .u16 a1, .int .u16 a2, .int .u8 a3] w00 fun e w' => e = .returned (.bool r) ∧ Below w.heap.size w w' := ?key
  · refine (key _ _ rfl rfl (Kd.C_alloc HR0.out _) (World.cell?_alloc_at _ _ _ _ rfl)).mono ?_
    rintro e w' ⟨he, hb⟩
    have h1 := (Below.refl w00.heap.size w00).alloc (Nat.le_refl _) (.cells #[.slice A0 l0.length c0] 22)
    exact ⟨he, h1.trans (hb.mono h1.size)⟩
  case key =>
  intro w pb hwn hpn hrn hpb
  clear HR0
  have HWN := Aside0.mk hwn
  have HPN := Aside0.mk hpn
  have HR0 := Aside0.mk hrn
  have HPB := Aside0.mk hpb
  clear hwn hpn hrn hpb
  have HB := Aside0.mk (Below.refl w.heap.size w)
  have H : (if (l0.length : Int) = 0 then (pluviallaw03_SumSeals.j0 k a1 a2 a3 l0 true) else (pluviallaw03_SumSeals.j0 k a1 a2 a3 l0 (decide ((l0.length : Int) > 20)))) = some r := h
  clear h
  have HC5 := Aside0.mk H
  clear H
  go_enter Try.func7, Try.ntmps7
  go_upto_region 1 with (fail)
  rw [HWN.out, HPN.out]
  clear HWN HPN w00
  go_cut [30] (fun v30 wc => ∃ (kq : Nat) (x30_4 : Bool), v30 = .bool x30_4 ∧ Aside0 (pluviallaw03_SumSeals.j0 kq a1 a2 a3 l0 x30_4 = some r) ∧ Aside0 (kq ≤ k) ∧ Aside0 (Below w.heap.size w wc))
  case first =>
    have H := HC5.out
    clear HC5
    by_cases c6 : (l0.length : Int) = 0
    · rw [if_pos c6] at H
      have c6b0 : ((l0.length : Int) == 0) = true := beq_iff_eq.mpr c6
      have c6b1 : ((l0.length : Int) != 0) = false := bne_eq_false_iff_eq.mpr c6
      clear c6
      (first | rw [c6b0] | (simp only [i64_w, i32_w]; rw [c6b0]) | skip)
      have H' := Aside0.mk H
      clear H
      have hxpb := HPB.out
      go_wp2
      go_meet
      case rel => exact ⟨_, (true), (by first | rfl | (simp; done) | (simp [*]; done) | (simp [*]; omega)), H', ⟨by first | omega | exact Nat.le_refl _⟩, ⟨by repeat (first | (with_reducible first | exact HB.out | apply below_alloc | apply pw_below_drewN | apply below_drew1) | exact HB.out)⟩⟩
    · rw [if_neg c6] at H
      have c6b0 : ((l0.length : Int) == 0) = false := beq_eq_false_iff_ne.mpr c6
      have c6b1 : ((l0.length : Int) != 0) = true := bne_iff_ne.mpr c6
      have c6b2 : ¬ (l0 = []) := fun h_ => c6 (by rw [h_]; rfl)
      (first | rw [c6b0] | (simp only [i64_w, i32_w]; rw [c6b0]) | skip)
      have H' := Aside0.mk H
      clear H
      have hxpb := HPB.out
      go_wp2
      go_meet
      case rel => exact ⟨_, (decide ((l0.length : Int) > 20)), (by first | rfl | (simp; done) | (simp [*]; done) | (simp [*]; omega)), H', ⟨by first | omega | exact Nat.le_refl _⟩, ⟨by repeat (first | (with_reducible first | exact HB.out | apply below_alloc | apply pw_below_drewN | apply below_drew1) | exact HB.out)⟩⟩
  case rest =>
    clear HC5
    try clear p2
    try clear c6
    try clear c6b0
    try clear c6b1
    try clear c6b2
    obtain ⟨kq, x30_4, rfl, HA, HJ4, HB⟩ := hcut
    cases kq with
    | zero => exact absurd HA.out (by simp [pluviallaw03_SumSeals.j0])
    | succ kj4 =>
      have H := HA.out
      clear HA
      simp only [pluviallaw03_SumSeals.j0] at H
      by_cases c7 : x30_4 = true
      · subst c7
        have H1 : ((pluviallaw03_awake.f).bind fun t176 => (some t176)) = some r := by rw [if_pos rfl] at H; exact H
        clear H
        have H := H1
        clear H1
        replace H := Option.bind_eq_some_iff.mp H
        obtain ⟨t176, A80, H⟩ := H
        replace H : (some t176) = some r := H
        have A8 := Aside0.mk A80
        clear A80
        obtain rfl := Option.some.inj H
        go_wp2_with (first | ((with_reducible refine gate_callee (f := 8) rfl ?_); refine goesL_ (some 31) rfl rfl Try.func8 (by kernel_rfl) rfl #[] rfl (by (try simp only [List.map_toArray, List.map_cons, List.map_nil]); first | done | rfl | (simp only [List.length_drop, List.length_take]; rfl)) ?_; (with_reducible refine (pluviallaw03_awake.calls  t176 _ A8.out).mono ?_); rintro e w9 ⟨rfl, hb⟩; refine ⟨_, rfl, ?_⟩; have n0_ := Aside0.mk (below_step (by repeat (first | (with_reducible first | exact HB.out | apply below_alloc | apply pw_below_drewN | apply below_drew1) | exact HB.out)) hb); clear HB; have HB := n0_; clear n0_; (try clear hb); (try clear hb2); (try clear hk); (try clear hi)))
        go_ret
        exact ⟨by first | rfl | (simp [errW_none, errW_some] <;> rfl) | (simp [*, errW_none, errW_some] <;> rfl), by repeat (first | (with_reducible first | exact HB.out | apply below_alloc | apply pw_below_drewN | apply below_drew1) | exact HB.out)⟩
      · replace c7 := Bool.eq_false_iff.mpr c7
        subst c7
        have H1 : (pluviallaw03_SumSeals.l0 kj4 a1 a2 a3 l0 ([] : List Int) ([] : List Int) l0 (l0.length : Int) 0) = some r := by rw [if_neg (show ¬ (false = true) by decide)] at H; exact H
        clear H
        have H := H1
        clear H1
        have H' := Aside0.mk H
        clear H
        have hxpb := (HB.out.cell (World.block_lt_of_cell? w _ HPB.out)).trans HPB.out
        go_wp2
        clear hxpb
        go_loopg [9, 10, 34] kj4 (fun kq v9 v10 v34 w' => ∃ (x9_2 : List Int) (x10_2 : List Int) (x34_2 : Int), v34 = .int .i64 x34_2 ∧ Aside0 (pluviallaw03_SumSeals.l0 kq a1 a2 a3 l0 x9_2 x10_2 l0 (l0.length : Int) x34_2 = some r) ∧ Aside0 (kq ≤ kj4) ∧ Aside0 (Kd.R (Kd.int .u8) 5 w' w.heap.size (fun _ => True) v9 x9_2) ∧ Aside0 (Kd.R (Kd.int .i64) 3 w' w.heap.size (fun _ => True) v10 x10_2) ∧ Aside0 (Below w.heap.size w w'))
        case atStart => exact ⟨(([] : List Int)), (([] : List Int)), (0), (by first | rfl | (simp; done) | (simp [*]; done) | (simp [*]; omega)), H', ⟨Nat.le_refl _⟩, ⟨by first | exact Kd.R_nil _ _ _ _ _ | exact Kd.N_nil _ _ _ _ _ | exact Kd.V_nil _ _ _ _ _ | exact Kd.Q_nil _ _ _ _ _ | exact Kd.S_nil _ _ _ _ _⟩, ⟨by first | exact Kd.R_nil _ _ _ _ _ | exact Kd.N_nil _ _ _ _ _ | exact Kd.V_nil _ _ _ _ _ | exact Kd.Q_nil _ _ _ _ _ | exact Kd.S_nil _ _ _ _ _⟩, ⟨by repeat (first | (with_reducible first | exact HB.out | apply below_alloc | apply pw_below_drewN | apply below_drew1) | exact HB.out)⟩⟩
        case round =>
          clear H'
          try clear p2
          try clear c6
          try clear c6b0
          try clear c6b1
          try clear c6b2
          try clear c7
          try clear c8
          try clear p2
          obtain ⟨x9_2, x10_2, x34_2, rfl, HA, HK2, HO_9, HO_10, HB⟩ := hrel
          cases gk with
          | zero => exact absurd HA.out (by simp [pluviallaw03_SumSeals.l0])
          | succ k2 =>
            have H := HA.out
            clear HA
            simp only [pluviallaw03_SumSeals.l0] at H
            by_cases c10 : x34_2 < (l0.length : Int)
            · rw [if_pos c10] at H
              have c10b0 : decide (x34_2 < (l0.length : Int)) = true := decide_eq_true c10
              clear c10
              by_cases c11 : 0 ≤ x34_2
              · rw [if_pos c11] at H
                have c11b0 : decide (0 ≤ x34_2) = true := decide_eq_true c11
                clear c11
                by_cases c12 : x34_2 < (l0.length : Int)
                · rw [if_pos c12] at H
                  have c12b0 : decide (x34_2 < (l0.length : Int)) = true := decide_eq_true c12
                  clear c12
                  by_cases c13 : ((rd_L1 l0 x34_2).length : Int) > 200
                  · rw [if_pos c13] at H
                    have c13b0 : decide (200 < ((rd_L1 l0 x34_2).length : Int)) = true := decide_eq_true c13
                    have c13b1 : decide (200 < (rd_L1 l0 x34_2).length) = true := decide_eq_true (by omega)
                    clear c13
                    replace H := Option.bind_eq_some_iff.mp H
                    obtain ⟨t178, A140, H⟩ := H
                    replace H : (some t178) = some r := H
                    have A14 := Aside0.mk A140
                    clear A140
                    obtain rfl := Option.some.inj H
                    have p177 : 0 ≤ (x34_2 : Int) := of_decide_eq_true (by first | (with_reducible assumption) | assumption)
                    have q177 : x34_2 < (l0.length : Int) := of_decide_eq_true (by first | (with_reducible assumption) | assumption)
                    obtain ⟨ad177, A177_0, c177_0, e177, hx177_0, hl177_0, hi177_0⟩ := at_L1 HR0.out x34_2 p177 q177
                    cases e177
                    replace hx177_0 := (HB.out.cell (World.block_lt_of_cell? w _ hx177_0)).trans hx177_0
                    have HR177_0 := Aside0.mk hi177_0
                    have HC177_0 := Aside0.mk hl177_0
                    clear hi177_0 hl177_0
                    replace p177 := eq_true p177
                    replace q177 := eq_true q177
                    go_wp2_with (first | ((with_reducible refine gate_callee (f := 8) rfl ?_); refine goesL_ (some 41) rfl rfl Try.func8 (by kernel_rfl) rfl #[] rfl (by (try simp only [List.map_toArray, List.map_cons, List.map_nil]); first | done | rfl | (simp only [List.length_drop, List.length_take]; rfl)) ?_; (with_reducible refine (pluviallaw03_awake.calls  t178 _ A14.out).mono ?_); rintro e w15 ⟨rfl, hb⟩; refine ⟨_, rfl, ?_⟩; have n0_ := Aside0.mk (Kd.R_below (by (with_reducible repeat (first | apply Kd.R_alloc | apply Kd.R_drewN | apply Kd.R_drew)); exact HO_9.out) hb); have n1_ := Aside0.mk (Kd.R_below (by (with_reducible repeat (first | apply Kd.R_alloc | apply Kd.R_drewN | apply Kd.R_drew)); exact HO_10.out) hb); have n2_ := Aside0.mk (below_step (by repeat (first | (with_reducible first | exact HB.out | apply below_alloc | apply pw_below_drewN | apply below_drew1) | exact HB.out)) hb); clear HO_9; clear HO_10; clear HB; have HO_9 := n0_; have HO_10 := n1_; have HB := n2_; clear n0_ n1_ n2_; (try clear hb); (try clear hb2); (try clear hk); (try clear hi)))
                    go_ret
                    exact ⟨by first | rfl | (simp [errW_none, errW_some] <;> rfl) | (simp [*, errW_none, errW_some] <;> rfl), by repeat (first | (with_reducible first | exact HB.out | apply below_alloc | apply pw_below_drewN | apply below_drew1) | exact HB.out)⟩
                  · rw [if_neg c13] at H
                    have c13b0 : decide (200 < ((rd_L1 l0 x34_2).length : Int)) = false := decide_eq_false c13
                    have c13b1 : decide (200 < (rd_L1 l0 x34_2).length) = false := decide_eq_false (by omega)
                    clear c13
                    replace H := Option.bind_eq_some_iff.mp H
                    obtain ⟨t179, A160, H⟩ := H
                    replace H : (if x9_2.length + t179.length < 140737488355328 then ((some (x9_2 ++ t179 : List Int)).bind fun y182 => (if x10_2.length < 17592186044416 then (pluviallaw03_SumSeals.l0 k2 a1 a2 a3 l0 y182 (x10_2 ++ [(y182.length : Int)]) l0 (l0.length : Int) (wrap64 (x34_2 + 1))) else (none))) else (none)) = some r := H
                    have A16 := Aside0.mk A160
                    clear A160
                    by_cases c17 : x9_2.length + t179.length < 140737488355328
                    · rw [if_pos c17] at H
                      have LMc17 := Aside0.mk c17
                      clear c17
                      obtain ⟨y182, hy182⟩ : ∃ y_ : List Int, y_ = (x9_2 ++ t179) := ⟨_, rfl⟩
                      replace H : (if x10_2.length < 17592186044416 then (pluviallaw03_SumSeals.l0 k2 a1 a2 a3 l0 y182 (x10_2 ++ [(y182.length : Int)]) l0 (l0.length : Int) (wrap64 (x34_2 + 1))) else (none)) = some r := by first | (rw [hy182]; with_reducible exact H) | (have H2_ := (Option.bind_some _ _).symm.trans H; rw [hy182]; with_reducible exact H2_) | (have H2_ := (Option.bind_some _ _).symm.trans H; with_reducible exact H2_) | with_reducible exact H | (rw [hy182]; exact H) | exact H
                      have Ny182 := Aside0.mk hy182
                      clear hy182
                      by_cases c18 : x10_2.length < 17592186044416
                      · rw [if_pos c18] at H
                        have LMc18 := Aside0.mk c18
                        clear c18
                        obtain ⟨y185, hy185⟩ : ∃ y_ : List Int, y_ = (x10_2 ++ [(y182.length : Int)]) := ⟨_, rfl⟩
                        replace H : (pluviallaw03_SumSeals.l0 k2 a1 a2 a3 l0 y182 y185 l0 (l0.length : Int) (wrap64 (x34_2 + 1))) = some r := by first | (rw [hy185]; with_reducible exact H) | (have H2_ := (Option.bind_some _ _).symm.trans H; rw [hy185]; with_reducible exact H2_) | (have H2_ := (Option.bind_some _ _).symm.trans H; with_reducible exact H2_) | with_reducible exact H | (rw [hy185]; exact H) | exact H
                        have Ny185 := Aside0.mk hy185
                        clear hy185
                        have H' := Aside0.mk H
                        clear H
                        have p177 : 0 ≤ (x34_2 : Int) := of_decide_eq_true (by first | (with_reducible assumption) | assumption)
                        have q177 : x34_2 < (l0.length : Int) := of_decide_eq_true (by first | (with_reducible assumption) | assumption)
                        obtain ⟨ad177, A177_0, c177_0, e177, hx177_0, hl177_0, hi177_0⟩ := at_L1 HR0.out x34_2 p177 q177
                        cases e177
                        replace hx177_0 := (HB.out.cell (World.block_lt_of_cell? w _ hx177_0)).trans hx177_0
                        have HR177_0 := Aside0.mk hi177_0
                        have HC177_0 := Aside0.mk hl177_0
                        clear hi177_0 hl177_0
                        replace p177 := eq_true p177
                        replace q177 := eq_true q177
                        go_wp2_with (first | ((with_reducible refine gate_callee (f := 18) rfl ?_); refine goesL_ (some 44) rfl rfl Try.func18 (by kernel_rfl) rfl #[.slice A177_0 (rd_L1 l0 x34_2).length c177_0] rfl (by (try simp only [List.map_toArray, List.map_cons, List.map_nil]); first | done | rfl | (simp only [List.length_drop, List.length_take]; rfl)) ?_; (with_reducible refine (sum_Seal.calls (fun k_ => k_ < w.heap.size) _ _ (rd_L1 l0 x34_2) t179 _ ?side1 A16.out).mono ?_); (case side1 => exact Kd.V_mk HC177_0.out (Kd.F_below (Kd.C_F (Kd.heap_int .u8) HR177_0.out) (by repeat (first | (with_reducible first | exact HB.out | apply below_alloc | apply pw_below_drewN | apply below_drew1) | exact HB.out)))); rintro e w19 ⟨v180, rfl, ho0, hb⟩; refine ⟨_, rfl, ?_⟩; have n0_ := Aside0.mk (Kd.R_elder' (by (with_reducible repeat (first | apply Kd.R_alloc | apply Kd.R_drewN | apply Kd.R_drew)); exact HO_9.out) (Kd.R_base ho0) hb); have n1_ := Aside0.mk (Kd.R_below (by (with_reducible repeat (first | apply Kd.R_alloc | apply Kd.R_drewN | apply Kd.R_drew)); exact HO_10.out) hb); have n2_ := Aside0.mk (Kd.R_lower (Kd.R_new' (Kd.R_mono (ok' := fun k_ => True) ho0 (fun _ hk_ => trivial)) (Kd.R_lt (by (with_reducible repeat (first | apply Kd.R_alloc | apply Kd.R_drewN | apply Kd.R_drew)); exact HO_9.out))) (below_size (by repeat (first | (with_reducible first | exact HB.out | apply below_alloc | apply pw_below_drewN | apply below_drew1) | exact HB.out)))); have n3_ := Aside0.mk (below_step (by repeat (first | (with_reducible first | exact HB.out | apply below_alloc | apply pw_below_drewN | apply below_drew1) | exact HB.out)) hb); clear HO_9; clear HO_10; clear HB; have HO_9 := n0_; have HO_10 := n1_; have HO181 := n2_; have HB := n3_; clear n0_ n1_ n2_ n3_; (try clear hb); (try clear hb2); (try clear hk); (try clear hi); (try clear ho0); obtain ⟨Ao21, co21, eo21⟩ := Kd.R_slice HO181.out; subst eo21) | ((with_reducible refine gate_builtin (b := .append) (xs := #[.tmp 42, .tmp 44]) rfl ?_); (try (refine gate_guard (by rfl) ?_; dsimp only)); at_builtin; refine Kd.R_append_rows (Kd.int .u8) (w0 := w) w.heap.size rfl (.tmp 42) (.tmp 44) 24 5 (.int .u8 0) 1 rfl Try.underlying24 info5 rfl (by decide) (by omega) u9 x9_2 t179 _ _ _ (fun k_ => some k_ ≠ (.slice Ao21 t179.length co21 : Value).ownBlock) (fun _ => False) rfl rfl ?aO ?aR (fun _ _ h => h) (fun _ h => h.elim) ?aF ?aB ?aS ?aL ?_; (case aR => repeat (first | exact (Kd.R_reads' HO181.out).2.2 | (with_reducible refine Kd.C_alloc ?_ _) | (with_reducible refine Kd.C_drewN ?_ _) | (with_reducible refine Kd.C_drew ?_))); (case aB => exact (by repeat (first | (with_reducible first | exact HB.out | apply below_alloc | apply pw_below_drewN | apply below_drew1) | exact HB.out))); (case aF => exact (fun k_ hk => Kd.fresh' (Kd.R_lt (by (with_reducible repeat (first | apply Kd.R_alloc | apply Kd.R_drewN | apply Kd.R_drew)); exact HO181.out)) k_ hk)); (case aO => exact (by (with_reducible repeat (first | apply Kd.R_alloc | apply Kd.R_drewN | apply Kd.R_drew)); exact Kd.R_mono HO_9.out (fun _ hk => hk.2))); (case aS => exact (below_size (by repeat (first | (with_reducible first | exact HB.out | apply below_alloc | apply pw_below_drewN | apply below_drew1) | exact HB.out)))); (case aL => have := LMc17.out; omega); intro v183 w20 ho hb hg hat; rw [← Ny182.out] at ho; have n0_ := Aside0.mk (Kd.R_over' (by (with_reducible repeat (first | apply Kd.R_alloc | apply Kd.R_drewN | apply Kd.R_drew)); exact HO_10.out) (Kd.R_typed (by (with_reducible repeat (first | apply Kd.R_alloc | apply Kd.R_drewN | apply Kd.R_drew)); exact HO_9.out)) (by decide) hg); have n1_ := Aside0.mk (Kd.R_after (ok := (fun _ => True)) (by (with_reducible repeat (first | apply Kd.R_alloc | apply Kd.R_drewN | apply Kd.R_drew)); exact HO181.out) hg hat); have n2_ := Aside0.mk (hb); have n3_ := Aside0.mk (ho); clear HO_10; clear HO181; clear HB; clear HO_9; have HO_10 := n0_; have HO181 := n1_; have HB := n2_; have HO184 := n3_; clear n0_ n1_ n2_ n3_; clear ho hb hg hat; obtain ⟨Ao22, co22, eo22⟩ := Kd.R_slice HO184.out; subst eo22) | ((with_reducible refine gate_builtin (b := .append) (xs := #[.tmp 46, .tmp 49]) rfl ?_); (try (refine gate_guard (by rfl) ?_; dsimp only)); at_builtin; refine Kd.R_append (Kd.int .i64) (w0 := w) w.heap.size rfl (.tmp 46) (.tmp 49) 42 3 (.int .i64 0) 8 rfl Try.underlying42 info3 rfl (by decide) (by omega) u10 x10_2 (y182.length : Int) [.int .i64 (y182.length : Int)] (fun _ => True) (fun _ => False) rfl rfl ?aP (fun _ hk => hk.elim) ?aF ?aO ?aB ?aS ?aL ?_; (case aP => exact rfl); (case aB => exact (by repeat (first | (with_reducible first | exact HB.out | apply below_alloc | apply pw_below_drewN | apply below_drew1) | exact HB.out))); (case aF => exact (fun _ _ => trivial)); (case aO => exact (by (with_reducible repeat (first | apply Kd.R_alloc | apply Kd.R_drewN | apply Kd.R_drew)); exact HO_10.out)); (case aS => exact (below_size (by repeat (first | (with_reducible first | exact HB.out | apply below_alloc | apply pw_below_drewN | apply below_drew1) | exact HB.out)))); (case aL => have := LMc18.out; omega); intro v186 w23 ho hb hg hat; rw [← Ny185.out] at ho; have n0_ := Aside0.mk (Kd.R_over' (by (with_reducible repeat (first | apply Kd.R_alloc | apply Kd.R_drewN | apply Kd.R_drew)); exact HO181.out) (Kd.R_typed (by (with_reducible repeat (first | apply Kd.R_alloc | apply Kd.R_drewN | apply Kd.R_drew)); exact HO_10.out)) (by decide) hg); have n1_ := Aside0.mk (Kd.R_over' (by (with_reducible repeat (first | apply Kd.R_alloc | apply Kd.R_drewN | apply Kd.R_drew)); exact HO184.out) (Kd.R_typed (by (with_reducible repeat (first | apply Kd.R_alloc | apply Kd.R_drewN | apply Kd.R_drew)); exact HO_10.out)) (by decide) hg); have n2_ := Aside0.mk (hb); have n3_ := Aside0.mk (ho); clear HO181; clear HO184; clear HB; clear HO_10; have HO181 := n0_; have HO184 := n1_; have HB := n2_; have HO187 := n3_; clear n0_ n1_ n2_ n3_; clear ho hb hg hat))
                        go_roundg k2
                        case measure => have := HJ4.out; have := HK2.out; omega
                        case rel => exact ⟨(y182), (y185), (wrap64 (x34_2 + 1)), (by first | rfl | (simp; done) | (simp [*]; done) | (simp [*]; omega)), H', ⟨by have := HJ4.out; have := HK2.out; omega⟩, ⟨by (with_reducible repeat (first | apply Kd.R_alloc | apply Kd.R_drewN | apply Kd.R_drew)); exact Kd.R_mono HO184.out (fun _ hk => trivial)⟩, ⟨by (with_reducible repeat (first | apply Kd.R_alloc | apply Kd.R_drewN | apply Kd.R_drew)); exact HO187.out⟩, ⟨by repeat (first | (with_reducible first | exact HB.out | apply below_alloc | apply pw_below_drewN | apply below_drew1) | exact HB.out)⟩⟩
                      · rw [if_neg c18] at H
                        exact absurd H (by simp)
                    · rw [if_neg c17] at H
                      exact absurd H (by simp)
                · rw [if_neg c12] at H
                  exact absurd H (by simp)
              · rw [if_neg c11] at H
                exact absurd H (by simp)
            · rw [if_neg c10] at H
              have c10b0 : decide (x34_2 < (l0.length : Int)) = false := decide_eq_false c10
              clear c10
              by_cases c24 : (wrap64 ((x9_2.length : Int) + 1)) = 0
              · rw [if_pos c24] at H
                exact absurd H (by simp)
              · rw [if_neg c24] at H
                have c24b0 : ((wrap64 ((x9_2.length : Int) + 1)) == 0) = false := beq_eq_false_iff_ne.mpr c24
                have c24b1 : ((wrap64 ((x9_2.length : Int) + 1)) != 0) = true := bne_iff_ne.mpr c24
                have HC25 := Aside0.mk H
                clear H
                obtain ⟨Ao26, co26, eo26⟩ := Kd.R_slice HO_9.out
                subst eo26
                go_upto_block 2 with (fail)
                go_cut [15] (fun v15 wc => ∃ (kq : Nat) (x15_24 : Int), v15 = .int .i64 x15_24 ∧ Aside0 (pluviallaw03_SumSeals.j3 kq a2 a3 l0 x9_2 x10_2 (Int.tmod (wrap64 (a1)) (wrap64 ((x9_2.length : Int) + 1))) x15_24 = some r) ∧ Aside0 (kq ≤ k2) ∧ Aside0 (Kd.R (Kd.int .u8) 5 wc w.heap.size (fun _ => True) (.slice Ao26 x9_2.length co26) x9_2) ∧ Aside0 (Kd.R (Kd.int .i64) 3 wc w.heap.size (fun _ => True) u10 x10_2) ∧ Aside0 (Below w.heap.size w wc))
                case first =>
                  have H := HC25.out
                  clear HC25
                  have H' := Aside0.mk H
                  clear H
                  go_wp2
                  go_loopg [15] k2 (fun kq v15 w' => ∃ (x15_3 : Int), v15 = .int .i64 x15_3 ∧ Aside0 (pluviallaw03_SumSeals.l1 kq a2 a3 l0 x9_2 x10_2 (Int.tmod (wrap64 (a1)) (wrap64 ((x9_2.length : Int) + 1))) x15_3 = some r) ∧ Aside0 (kq ≤ k2) ∧ Aside0 (Kd.R (Kd.int .u8) 5 w' w.heap.size (fun _ => True) (.slice Ao26 x9_2.length co26) x9_2) ∧ Aside0 (Kd.R (Kd.int .i64) 3 w' w.heap.size (fun _ => True) u10 x10_2) ∧ Aside0 (Below w.heap.size w w'))
                  case atStart => exact ⟨(0), (by first | rfl | (simp; done) | (simp [*]; done) | (simp [*]; omega)), H', ⟨Nat.le_refl _⟩, ⟨by (with_reducible repeat (first | apply Kd.R_alloc | apply Kd.R_drewN | apply Kd.R_drew)); exact HO_9.out⟩, ⟨by (with_reducible repeat (first | apply Kd.R_alloc | apply Kd.R_drewN | apply Kd.R_drew)); exact HO_10.out⟩, ⟨by repeat (first | (with_reducible first | exact HB.out | apply below_alloc | apply pw_below_drewN | apply below_drew1) | exact HB.out)⟩⟩
                  case round =>
                    clear H'
                    try clear c1
                    try clear p1
                    try clear q1
                    try clear hx1
                    try clear c2
                    try clear p2
                    try clear c6
                    try clear c6b0
                    try clear c6b1
                    try clear c6b2
                    try clear p6
                    try clear c7
                    try clear c8
                    try clear c10
                    try clear c10b0
                    try clear c11
                    try clear c11b0
                    try clear c12
                    try clear c12b0
                    try clear c13
                    try clear c13b0
                    try clear c13b1
                    try clear c17
                    try clear p17
                    try clear q17
                    try clear hx17
                    try clear c18
                    try clear c24
                    try clear c24b0
                    try clear c24b1
                    try clear hx177_0
                    try clear p177
                    try clear p2
                    try clear q177
                    obtain ⟨x15_3, rfl, HA, HK3, HO_9, HO_10, HB⟩ := hrel
                    cases gk with
                    | zero => exact absurd HA.out (by simp [pluviallaw03_SumSeals.l1])
                    | succ k3 =>
                      have H := HA.out
                      clear HA
                      simp only [pluviallaw03_SumSeals.l1] at H
                      by_cases c27 : x15_3 < (x10_2.length : Int)
                      · rw [if_pos c27] at H
                        have c27b0 : decide (x15_3 < (x10_2.length : Int)) = true := decide_eq_true c27
                        clear c27
                        (first | rw [c27b0] | (simp only [i64_w, i32_w]; rw [c27b0]) | skip)
                        by_cases c28 : 0 ≤ x15_3
                        · rw [if_pos c28] at H
                          have c28b0 : decide (0 ≤ x15_3) = true := decide_eq_true c28
                          clear c28
                          by_cases c29 : (rd x10_2 x15_3) ≤ (Int.tmod (wrap64 (a1)) (wrap64 ((x9_2.length : Int) + 1)))
                          · rw [if_pos c29] at H
                            have c29b0 : decide ((rd x10_2 x15_3) ≤ (Int.tmod (wrap64 (a1)) (wrap64 ((x9_2.length : Int) + 1)))) = true := decide_eq_true c29
                            clear c29
                            have H' := Aside0.mk H
                            clear H
                            obtain ⟨Ao30, co30, eo30⟩ := Kd.R_slice HO_10.out
                            subst eo30
                            have p188 : 0 ≤ (x15_3 : Int) := of_decide_eq_true (by first | (with_reducible assumption) | assumption)
                            have q188 : x15_3 < (x10_2.length : Int) := of_decide_eq_true (by first | (with_reducible assumption) | assumption)
                            obtain ⟨ad188, e188, hx188_0⟩ := Kd.at_int (Kd.R_reads' HO_10.out).2.2 x15_3 p188 q188
                            cases e188
                            replace p188 := eq_true p188
                            replace q188 := eq_true q188
                            go_wp2
                            go_roundg k3
                            case measure => have := HJ4.out; have := HK2.out; have := HK3.out; omega
                            case rel => exact ⟨(wrap64 (x15_3 + 1)), (by first | rfl | (simp; done) | (simp [*]; done) | (simp [*]; omega)), H', ⟨by have := HJ4.out; have := HK2.out; have := HK3.out; omega⟩, ⟨by (with_reducible repeat (first | apply Kd.R_alloc | apply Kd.R_drewN | apply Kd.R_drew)); exact HO_9.out⟩, ⟨by (with_reducible repeat (first | apply Kd.R_alloc | apply Kd.R_drewN | apply Kd.R_drew)); exact HO_10.out⟩, ⟨by repeat (first | (with_reducible first | exact HB.out | apply below_alloc | apply pw_below_drewN | apply below_drew1) | exact HB.out)⟩⟩
                          · rw [if_neg c29] at H
                            have c29b0 : decide ((rd x10_2 x15_3) ≤ (Int.tmod (wrap64 (a1)) (wrap64 ((x9_2.length : Int) + 1)))) = false := decide_eq_false c29
                            clear c29
                            have H' := Aside0.mk H
                            clear H
                            obtain ⟨Ao31, co31, eo31⟩ := Kd.R_slice HO_10.out
                            subst eo31
                            have p188 : 0 ≤ (x15_3 : Int) := of_decide_eq_true (by first | (with_reducible assumption) | assumption)
                            have q188 : x15_3 < (x10_2.length : Int) := of_decide_eq_true (by first | (with_reducible assumption) | assumption)
                            obtain ⟨ad188, e188, hx188_0⟩ := Kd.at_int (Kd.R_reads' HO_10.out).2.2 x15_3 p188 q188
                            cases e188
                            replace p188 := eq_true p188
                            replace q188 := eq_true q188
                            go_wp2
                            go_meet
                            case rel => exact ⟨_, (x15_3), (by first | rfl | (simp; done) | (simp [*]; done) | (simp [*]; omega)), H', ⟨by have := HJ4.out; have := HK2.out; have := HK3.out; first | omega | exact Nat.le_refl _⟩, ⟨by (with_reducible repeat (first | apply Kd.R_alloc | apply Kd.R_drewN | apply Kd.R_drew)); exact HO_9.out⟩, ⟨by (with_reducible repeat (first | apply Kd.R_alloc | apply Kd.R_drewN | apply Kd.R_drew)); exact HO_10.out⟩, ⟨by repeat (first | (with_reducible first | exact HB.out | apply below_alloc | apply pw_below_drewN | apply below_drew1) | exact HB.out)⟩⟩
                        · rw [if_neg c28] at H
                          exact absurd H (by simp)
                      · rw [if_neg c27] at H
                        have c27b0 : decide (x15_3 < (x10_2.length : Int)) = false := decide_eq_false c27
                        clear c27
                        (first | rw [c27b0] | (simp only [i64_w, i32_w]; rw [c27b0]) | skip)
                        have H' := Aside0.mk H
                        clear H
                        obtain ⟨Ao32, co32, eo32⟩ := Kd.R_slice HO_10.out
                        subst eo32
                        go_wp2
                        go_meet
                        case rel => exact ⟨_, (x15_3), (by first | rfl | (simp; done) | (simp [*]; done) | (simp [*]; omega)), H', ⟨by have := HJ4.out; have := HK2.out; have := HK3.out; first | omega | exact Nat.le_refl _⟩, ⟨by (with_reducible repeat (first | apply Kd.R_alloc | apply Kd.R_drewN | apply Kd.R_drew)); exact HO_9.out⟩, ⟨by (with_reducible repeat (first | apply Kd.R_alloc | apply Kd.R_drewN | apply Kd.R_drew)); exact HO_10.out⟩, ⟨by repeat (first | (with_reducible first | exact HB.out | apply below_alloc | apply pw_below_drewN | apply below_drew1) | exact HB.out)⟩⟩
                case rest =>
                  clear HC25
                  try clear c1
                  try clear p1
                  try clear q1
                  try clear hx1
                  try clear c2
                  try clear p2
                  try clear c6
                  try clear c6b0
                  try clear c6b1
                  try clear c6b2
                  try clear p6
                  try clear c7
                  try clear c8
                  try clear c10
                  try clear c10b0
                  try clear c11
                  try clear c11b0
                  try clear c12
                  try clear c12b0
                  try clear c13
                  try clear c13b0
                  try clear c13b1
                  try clear c17
                  try clear p17
                  try clear q17
                  try clear hx17
                  try clear c18
                  try clear p18
                  try clear q18
                  try clear hx18
                  try clear c24
                  try clear c24b0
                  try clear c24b1
                  try clear c27
                  try clear c27b0
                  try clear c28
                  try clear c28b0
                  try clear c29
                  try clear c29b0
                  try clear hx177_0
                  try clear hx188_0
                  try clear p1
                  try clear p17
                  try clear p177
                  try clear p188
                  try clear p2
                  try clear p6
                  try clear q1
                  try clear q17
                  try clear q177
                  try clear q188
                  obtain ⟨kq, x15_24, rfl, HA, HJ24, HO_9, HO_10, HB⟩ := hcut
                  cases kq with
                  | zero => exact absurd HA.out (by simp [pluviallaw03_SumSeals.j3])
                  | succ kj24 =>
                    have H := HA.out
                    clear HA
                    simp only [pluviallaw03_SumSeals.j3] at H
                    have HC33 := Aside0.mk H
                    clear H
                    go_upto_region 18 with (fail)
                    go_cut [87] (fun v87 wc => ∃ (kq : Nat) (x87_32 : Bool), v87 = .bool x87_32 ∧ Aside0 (pluviallaw03_SumSeals.j4 kq a2 a3 x9_2 x10_2 x87_32 = some r) ∧ Aside0 (kq ≤ kj24) ∧ Aside0 (Kd.R (Kd.int .u8) 5 wc w.heap.size (fun _ => True) (.slice Ao26 x9_2.length co26) x9_2) ∧ Aside0 (Kd.R (Kd.int .i64) 3 wc w.heap.size (fun _ => True) u10 x10_2) ∧ Aside0 (Below w.heap.size w wc))
                    case first =>
                      have H := HC33.out
                      clear HC33
                      replace H := Option.bind_eq_some_iff.mp H
                      obtain ⟨t189, A340, H⟩ := H
                      replace H : (if t189 = true then (if 0 ≤ (Int.tmod (wrap64 (a1)) (wrap64 ((x9_2.length : Int) + 1))) then (if (Int.tmod (wrap64 (a1)) (wrap64 ((x9_2.length : Int) + 1))) ≤ (x9_2.length : Int) then ((pluviallaw03_SumSeals_1.f kj24 (x9_2.take ((Int.tmod (wrap64 (a1)) (wrap64 ((x9_2.length : Int) + 1))) : Int).toNat) x15_24 l0).bind fun t194 => (pluviallaw03_SumSeals.j4 kj24 a2 a3 x9_2 x10_2 (!t194))) else (none)) else (none)) else (pluviallaw03_SumSeals.j4 kj24 a2 a3 x9_2 x10_2 true)) = some r := H
                      have A34 := Aside0.mk A340
                      clear A340
                      by_cases c35 : t189 = true
                      · subst c35
                        have H1 : (if 0 ≤ (Int.tmod (wrap64 (a1)) (wrap64 ((x9_2.length : Int) + 1))) then (if (Int.tmod (wrap64 (a1)) (wrap64 ((x9_2.length : Int) + 1))) ≤ (x9_2.length : Int) then ((pluviallaw03_SumSeals_1.f kj24 (x9_2.take ((Int.tmod (wrap64 (a1)) (wrap64 ((x9_2.length : Int) + 1))) : Int).toNat) x15_24 l0).bind fun t194 => (pluviallaw03_SumSeals.j4 kj24 a2 a3 x9_2 x10_2 (!t194))) else (none)) else (none)) = some r := by rw [if_pos rfl] at H; exact H
                        clear H
                        have H := H1
                        clear H1
                        obtain ⟨ji36, hji36⟩ : ∃ j_ : Int, (Int.tmod (wrap64 (a1)) (wrap64 ((x9_2.length : Int) + 1))) = j_ := ⟨_, rfl⟩
                        replace H : (if 0 ≤ (ji36) then (if (ji36) ≤ (x9_2.length : Int) then ((pluviallaw03_SumSeals_1.f kj24 (x9_2.take ((ji36) : Int).toNat) x15_24 l0).bind fun t194 => (pluviallaw03_SumSeals.j4 kj24 a2 a3 x9_2 x10_2 (!t194))) else (none)) else (none)) = some r := by first | (rw [hji36] at H; exact H) | (simp only [hji36] at H ⊢; exact H)
                        (try rw [hji36] at A34)
                        by_cases c37 : 0 ≤ (ji36)
                        · rw [if_pos c37] at H
                          have c37b0 := eq_true c37
                          have c37b1 : decide (0 ≤ (ji36)) = true := decide_eq_true c37
                          clear c37
                          by_cases c38 : (ji36) ≤ (x9_2.length : Int)
                          · rw [if_pos c38] at H
                            have c38b0 := eq_true c38
                            have c38b1 : decide ((ji36) ≤ (x9_2.length : Int)) = true := decide_eq_true c38
                            clear c38
                            obtain ⟨y190, hy190⟩ : ∃ y_ : List Int, y_ = (x9_2.take ((ji36) : Int).toNat) := ⟨_, rfl⟩
                            replace H : ((pluviallaw03_SumSeals_1.f kj24 y190 x15_24 l0).bind fun t194 => (pluviallaw03_SumSeals.j4 kj24 a2 a3 x9_2 x10_2 (!t194))) = some r := by first | (rw [hy190]; with_reducible exact H) | (have H2_ := (Option.bind_some _ _).symm.trans H; rw [hy190]; with_reducible exact H2_) | (have H2_ := (Option.bind_some _ _).symm.trans H; with_reducible exact H2_) | with_reducible exact H | (rw [hy190]; exact H) | exact H
                            have Ny190 := Aside0.mk hy190
                            clear hy190
                            replace H := Option.bind_eq_some_iff.mp H
                            obtain ⟨t194, A390, H⟩ := H
                            replace H : (pluviallaw03_SumSeals.j4 kj24 a2 a3 x9_2 x10_2 (!t194)) = some r := H
                            have A39 := Aside0.mk A390
                            clear A390
                            have H' := Aside0.mk H
                            clear H
                            have hxpb := (HB.out.cell (World.block_lt_of_cell? w _ HPB.out)).trans HPB.out
                            have hmf : ∀ (fn : Fn) (first cap : Array Value) (w : World), (Instr.makeFunc fn first cap).run Try.prog w = .ok (.func fn first cap) w := fun _ _ _ _ => rfl
                            go_wp2_with (first | (go_at_call 19; (with_reducible refine (pluviallaw03_SumSeals_1.calls kj24 _ _ x9_2 (l0.length : Int) A0 c0 l0 true _ ?side1 ?side2 ?side3 ?side4 pb ?side5 A34.out).mono ?_); (case side1 => repeat (first | exact (Kd.R_reads' HO_9.out).2.2 | (with_reducible refine Kd.C_alloc ?_ _) | (with_reducible refine Kd.C_drewN ?_ _) | (with_reducible refine Kd.C_drew ?_))); (case side2 => exact (Kd.R_reads' HO_9.out).2.1); (case side3 => repeat (first | exact (Kd.C_below HR0.out HB.out) | (with_reducible refine Kd.C_alloc ?_ _) | (with_reducible refine Kd.C_drewN ?_ _) | (with_reducible refine Kd.C_drew ?_))); (case side4 => exact HC0.out); (case side5 => exact (HB.out.cell (World.block_lt_of_cell? w _ HPB.out)).trans HPB.out); rintro e w40 ⟨rfl, hb⟩; have n0_ := Aside0.mk (Kd.R_below (by (with_reducible repeat (first | apply Kd.R_alloc | apply Kd.R_drewN | apply Kd.R_drew)); exact HO_9.out) hb); have n1_ := Aside0.mk (Kd.R_below (by (with_reducible repeat (first | apply Kd.R_alloc | apply Kd.R_drewN | apply Kd.R_drew)); exact HO_10.out) hb); have n2_ := Aside0.mk (below_step (by repeat (first | (with_reducible first | exact HB.out | apply below_alloc | apply pw_below_drewN | apply below_drew1) | exact HB.out)) hb); clear HO_9; clear HO_10; clear HB; have HO_9 := n0_; have HO_10 := n1_; have HB := n2_; clear n0_ n1_ n2_; (try clear hb); (try clear hb2); (try clear hk); (try clear hi); have q41 : ((ji36) : Int) ≤ ((x9_2.length : Int) : Int) := of_decide_eq_true (by first | (with_reducible assumption) | assumption); obtain ⟨i041, hi041, _, hsz41, _⟩ := info_parts info5; have hroom41 : x9_2.length ≤ co26 := (Kd.R_reads' HO_9.out).2.1; have hC41 : Kd.C (Kd.int .u8) _ Ao26 x9_2.length x9_2 := (Kd.R_reads' HO_9.out).2.2; have hcut41 := cut_to (P := Try.prog) 24 5 .i64 Try.underlying24 hi041 Ao26 x9_2.length co26 (ji36) (of_decide_eq_true (by first | (with_reducible assumption) | assumption)) q41 hroom41; have hr41 := Kd.C_take (m := ((ji36) : Int).toNat) hC41 (by omega); have hy41 : y190.length = ((ji36) : Int).toNat := (by rw [Ny190.out, List.length_take]; omega); rw [← Ny190.out] at hr41; rw [← hy41] at hcut41; have HR193 := Aside0.mk hr41; have HC193 := Aside0.mk (show y190.length ≤ co26 from by omega); clear hr41 hC41 hroom41 hi041 hsz41; have KY41 := Aside0.mk hy41; clear hy41; have KL41 := Aside0.mk (show ((ji36) : Int).toNat ≤ x9_2.length from by omega); replace q41 := eq_true q41) | (go_at_call 19; (with_reducible refine (pluviallaw03_SumSeals_1.calls kj24 _ _ y190 x15_24 A0 c0 l0 t194 _ ?side1 ?side2 ?side3 ?side4 pb ?side5 A39.out).mono ?_); (case side1 => repeat (first | exact (by repeat (first | (with_reducible exact HR193.out) | (with_reducible refine Kd.C_alloc ?_ _) | (with_reducible refine Kd.C_drewN ?_ _) | (with_reducible refine Kd.C_drew ?_) | exact HR193.out)) | (with_reducible refine Kd.C_alloc ?_ _) | (with_reducible refine Kd.C_drewN ?_ _) | (with_reducible refine Kd.C_drew ?_))); (case side2 => exact HC193.out); (case side3 => repeat (first | exact (Kd.C_below HR0.out HB.out) | (with_reducible refine Kd.C_alloc ?_ _) | (with_reducible refine Kd.C_drewN ?_ _) | (with_reducible refine Kd.C_drew ?_))); (case side4 => exact HC0.out); (case side5 => exact (HB.out.cell (World.block_lt_of_cell? w _ HPB.out)).trans HPB.out); rintro e w42 ⟨rfl, hb⟩; have n0_ := Aside0.mk (Kd.R_below (by (with_reducible repeat (first | apply Kd.R_alloc | apply Kd.R_drewN | apply Kd.R_drew)); exact HO_9.out) hb); have n1_ := Aside0.mk (Kd.R_below (by (with_reducible repeat (first | apply Kd.R_alloc | apply Kd.R_drewN | apply Kd.R_drew)); exact HO_10.out) hb); have n2_ := Aside0.mk (Kd.C_below (by repeat (first | (with_reducible exact HR193.out) | (with_reducible refine Kd.C_alloc ?_ _) | (with_reducible refine Kd.C_drewN ?_ _) | (with_reducible refine Kd.C_drew ?_) | exact HR193.out)) hb); have n3_ := Aside0.mk (below_step (by repeat (first | (with_reducible first | exact HB.out | apply below_alloc | apply pw_below_drewN | apply below_drew1) | exact HB.out)) hb); clear HO_9; clear HO_10; clear HR193; clear HB; have HO_9 := n0_; have HO_10 := n1_; have HR193 := n2_; have HB := n3_; clear n0_ n1_ n2_ n3_; (try clear hb); (try clear hb2); (try clear hk); (try clear hi)))
                            clear hxpb hmf
                            subst hji36
                            go_meet
                            case rel => exact ⟨_, (!t194), (by first | rfl | (simp; done) | (simp [*]; done) | (simp [*]; omega)), H', ⟨by have := HJ4.out; have := HK2.out; have := HJ24.out; first | omega | exact Nat.le_refl _⟩, ⟨by (with_reducible repeat (first | apply Kd.R_alloc | apply Kd.R_drewN | apply Kd.R_drew)); exact HO_9.out⟩, ⟨by (with_reducible repeat (first | apply Kd.R_alloc | apply Kd.R_drewN | apply Kd.R_drew)); exact HO_10.out⟩, ⟨by repeat (first | (with_reducible first | exact HB.out | apply below_alloc | apply pw_below_drewN | apply below_drew1) | exact HB.out)⟩⟩
                          · rw [if_neg c38] at H
                            exact absurd H (by simp)
                        · rw [if_neg c37] at H
                          exact absurd H (by simp)
                      · replace c35 := Bool.eq_false_iff.mpr c35
                        subst c35
                        have H1 : (pluviallaw03_SumSeals.j4 kj24 a2 a3 x9_2 x10_2 true) = some r := by rw [if_neg (show ¬ (false = true) by decide)] at H; exact H
                        clear H
                        have H := H1
                        clear H1
                        have H' := Aside0.mk H
                        clear H
                        have hxpb := (HB.out.cell (World.block_lt_of_cell? w _ HPB.out)).trans HPB.out
                        have hmf : ∀ (fn : Fn) (first cap : Array Value) (w : World), (Instr.makeFunc fn first cap).run Try.prog w = .ok (.func fn first cap) w := fun _ _ _ _ => rfl
                        go_wp2_with (first | (go_at_call 19; (with_reducible refine (pluviallaw03_SumSeals_1.calls kj24 _ _ x9_2 (l0.length : Int) A0 c0 l0 false _ ?side1 ?side2 ?side3 ?side4 pb ?side5 A34.out).mono ?_); (case side1 => repeat (first | exact (Kd.R_reads' HO_9.out).2.2 | (with_reducible refine Kd.C_alloc ?_ _) | (with_reducible refine Kd.C_drewN ?_ _) | (with_reducible refine Kd.C_drew ?_))); (case side2 => exact (Kd.R_reads' HO_9.out).2.1); (case side3 => repeat (first | exact (Kd.C_below HR0.out HB.out) | (with_reducible refine Kd.C_alloc ?_ _) | (with_reducible refine Kd.C_drewN ?_ _) | (with_reducible refine Kd.C_drew ?_))); (case side4 => exact HC0.out); (case side5 => exact (HB.out.cell (World.block_lt_of_cell? w _ HPB.out)).trans HPB.out); rintro e w43 ⟨rfl, hb⟩; have n0_ := Aside0.mk (Kd.R_below (by (with_reducible repeat (first | apply Kd.R_alloc | apply Kd.R_drewN | apply Kd.R_drew)); exact HO_9.out) hb); have n1_ := Aside0.mk (Kd.R_below (by (with_reducible repeat (first | apply Kd.R_alloc | apply Kd.R_drewN | apply Kd.R_drew)); exact HO_10.out) hb); have n2_ := Aside0.mk (below_step (by repeat (first | (with_reducible first | exact HB.out | apply below_alloc | apply pw_below_drewN | apply below_drew1) | exact HB.out)) hb); clear HO_9; clear HO_10; clear HB; have HO_9 := n0_; have HO_10 := n1_; have HB := n2_; clear n0_ n1_ n2_; (try clear hb); (try clear hb2); (try clear hk); (try clear hi)))
                        clear hxpb hmf
                        go_meet
                        case rel => exact ⟨_, (true), (by first | rfl | (simp; done) | (simp [*]; done) | (simp [*]; omega)), H', ⟨by have := HJ4.out; have := HK2.out; have := HJ24.out; first | omega | exact Nat.le_refl _⟩, ⟨by (with_reducible repeat (first | apply Kd.R_alloc | apply Kd.R_drewN | apply Kd.R_drew)); exact HO_9.out⟩, ⟨by (with_reducible repeat (first | apply Kd.R_alloc | apply Kd.R_drewN | apply Kd.R_drew)); exact HO_10.out⟩, ⟨by repeat (first | (with_reducible first | exact HB.out | apply below_alloc | apply pw_below_drewN | apply below_drew1) | exact HB.out)⟩⟩
                    case rest =>
                      clear HC33
                      try clear c1
                      try clear p1
                      try clear q1
                      try clear hx1
                      try clear c2
                      try clear p2
                      try clear c3
                      try clear q4
                      try clear c6
                      try clear c6b0
                      try clear c6b1
                      try clear c6b2
                      try clear p6
                      try clear c7
                      try clear c8
                      try clear c10
                      try clear c10b0
                      try clear c11
                      try clear c11b0
                      try clear c12
                      try clear c12b0
                      try clear c13
                      try clear c13b0
                      try clear c13b1
                      try clear c17
                      try clear p17
                      try clear q17
                      try clear hx17
                      try clear c18
                      try clear p18
                      try clear q18
                      try clear hx18
                      try clear c19
                      try clear c24
                      try clear c24b0
                      try clear c24b1
                      try clear c27
                      try clear c27b0
                      try clear c28
                      try clear c28b0
                      try clear c29
                      try clear c29b0
                      try clear c35
                      try clear c37
                      try clear c37b0
                      try clear c37b1
                      try clear c38
                      try clear c38b0
                      try clear c38b1
                      try clear q41
                      try clear hx177_0
                      try clear hx188_0
                      try clear p1
                      try clear p17
                      try clear p177
                      try clear p18
                      try clear p188
                      try clear p2
                      try clear p6
                      try clear q1
                      try clear q17
                      try clear q177
                      try clear q18
                      try clear q188
                      try clear q41
                      obtain ⟨kq, x87_32, rfl, HA, HJ32, HO_9, HO_10, HB⟩ := hcut
                      cases kq with
                      | zero => exact absurd HA.out (by simp [pluviallaw03_SumSeals.j4])
                      | succ kj32 =>
                        have H := HA.out
                        clear HA
                        simp only [pluviallaw03_SumSeals.j4] at H
                        by_cases c44 : x87_32 = true
                        · subst c44
                          have H1 : (some false) = some r := by rw [if_pos rfl] at H; exact H
                          clear H
                          have H := H1
                          clear H1
                          exact absurd ((Option.some.inj H).trans hr_.out) (by decide)
                        · replace c44 := Bool.eq_false_iff.mpr c44
                          subst c44
                          have H1 : (if (x9_2.length : Int) = 0 then (none) else (pluviallaw03_SumSeals.l2 kj32 a3 x9_2 x10_2 (Int.tmod (wrap64 (a2)) (x9_2.length : Int)) 0 0)) = some r := by rw [if_neg (show ¬ (false = true) by decide)] at H; exact H
                          clear H
                          have H := H1
                          clear H1
                          by_cases c45 : (x9_2.length : Int) = 0
                          · rw [if_pos c45] at H
                            exact absurd H (by simp)
                          · rw [if_neg c45] at H
                            have c45b0 : ((x9_2.length : Int) == 0) = false := beq_eq_false_iff_ne.mpr c45
                            have c45b1 : ((x9_2.length : Int) != 0) = true := bne_iff_ne.mpr c45
                            have c45b2 : ¬ (x9_2 = []) := fun h_ => c45 (by rw [h_]; rfl)
                            have H' := Aside0.mk H
                            clear H
                            go_wp2
                            go_loopg [17, 18] kj32 (fun kq v17 v18 w' => ∃ (x17_5 : Int) (x18_5 : Int), v17 = .int .i64 x17_5 ∧ v18 = .int .i64 x18_5 ∧ Aside0 (pluviallaw03_SumSeals.l2 kq a3 x9_2 x10_2 (Int.tmod (wrap64 (a2)) (x9_2.length : Int)) x17_5 x18_5 = some r) ∧ Aside0 (kq ≤ kj32) ∧ Aside0 (Kd.R (Kd.int .u8) 5 w' w.heap.size (fun _ => True) (.slice Ao26 x9_2.length co26) x9_2) ∧ Aside0 (Kd.R (Kd.int .i64) 3 w' w.heap.size (fun _ => True) u10 x10_2) ∧ Aside0 (Below w.heap.size w w'))
                            case atStart => exact ⟨(0), (0), (by first | rfl | (simp; done) | (simp [*]; done) | (simp [*]; omega)), (by first | rfl | (simp; done) | (simp [*]; done) | (simp [*]; omega)), H', ⟨Nat.le_refl _⟩, ⟨by (with_reducible repeat (first | apply Kd.R_alloc | apply Kd.R_drewN | apply Kd.R_drew)); exact HO_9.out⟩, ⟨by (with_reducible repeat (first | apply Kd.R_alloc | apply Kd.R_drewN | apply Kd.R_drew)); exact HO_10.out⟩, ⟨by repeat (first | (with_reducible first | exact HB.out | apply below_alloc | apply pw_below_drewN | apply below_drew1) | exact HB.out)⟩⟩
                            case round =>
                              clear H'
                              try clear c1
                              try clear p1
                              try clear q1
                              try clear hx1
                              try clear c2
                              try clear p2
                              try clear c3
                              try clear c4
                              try clear q4
                              try clear c6
                              try clear c6b0
                              try clear c6b1
                              try clear c6b2
                              try clear p6
                              try clear c7
                              try clear c8
                              try clear c10
                              try clear c10b0
                              try clear c11
                              try clear c11b0
                              try clear c12
                              try clear c12b0
                              try clear c13
                              try clear c13b0
                              try clear c13b1
                              try clear c17
                              try clear p17
                              try clear q17
                              try clear hx17
                              try clear c18
                              try clear p18
                              try clear q18
                              try clear hx18
                              try clear c19
                              try clear c24
                              try clear c24b0
                              try clear c24b1
                              try clear c27
                              try clear c27b0
                              try clear c28
                              try clear c28b0
                              try clear c29
                              try clear c29b0
                              try clear c35
                              try clear c37
                              try clear c37b0
                              try clear c37b1
                              try clear c38
                              try clear c38b0
                              try clear c38b1
                              try clear q41
                              try clear c44
                              try clear c45
                              try clear c45b0
                              try clear c45b1
                              try clear c45b2
                              try clear hx177_0
                              try clear hx188_0
                              try clear p1
                              try clear p17
                              try clear p177
                              try clear p18
                              try clear p188
                              try clear p2
                              try clear p6
                              try clear q1
                              try clear q17
                              try clear q177
                              try clear q18
                              try clear q188
                              try clear q4
                              try clear q41
                              obtain ⟨x17_5, x18_5, rfl, rfl, HA, HK5, HO_9, HO_10, HB⟩ := hrel
                              cases gk with
                              | zero => exact absurd HA.out (by simp [pluviallaw03_SumSeals.l2])
                              | succ k5 =>
                                have H := HA.out
                                clear HA
                                simp only [pluviallaw03_SumSeals.l2] at H
                                by_cases c46 : 0 ≤ x17_5
                                · rw [if_pos c46] at H
                                  have c46b0 : decide (0 ≤ x17_5) = true := decide_eq_true c46
                                  clear c46
                                  by_cases c47 : x17_5 < (x10_2.length : Int)
                                  · rw [if_pos c47] at H
                                    have c47b0 : decide (x17_5 < (x10_2.length : Int)) = true := decide_eq_true c47
                                    clear c47
                                    by_cases c48 : (rd x10_2 x17_5) ≤ (Int.tmod (wrap64 (a2)) (x9_2.length : Int))
                                    · rw [if_pos c48] at H
                                      have c48b0 : decide ((rd x10_2 x17_5) ≤ (Int.tmod (wrap64 (a2)) (x9_2.length : Int))) = true := decide_eq_true c48
                                      clear c48
                                      have H' := Aside0.mk H
                                      clear H
                                      obtain ⟨Ao49, co49, eo49⟩ := Kd.R_slice HO_10.out
                                      subst eo49
                                      have p195 : 0 ≤ (x17_5 : Int) := of_decide_eq_true (by first | (with_reducible assumption) | assumption)
                                      have q195 : x17_5 < (x10_2.length : Int) := of_decide_eq_true (by first | (with_reducible assumption) | assumption)
                                      obtain ⟨ad195, e195, hx195_0⟩ := Kd.at_int (Kd.R_reads' HO_10.out).2.2 x17_5 p195 q195
                                      cases e195
                                      replace p195 := eq_true p195
                                      replace q195 := eq_true q195
                                      have p196 : 0 ≤ (x17_5 : Int) := of_decide_eq_true (by first | (with_reducible assumption) | assumption)
                                      have q196 : x17_5 < (x10_2.length : Int) := of_decide_eq_true (by first | (with_reducible assumption) | assumption)
                                      obtain ⟨ad196, e196, hx196_0⟩ := Kd.at_int (Kd.R_reads' HO_10.out).2.2 x17_5 p196 q196
                                      obtain rfl : ad195 = ad196 := (by injection e196)
                                      replace p196 := eq_true p196
                                      replace q196 := eq_true q196
                                      go_wp2
                                      go_roundg k5
                                      case measure => have := HJ4.out; have := HK2.out; have := HJ24.out; have := HJ32.out; have := HK5.out; omega
                                      case rel => exact ⟨(wrap64 (x17_5 + 1)), (rd x10_2 x17_5), (by first | rfl | (simp; done) | (simp [*]; done) | (simp [*]; omega)), (by first | rfl | (simp; done) | (simp [*]; done) | (simp [*]; omega)), H', ⟨by have := HJ4.out; have := HK2.out; have := HJ24.out; have := HJ32.out; have := HK5.out; omega⟩, ⟨by (with_reducible repeat (first | apply Kd.R_alloc | apply Kd.R_drewN | apply Kd.R_drew)); exact HO_9.out⟩, ⟨by (with_reducible repeat (first | apply Kd.R_alloc | apply Kd.R_drewN | apply Kd.R_drew)); exact HO_10.out⟩, ⟨by repeat (first | (with_reducible first | exact HB.out | apply below_alloc | apply pw_below_drewN | apply below_drew1) | exact HB.out)⟩⟩
                                    · rw [if_neg c48] at H
                                      have c48b0 : decide ((rd x10_2 x17_5) ≤ (Int.tmod (wrap64 (a2)) (x9_2.length : Int))) = false := decide_eq_false c48
                                      clear c48
                                      have HC50 := Aside0.mk H
                                      clear H
                                      obtain ⟨Ao51, co51, eo51⟩ := Kd.R_slice HO_10.out
                                      subst eo51
                                      have p195 : 0 ≤ (x17_5 : Int) := of_decide_eq_true (by first | (with_reducible assumption) | assumption)
                                      have q195 : x17_5 < (x10_2.length : Int) := of_decide_eq_true (by first | (with_reducible assumption) | assumption)
                                      obtain ⟨ad195, e195, hx195_0⟩ := Kd.at_int (Kd.R_reads' HO_10.out).2.2 x17_5 p195 q195
                                      cases e195
                                      replace p195 := eq_true p195
                                      replace q195 := eq_true q195
                                      go_upto_region 25 with (fail)
                                      go_cut [112] (fun v112 wc => ∃ (kq : Nat) (x112_49 : Bool), v112 = .bool x112_49 ∧ Aside0 (pluviallaw03_SumSeals.j6 kq a3 x9_2 (Int.tmod (wrap64 (a2)) (x9_2.length : Int)) x17_5 x112_49 = some r) ∧ Aside0 (kq ≤ k5) ∧ Aside0 (Kd.R (Kd.int .u8) 5 wc w.heap.size (fun _ => True) (.slice Ao26 x9_2.length co26) x9_2) ∧ Aside0 (Below w.heap.size w wc))
                                      case first =>
                                        have H := HC50.out
                                        clear HC50
                                        by_cases c52 : a3 = 0
                                        · rw [if_pos c52] at H
                                          have c52b0 : (a3 == 0) = true := beq_iff_eq.mpr c52
                                          have c52b1 : (a3 != 0) = false := bne_eq_false_iff_eq.mpr c52
                                          clear c52
                                          (first | rw [c52b0] | (simp only [i64_w, i32_w]; rw [c52b0]) | skip)
                                          have H' := Aside0.mk H
                                          clear H
                                          go_wp2
                                          go_meet
                                          case rel => exact ⟨_, (true), (by first | rfl | (simp; done) | (simp [*]; done) | (simp [*]; omega)), H', ⟨by have := HJ4.out; have := HK2.out; have := HJ24.out; have := HJ32.out; have := HK5.out; first | omega | exact Nat.le_refl _⟩, ⟨by (with_reducible repeat (first | apply Kd.R_alloc | apply Kd.R_drewN | apply Kd.R_drew)); exact HO_9.out⟩, ⟨by repeat (first | (with_reducible first | exact HB.out | apply below_alloc | apply pw_below_drewN | apply below_drew1) | exact HB.out)⟩⟩
                                        · rw [if_neg c52] at H
                                          have c52b0 : (a3 == 0) = false := beq_eq_false_iff_ne.mpr c52
                                          have c52b1 : (a3 != 0) = true := bne_iff_ne.mpr c52
                                          (first | rw [c52b0] | (simp only [i64_w, i32_w]; rw [c52b0]) | skip)
                                          have H' := Aside0.mk H
                                          clear H
                                          go_wp2
                                          go_meet
                                          case rel => exact ⟨_, (decide ((Int.tmod (wrap64 (a2)) (x9_2.length : Int)) < (wrap64 (x18_5 + 4)))), (by first | rfl | (simp; done) | (simp [*]; done) | (simp [*]; omega)), H', ⟨by have := HJ4.out; have := HK2.out; have := HJ24.out; have := HJ32.out; have := HK5.out; first | omega | exact Nat.le_refl _⟩, ⟨by (with_reducible repeat (first | apply Kd.R_alloc | apply Kd.R_drewN | apply Kd.R_drew)); exact HO_9.out⟩, ⟨by repeat (first | (with_reducible first | exact HB.out | apply below_alloc | apply pw_below_drewN | apply below_drew1) | exact HB.out)⟩⟩
                                      case rest =>
                                        clear HC50
                                        try clear c1
                                        try clear p1
                                        try clear q1
                                        try clear hx1
                                        try clear c2
                                        try clear p2
                                        try clear c3
                                        try clear c4
                                        try clear q4
                                        try clear c5
                                        try clear c6
                                        try clear c6b0
                                        try clear c6b1
                                        try clear c6b2
                                        try clear p6
                                        try clear c7
                                        try clear c8
                                        try clear c10
                                        try clear c10b0
                                        try clear c11
                                        try clear c11b0
                                        try clear c12
                                        try clear c12b0
                                        try clear c13
                                        try clear c13b0
                                        try clear c13b1
                                        try clear c17
                                        try clear p17
                                        try clear q17
                                        try clear hx17
                                        try clear c18
                                        try clear p18
                                        try clear q18
                                        try clear hx18
                                        try clear c19
                                        try clear p19
                                        try clear q19
                                        try clear hx19
                                        try clear c24
                                        try clear c24b0
                                        try clear c24b1
                                        try clear c27
                                        try clear c27b0
                                        try clear c28
                                        try clear c28b0
                                        try clear c29
                                        try clear c29b0
                                        try clear c35
                                        try clear c37
                                        try clear c37b0
                                        try clear c37b1
                                        try clear c38
                                        try clear c38b0
                                        try clear c38b1
                                        try clear q41
                                        try clear c44
                                        try clear c45
                                        try clear c45b0
                                        try clear c45b1
                                        try clear c45b2
                                        try clear c46
                                        try clear c46b0
                                        try clear c47
                                        try clear c47b0
                                        try clear c48
                                        try clear c48b0
                                        try clear c52
                                        try clear c52b0
                                        try clear c52b1
                                        try clear hx177_0
                                        try clear hx188_0
                                        try clear hx195_0
                                        try clear hx196_0
                                        try clear p1
                                        try clear p17
                                        try clear p177
                                        try clear p18
                                        try clear p188
                                        try clear p195
                                        try clear p196
                                        try clear p2
                                        try clear p6
                                        try clear q1
                                        try clear q17
                                        try clear q177
                                        try clear q18
                                        try clear q188
                                        try clear q195
                                        try clear q196
                                        try clear q4
                                        try clear q41
                                        obtain ⟨kq, x112_49, rfl, HA, HJ49, HO_9, HB⟩ := hcut
                                        cases kq with
                                        | zero => exact absurd HA.out (by simp [pluviallaw03_SumSeals.j6])
                                        | succ kj49 =>
                                          have H := HA.out
                                          clear HA
                                          simp only [pluviallaw03_SumSeals.j6] at H
                                          by_cases c53 : x112_49 = true
                                          · subst c53
                                            have H1 : ((pluviallaw03_awake.f).bind fun t197 => (some t197)) = some r := by rw [if_pos rfl] at H; exact H
                                            clear H
                                            have H := H1
                                            clear H1
                                            replace H := Option.bind_eq_some_iff.mp H
                                            obtain ⟨t197, A540, H⟩ := H
                                            replace H : (some t197) = some r := H
                                            have A54 := Aside0.mk A540
                                            clear A540
                                            obtain rfl := Option.some.inj H
                                            go_wp2_with (first | ((with_reducible refine gate_callee (f := 8) rfl ?_); refine goesL_ (some 113) rfl rfl Try.func8 (by kernel_rfl) rfl #[] rfl (by (try simp only [List.map_toArray, List.map_cons, List.map_nil]); first | done | rfl | (simp only [List.length_drop, List.length_take]; rfl)) ?_; (with_reducible refine (pluviallaw03_awake.calls  t197 _ A54.out).mono ?_); rintro e w55 ⟨rfl, hb⟩; refine ⟨_, rfl, ?_⟩; have n0_ := Aside0.mk (Kd.R_below (by (with_reducible repeat (first | apply Kd.R_alloc | apply Kd.R_drewN | apply Kd.R_drew)); exact HO_9.out) hb); have n1_ := Aside0.mk (below_step (by repeat (first | (with_reducible first | exact HB.out | apply below_alloc | apply pw_below_drewN | apply below_drew1) | exact HB.out)) hb); clear HO_9; clear HB; have HO_9 := n0_; have HB := n1_; clear n0_ n1_; (try clear hb); (try clear hb2); (try clear hk); (try clear hi)))
                                            go_ret
                                            exact ⟨by first | rfl | (simp [errW_none, errW_some] <;> rfl) | (simp [*, errW_none, errW_some] <;> rfl), by repeat (first | (with_reducible first | exact HB.out | apply below_alloc | apply pw_below_drewN | apply below_drew1) | exact HB.out)⟩
                                          · replace c53 := Bool.eq_false_iff.mpr c53
                                            subst c53
                                            have H1 : ((some (([] : List Int) : List Int)).bind fun y198 => (if y198.length + x9_2.length < 140737488355328 then ((some (y198 ++ x9_2 : List Int)).bind fun y201 => (if 0 ≤ (Int.tmod (wrap64 (a2)) (x9_2.length : Int)) then (if (Int.tmod (wrap64 (a2)) (x9_2.length : Int)) < (y201.length : Int) then ((sum_All.f kj49 (y201.set ((Int.tmod (wrap64 (a2)) (x9_2.length : Int)) : Int).toNat (Go.bits .xor .u8 (rd y201 (Int.tmod (wrap64 (a2)) (x9_2.length : Int))) a3))).bind fun bt206 => ((pluviallaw03_awake.f).bind fun t211 => (if t211 = true then (if (bt206.1.length : Int) = x17_5 then (some (bt206.2.2 == 8)) else (some false)) else (some false)))) else (none)) else (none))) else (none))) = some r := by rw [if_neg (show ¬ (false = true) by decide)] at H; exact H
                                            clear H
                                            have H := H1
                                            clear H1
                                            obtain ⟨y198, hy198⟩ : ∃ y_ : List Int, y_ = (([] : List Int)) := ⟨_, rfl⟩
                                            replace H : (if y198.length + x9_2.length < 140737488355328 then ((some (y198 ++ x9_2 : List Int)).bind fun y201 => (if 0 ≤ (Int.tmod (wrap64 (a2)) (x9_2.length : Int)) then (if (Int.tmod (wrap64 (a2)) (x9_2.length : Int)) < (y201.length : Int) then ((sum_All.f kj49 (y201.set ((Int.tmod (wrap64 (a2)) (x9_2.length : Int)) : Int).toNat (Go.bits .xor .u8 (rd y201 (Int.tmod (wrap64 (a2)) (x9_2.length : Int))) a3))).bind fun bt206 => ((pluviallaw03_awake.f).bind fun t211 => (if t211 = true then (if (bt206.1.length : Int) = x17_5 then (some (bt206.2.2 == 8)) else (some false)) else (some false)))) else (none)) else (none))) else (none)) = some r := by first | (rw [hy198]; with_reducible exact H) | (have H2_ := (Option.bind_some _ _).symm.trans H; rw [hy198]; with_reducible exact H2_) | (have H2_ := (Option.bind_some _ _).symm.trans H; with_reducible exact H2_) | with_reducible exact H | (rw [hy198]; exact H) | exact H
                                            have Ny198 := Aside0.mk hy198
                                            clear hy198
                                            by_cases c56 : y198.length + x9_2.length < 140737488355328
                                            · rw [if_pos c56] at H
                                              have LMc56 := Aside0.mk c56
                                              clear c56
                                              obtain ⟨y201, hy201⟩ : ∃ y_ : List Int, y_ = (y198 ++ x9_2) := ⟨_, rfl⟩
                                              replace H : (if 0 ≤ (Int.tmod (wrap64 (a2)) (x9_2.length : Int)) then (if (Int.tmod (wrap64 (a2)) (x9_2.length : Int)) < (y201.length : Int) then ((sum_All.f kj49 (y201.set ((Int.tmod (wrap64 (a2)) (x9_2.length : Int)) : Int).toNat (Go.bits .xor .u8 (rd y201 (Int.tmod (wrap64 (a2)) (x9_2.length : Int))) a3))).bind fun bt206 => ((pluviallaw03_awake.f).bind fun t211 => (if t211 = true then (if (bt206.1.length : Int) = x17_5 then (some (bt206.2.2 == 8)) else (some false)) else (some false)))) else (none)) else (none)) = some r := by first | (rw [hy201]; with_reducible exact H) | (have H2_ := (Option.bind_some _ _).symm.trans H; rw [hy201]; with_reducible exact H2_) | (have H2_ := (Option.bind_some _ _).symm.trans H; with_reducible exact H2_) | with_reducible exact H | (rw [hy201]; exact H) | exact H
                                              have Ny201 := Aside0.mk hy201
                                              clear hy201
                                              obtain ⟨ji57, hji57⟩ : ∃ j_ : Int, (Int.tmod (wrap64 (a2)) (x9_2.length : Int)) = j_ := ⟨_, rfl⟩
                                              replace H : (if 0 ≤ (ji57) then (if (ji57) < (y201.length : Int) then ((sum_All.f kj49 (y201.set ((ji57) : Int).toNat (Go.bits .xor .u8 (rd y201 (ji57)) a3))).bind fun bt206 => ((pluviallaw03_awake.f).bind fun t211 => (if t211 = true then (if (bt206.1.length : Int) = x17_5 then (some (bt206.2.2 == 8)) else (some false)) else (some false)))) else (none)) else (none)) = some r := by first | (rw [hji57] at H; exact H) | (simp only [hji57] at H ⊢; exact H)
                                              (try rw [hji57] at c48b0)
                                              by_cases c58 : 0 ≤ (ji57)
                                              · rw [if_pos c58] at H
                                                have c58b0 : decide (0 ≤ (ji57)) = true := decide_eq_true c58
                                                clear c58
                                                by_cases c59 : (ji57) < (y201.length : Int)
                                                · rw [if_pos c59] at H
                                                  have c59b0 : decide ((ji57) < (y201.length : Int)) = true := decide_eq_true c59
                                                  clear c59
                                                  obtain ⟨y205, hy205⟩ : ∃ y_ : List Int, y_ = (y201.set ((ji57) : Int).toNat (Go.bits .xor .u8 (rd y201 (ji57)) a3)) := ⟨_, rfl⟩
                                                  replace H : ((sum_All.f kj49 y205).bind fun bt206 => ((pluviallaw03_awake.f).bind fun t211 => (if t211 = true then (if (bt206.1.length : Int) = x17_5 then (some (bt206.2.2 == 8)) else (some false)) else (some false)))) = some r := by first | (rw [hy205]; with_reducible exact H) | (have H2_ := (Option.bind_some _ _).symm.trans H; rw [hy205]; with_reducible exact H2_) | (have H2_ := (Option.bind_some _ _).symm.trans H; with_reducible exact H2_) | with_reducible exact H | (rw [hy205]; exact H) | exact H
                                                  have Ny205 := Aside0.mk hy205
                                                  clear hy205
                                                  replace H := Option.bind_eq_some_iff.mp H
                                                  obtain ⟨⟨t206, t207, t208⟩, A610, H⟩ := H
                                                  replace H : ((pluviallaw03_awake.f).bind fun t211 => (if t211 = true then (if (t206.length : Int) = x17_5 then (some (t208 == 8)) else (some false)) else (some false))) = some r := H
                                                  have A61 := Aside0.mk A610
                                                  clear A610
                                                  replace H := Option.bind_eq_some_iff.mp H
                                                  obtain ⟨t211, A620, H⟩ := H
                                                  replace H : (if t211 = true then (if (t206.length : Int) = x17_5 then (some (t208 == 8)) else (some false)) else (some false)) = some r := H
                                                  have A62 := Aside0.mk A620
                                                  clear A620
                                                  by_cases c63 : t211 = true
                                                  · subst c63
                                                    have H1 : (if (t206.length : Int) = x17_5 then (some (t208 == 8)) else (some false)) = some r := by rw [if_pos rfl] at H; exact H
                                                    clear H
                                                    have H := H1
                                                    clear H1
                                                    by_cases c64 : (t206.length : Int) = x17_5
                                                    · rw [if_pos c64] at H
                                                      have c64b0 : ((t206.length : Int) == x17_5) = true := beq_iff_eq.mpr c64
                                                      have c64b1 : ((t206.length : Int) != x17_5) = false := bne_eq_false_iff_eq.mpr c64
                                                      clear c64
                                                      obtain rfl := Option.some.inj H
                                                      go_wp2_with (first | ((with_reducible refine gate_dst (N := 114) rfl ?_); (try (refine gate_guard (by rfl) ?_; dsimp only)); refine Kd.R_lit (Kd.int .u8) _ 5 ?hg (N := 114) ?hd (xs := ([] : List Int)) (inner := []) (ok := fun _ => True) (okp := fun _ => True) ?hr ?hp (fun _ hk => hk) trivial (Below.refl _ _) (Nat.le_refl _) (by simp) ?_; (case hd => rfl); (case hg => rfl); (case hr => first | (go_simp; done) | (go_simp; rfl)); (case hp => exact (Reps.none _ _)); intro v199 w65 ho66 hb hg_ hnew_; clear hg_ hnew_; (first | rw [← Ny198.out] at ho66 | (simp only [Int.reduceToNat] at ho66; rw [← Ny198.out] at ho66)); have n0_ := Aside0.mk (Kd.R_elder' (by (with_reducible repeat (first | apply Kd.R_alloc | apply Kd.R_drewN | apply Kd.R_drew)); exact HO_9.out) (Kd.R_base ho66) hb); have n1_ := Aside0.mk (Kd.R_lower (Kd.R_new' ho66 (Kd.R_lt (by (with_reducible repeat (first | apply Kd.R_alloc | apply Kd.R_drewN | apply Kd.R_drew)); exact HO_9.out))) (below_size (by repeat (first | (with_reducible first | exact HB.out | apply below_alloc | apply pw_below_drewN | apply below_drew1) | exact HB.out)))); have n2_ := Aside0.mk (below_step (by repeat (first | (with_reducible first | exact HB.out | apply below_alloc | apply pw_below_drewN | apply below_drew1) | exact HB.out)) hb); clear HO_9; clear HB; have HO_9 := n0_; have HO200 := n1_; have HB := n2_; clear n0_ n1_ n2_; clear hb ho66) | ((with_reducible refine gate_builtin (b := .append) (xs := #[.tmp 114, .tmp 115]) rfl ?_); (try (refine gate_guard (by rfl) ?_; dsimp only)); at_builtin; refine Kd.R_append_rows (Kd.int .u8) (w0 := w) w.heap.size rfl (.tmp 114) (.tmp 115) 24 5 (.int .u8 0) 1 rfl Try.underlying24 info5 rfl (by decide) (by omega) v199 y198 x9_2 _ _ _ (fun k_ => some k_ ≠ (.slice Ao26 x9_2.length co26 : Value).ownBlock) (fun _ => False) rfl rfl ?aO ?aR (fun _ _ h => h) (fun _ h => h.elim) ?aF ?aB ?aS ?aL ?_; (case aR => repeat (first | exact (Kd.R_reads' HO_9.out).2.2 | (with_reducible refine Kd.C_alloc ?_ _) | (with_reducible refine Kd.C_drewN ?_ _) | (with_reducible refine Kd.C_drew ?_))); (case aB => exact (by repeat (first | (with_reducible first | exact HB.out | apply below_alloc | apply pw_below_drewN | apply below_drew1) | exact HB.out))); (case aF => exact (fun k_ hk => Kd.fresh' (Kd.R_lt (by (with_reducible repeat (first | apply Kd.R_alloc | apply Kd.R_drewN | apply Kd.R_drew)); exact HO_9.out)) k_ hk)); (case aO => exact (by (with_reducible repeat (first | apply Kd.R_alloc | apply Kd.R_drewN | apply Kd.R_drew)); exact Kd.R_mono HO200.out (fun _ hk => hk.2))); (case aS => exact (below_size (by repeat (first | (with_reducible first | exact HB.out | apply below_alloc | apply pw_below_drewN | apply below_drew1) | exact HB.out)))); (case aL => have := LMc56.out; omega); intro v202 w67 ho hb hg hat; rw [← Ny201.out] at ho; have n0_ := Aside0.mk (Kd.R_after (ok := (fun _ => True)) (by (with_reducible repeat (first | apply Kd.R_alloc | apply Kd.R_drewN | apply Kd.R_drew)); exact HO_9.out) hg hat); have n1_ := Aside0.mk (hb); have n2_ := Aside0.mk (ho); clear HO_9; clear HB; clear HO200; have HO_9 := n0_; have HB := n1_; have HO203 := n2_; clear n0_ n1_ n2_; clear ho hb hg hat; obtain ⟨Ao68, co68, eo68⟩ := Kd.R_slice HO203.out; subst eo68; have p204 : 0 ≤ ((ji57) : Int) := of_decide_eq_true (by first | (with_reducible assumption) | assumption); have q204 : (ji57) < (y201.length : Int) := of_decide_eq_true (by first | (with_reducible assumption) | assumption); obtain ⟨ad204, e204, hx204_0⟩ := Kd.at_int (Kd.R_reads' HO203.out).2.2 (ji57) p204 q204; cases e204; replace p204 := eq_true p204; replace q204 := eq_true q204; have p60 : 0 ≤ ((ji57) : Int) := of_decide_eq_true (by first | (with_reducible assumption) | assumption); have q60 : ((ji57) : Int) < ((y201.length : Int) : Int) := of_decide_eq_true (by first | (with_reducible assumption) | assumption); obtain ⟨go60, co60, eo60, gb60, gl60, cl60, HG60⟩ := Kd.R_form HO203.out (by omega); (first | cases eo60 | (injection eo60 with ea_ en_ ec_; (first | subst ea_ | (injection ea_ with ea_; subst ea_)); subst ec_; clear en_)); have GB60 := Aside0.mk gb60; have GG60 := Aside0.mk HG60; clear gb60 gl60 HG60; (first | simp only [add_plain] at hx204_0 | skip); obtain ⟨hx60_0, hf60_0⟩ := Kd.R_celln 0 HO203.out ((ji57) : Int) p60 q60; replace p60 := eq_true p60; replace q60 := eq_true q60; obtain ⟨hy69_, hz69_⟩ := Kd.R_celln 0 HO203.out ((ji57) : Int) (of_decide_eq_true (by first | (with_reducible assumption) | assumption)) (of_decide_eq_true (by first | (with_reducible assumption) | assumption)); have HP69 := Kd.R_putg HO203.out ((ji57) : Int) (Go.bits .xor .u8 (rd y201 (ji57)) a3)) | ((with_reducible refine gate_store (t := 5) (p := 123) rfl ?_); refine store_event (t := 5) (p := 123) (v := ?vo_w70) (w1 := (w67.setCell ⟨go60, ((ji57) : Int).toNat, none⟩ (.int .u8 (Go.bits .xor .u8 (rd y201 (ji57)) a3)))) ?hg ?ho ?hn ?hr ?_; (case ho => rfl); (case hg => rfl); (case hn => rfl); (case hr => first | (go_simp; done) | (go_simp; rfl)); intro w70 hw; have hg : w67.grownBy w70 (some go60) := (by rw [hw]; exact HP69.2); have hp_ : Kd.R (Kd.int .u8) 5 w70 w.heap.size (fun k_ => some k_ ≠ (.slice Ao26 x9_2.length co26 : Value).ownBlock) (.slice (some ⟨go60, 0, none⟩) y201.length co68) y205 := (by rw [hw, Ny205.out]; exact HP69.1); clear HP69; have n0_ := Aside0.mk (Kd.R_after (v := (.slice (some ⟨go60, 0, none⟩) y201.length co68)) (v1 := (.slice (some ⟨go60, 0, none⟩) y201.length co68)) (ok := (fun _ => True)) (by (with_reducible repeat (first | apply Kd.R_alloc | apply Kd.R_drewN | apply Kd.R_drew)); exact HO_9.out) hg (.inl rfl)); have n1_ := Aside0.mk (hp_); have n2_ := Aside0.mk ((by rw [hw]; exact below_set (HB.out) GB60.out : Below w.heap.size w w70)); clear HO_9; clear HO203; clear HB; have HO_9 := n0_; have HO203 := n1_; have HB := n2_; clear n0_ n1_ n2_; clear hg hw hp_) | ((with_reducible refine gate_callee (f := 17) rfl ?_); refine goesL_ (some 126) rfl rfl Try.func17 (by kernel_rfl) rfl #[.slice (some ⟨go60, 0, none⟩) y205.length co68] rfl (by (try simp only [List.map_toArray, List.map_cons, List.map_nil]); first | done | (rw [show y205.length = y201.length from (Kd.R_reads' HO203.out).1.symm] <;> rfl) | rfl | (simp only [List.length_drop, List.length_take]; rfl)) ?_; (with_reducible refine (sum_All.calls kj49 _ _ y205 t206 t207 t208 _ ?side1 ?side2 A61.out).mono ?_); (case side1 => repeat (first | exact (Kd.R_reads' HO203.out).2.2 | (with_reducible refine Kd.C_alloc ?_ _) | (with_reducible refine Kd.C_drewN ?_ _) | (with_reducible refine Kd.C_drew ?_))); (case side2 => rw [show y205.length = y201.length from (Kd.R_reads' HO203.out).1.symm]; exact (Kd.R_reads' HO203.out).2.1); rintro e w71 ⟨v209, rfl, ho0, hb⟩; refine ⟨_, rfl, ?_⟩; have n0_ := Aside0.mk (Kd.R_below (by (with_reducible repeat (first | apply Kd.R_alloc | apply Kd.R_drewN | apply Kd.R_drew)); exact HO_9.out) hb); have n1_ := Aside0.mk (Kd.R_below (by (with_reducible repeat (first | apply Kd.R_alloc | apply Kd.R_drewN | apply Kd.R_drew)); exact HO203.out) hb); have n2_ := Aside0.mk (Kd.S_lower (Kd.S_new' (Kd.S_new' ho0 (Kd.R_lt (by (with_reducible repeat (first | apply Kd.R_alloc | apply Kd.R_drewN | apply Kd.R_drew)); exact HO_9.out))) (Kd.R_lt (by (with_reducible repeat (first | apply Kd.R_alloc | apply Kd.R_drewN | apply Kd.R_drew)); exact HO203.out))) (below_size (by repeat (first | (with_reducible first | exact HB.out | apply below_alloc | apply pw_below_drewN | apply below_drew1) | exact HB.out)))); have n3_ := Aside0.mk (below_step (by repeat (first | (with_reducible first | exact HB.out | apply below_alloc | apply pw_below_drewN | apply below_drew1) | exact HB.out)) hb); clear HO_9; clear HO203; clear HB; have HO_9 := n0_; have HO203 := n1_; have HO210 := n2_; have HB := n3_; clear n0_ n1_ n2_ n3_; (try clear hb); (try clear hb2); (try clear hk); (try clear hi); (try clear ho0)) | ((with_reducible refine gate_callee (f := 8) rfl ?_); refine goesL_ (some 130) rfl rfl Try.func8 (by kernel_rfl) rfl #[] rfl (by (try simp only [List.map_toArray, List.map_cons, List.map_nil]); first | done | rfl | (simp only [List.length_drop, List.length_take]; rfl)) ?_; (with_reducible refine (pluviallaw03_awake.calls  true _ A62.out).mono ?_); rintro e w72 ⟨rfl, hb⟩; refine ⟨_, rfl, ?_⟩; have n0_ := Aside0.mk (Kd.R_below (by (with_reducible repeat (first | apply Kd.R_alloc | apply Kd.R_drewN | apply Kd.R_drew)); exact HO_9.out) hb); have n1_ := Aside0.mk (Kd.R_below (by (with_reducible repeat (first | apply Kd.R_alloc | apply Kd.R_drewN | apply Kd.R_drew)); exact HO203.out) hb); have n2_ := Aside0.mk (Kd.S_below (by (with_reducible repeat (first | apply Kd.S_alloc | apply Kd.S_drewN | apply Kd.S_drew)); exact HO210.out) hb); have n3_ := Aside0.mk (below_step (by repeat (first | (with_reducible first | exact HB.out | apply below_alloc | apply pw_below_drewN | apply below_drew1) | exact HB.out)) hb); clear HO_9; clear HO203; clear HO210; clear HB; have HO_9 := n0_; have HO203 := n1_; have HO210 := n2_; have HB := n3_; clear n0_ n1_ n2_ n3_; (try clear hb); (try clear hb2); (try clear hk); (try clear hi); obtain ⟨Ao73, co73, eo73⟩ := Kd.S_slice HO210.out; subst eo73))
                                                      go_ret
                                                      exact ⟨by first | rfl | (simp [errW_none, errW_some] <;> rfl) | (simp only [← hji57]; first | rfl | (simp [errW_none, errW_some] <;> rfl)) | (simp [*, errW_none, errW_some] <;> rfl), by repeat (first | (with_reducible first | exact HB.out | apply below_alloc | apply pw_below_drewN | apply below_drew1) | exact HB.out)⟩
                                                    · rw [if_neg c64] at H
                                                      have c64b0 : ((t206.length : Int) == x17_5) = false := beq_eq_false_iff_ne.mpr c64
                                                      have c64b1 : ((t206.length : Int) != x17_5) = true := bne_iff_ne.mpr c64
                                                      exact absurd ((Option.some.inj H).trans hr_.out) (by decide)
                                                  · replace c63 := Bool.eq_false_iff.mpr c63
                                                    subst c63
                                                    have H1 : (some false) = some r := by rw [if_neg (show ¬ (false = true) by decide)] at H; exact H
                                                    clear H
                                                    have H := H1
                                                    clear H1
                                                    exact absurd ((Option.some.inj H).trans hr_.out) (by decide)
                                                · rw [if_neg c59] at H
                                                  exact absurd H (by simp)
                                              · rw [if_neg c58] at H
                                                exact absurd H (by simp)
                                            · rw [if_neg c56] at H
                                              exact absurd H (by simp)
                                  · rw [if_neg c47] at H
                                    exact absurd H (by simp)
                                · rw [if_neg c46] at H
                                  exact absurd H (by simp)


end Go.Proofs.Ytmklgjcflgjbjaa.QSumSeals
