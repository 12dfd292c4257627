-- Written by a program of the session (wip/xprint.sh, wip/xpatch.py; a variant of the print) out of the translation. Lean checks it.
import Derived.Test.YtmklgjcflgjbjaaQSumSealsx0
namespace Go.Proofs.Ytmklgjcflgjbjaa.QSumSeals
open Go.RowKit Go.Proofs.YtmklgjcflgjbjaaW.PrintWords Go.Proofs.YtmklgjcflgjbjaaW.PrintLast Go.Proofs.YtmklgjcflgjbjaaW.PrintMore
attribute [local go_sem] max2_int min2_int max_two min_two max_three min_three max_four min_four   -- for this text's walks alone
set_option linter.unusedVariables false
set_option linter.unusedSimpArgs false

/-! ### sum_table: function 20 -/
def sum_table.f : Option Int := none

/-! ### sum_Of: function 9 -/
def sum_Of.f (l0 : List (List Int)) : Option Int := some (Sum.crcFin (Sum.crcAll 4294967295 l0))
theorem sum_Of.calls (A0 : Option Addr) (c0 : Nat) (l0 : List (List Int)) (r : Int) (w : World) (hr0 : Kd.C (Kd.slice 5 (Kd.int .u8)) w A0 l0.length l0) (hc0 : l0.length ≤ c0) (h : sum_Of.f l0 = some r) :
    Calls Try.prog 9 #[.slice A0 l0.length c0] w fun e w' => e = .returned (.int .u32 r) ∧ Below w.heap.size w w' := by
  obtain rfl := Option.some.inj h
  exact Sum.of_walk A0 c0 l0 w hr0 hc0

/-! ### pluviallaw03_awake: function 8 -/
def pluviallaw03_awake.f  : Option (Bool) := some true
theorem pluviallaw03_awake.calls  (r : Bool) (w : World) (h : pluviallaw03_awake.f  = some r) :
    Calls Try.prog 8 #[] w fun e w' => e = .returned (.bool r) ∧ Below w.heap.size w w' := by
  obtain rfl := Option.some.inj h
  exact Sum.awake_walk w

/-! ### sum_Number: function 13 -/
def sum_Number.l0 : Nat → List Int → Int → Int → Option (Int)
  | 0, _, _, _ => none
  | k + 1, x0, x3, x4 => if x4 ≥ 0 then (if 0 ≤ x4 then (if x4 < (x0.length : Int) then (sum_Number.l0 k x0 (Go.bits .or .u32 ((x3 * 256) % 4294967296) ((rd x0 x4) % 4294967296)) (wrap64 (x4 - 1))) else (none)) else (none)) else (some x3)
def sum_Number.f (k : Nat) (l0 : List Int) : Option (Int) := sum_Number.l0 k l0 0 ((mn (l0.length : Int) 4) - 1)
theorem sum_Number.mono_l : ∀ k, (∀ y0 y1 y2, LeO (sum_Number.l0 k y0 y1 y2) (sum_Number.l0 (k + 1) y0 y1 y2))
  | 0 => fun _ _ _ r h => by simp [sum_Number.l0] at h
  | k + 1 => by
    have ih0 := sum_Number.mono_l k
    · intro y0 y1 y2
      unfold sum_Number.l0
      repeat' first
      | (with_reducible exact ih0 _ _ _)
      | (with_reducible exact LeO.refl _)
      | (with_reducible exact LeO.none _)
      | (with_reducible refine LeO.ite ?_ ?_)
      | (with_reducible refine LeO.bind ?_ (fun _ => ?_))
      | exact ih0 _ _ _
      | exact LeO.none _
      | refine LeO.ite ?_ ?_
      | refine LeO.bind ?_ (fun _ => ?_)
theorem sum_Number.mono : ∀ a0 k, LeO (sum_Number.f k a0) (sum_Number.f (k + 1) a0) := by
  intro a0 k
  have ih0 := sum_Number.mono_l k
  unfold sum_Number.f
  repeat' first
      | (with_reducible exact ih0 _ _ _)
      | (with_reducible exact LeO.refl _)
      | (with_reducible exact LeO.none _)
      | (with_reducible refine LeO.ite ?_ ?_)
      | (with_reducible refine LeO.bind ?_ (fun _ => ?_))
      | exact ih0 _ _ _
      | exact LeO.none _
      | refine LeO.ite ?_ ?_
      | refine LeO.bind ?_ (fun _ => ?_)
set_option maxHeartbeats 8000000 in
set_option maxRecDepth 100000 in
theorem sum_Number.calls (k : Nat) (A0 : Option Addr) (c0 : Nat) (l0 : List Int) (r : Int) (w : World) (hr0 : Kd.C (Kd.int .u8) w A0 l0.length l0) (hc0 : l0.length ≤ c0) (h : sum_Number.f k l0 = some r) :
    Calls Try.prog 13 #[.slice A0 l0.length c0] w fun e w' => e = .returned (.int .u32 r) ∧ Below w.heap.size w w' := by
  have HR0 := Aside0.mk hr0
  have HC0 := Aside0.mk hc0
  clear hr0 hc0
  have HB := Aside0.mk (Below.refl w.heap.size w)
  have H : (sum_Number.l0 k l0 0 ((mn (l0.length : Int) 4) - 1)) = some r := h
  clear h
  obtain ⟨ji2, hji2⟩ : ∃ j_ : Int, (mn (l0.length : Int) 4) = j_ := ⟨_, rfl⟩
  replace H : (sum_Number.l0 k l0 0 ((ji2) - 1)) = some r := by first | (rw [hji2] at H; exact H) | (simp only [hji2] at H ⊢; exact H)
  (try (have hji2h : ji2 ≤ 4 := by (rw [← hji2]; unfold mn; (repeat' split) <;> omega)))
  (try (have hji2g : ji2 ≤ 64 := by omega))
  (try (have hji2l : 0 ≤ ji2 := by (rw [← hji2]; unfold mn; (repeat' split) <;> omega)))
  (try (have hji2m : 0 ≤ ji2 := by omega))
  have hji2_ : (if 4 < (l0.length : Int) then 4 else (l0.length : Int)) = ji2 := hji2
  have H' := Aside0.mk H
  clear H
  go_enter Try.func13, Try.ntmps13
  go_wp2
  go_loopg [3, 4] k (fun kq v3 v4 w' => ∃ (x3_1 : Int) (x4_1 : Int), v3 = .int .u32 x3_1 ∧ v4 = .int .i64 x4_1 ∧ Aside0 (sum_Number.l0 kq l0 x3_1 x4_1 = some r) ∧ Aside0 (kq ≤ k) ∧ Aside0 (Below w.heap.size w w'))
  case atStart => exact ⟨(0), ((ji2) - 1), (by first | rfl | (simp; done) | (simp [*]; done)), (by first | rfl | (simp; done) | (simp only [← hji2] <;> (first | rfl | simp)) | (simp [*]; done)), H', ⟨Nat.le_refl _⟩, ⟨by repeat (first | (with_reducible first | exact HB.out | apply below_alloc | apply pw_below_drewN | apply below_drew1) | exact HB.out)⟩⟩
  case round =>
    clear H'
    try clear c1
    try clear p2
    obtain ⟨x3_1, x4_1, rfl, rfl, HA, HK1, HB⟩ := hrel
    cases gk with
    | zero => exact absurd HA.out (by simp [sum_Number.l0])
    | succ k1 =>
      have H := HA.out
      clear HA
      simp only [sum_Number.l0] at H
      by_cases c3 : x4_1 ≥ 0
      · rw [if_pos c3] at H
        have c3b0 : decide (0 ≤ x4_1) = true := decide_eq_true c3
        clear c3
        by_cases c4 : 0 ≤ x4_1
        · rw [if_pos c4] at H
          have c4b0 : decide (0 ≤ x4_1) = true := decide_eq_true c4
          clear c4
          by_cases c5 : x4_1 < (l0.length : Int)
          · rw [if_pos c5] at H
            have c5b0 : decide (x4_1 < (l0.length : Int)) = true := decide_eq_true c5
            clear c5
            have H' := Aside0.mk H
            clear H
            have p101 : 0 ≤ (x4_1 : Int) := of_decide_eq_true (by first | (with_reducible assumption) | assumption)
            have q101 : x4_1 < (l0.length : Int) := of_decide_eq_true (by first | (with_reducible assumption) | assumption)
            obtain ⟨ad101, e101, hx101_0⟩ := Kd.at_int HR0.out x4_1 p101 q101
            cases e101
            replace hx101_0 := (HB.out.cell (World.block_lt_of_cell? w _ hx101_0)).trans hx101_0
            replace p101 := eq_true p101
            replace q101 := eq_true q101
            go_wp2
            go_roundg k1
            case measure => have := HK1.out; omega
            case rel => exact ⟨(Go.bits .or .u32 ((x3_1 * 256) % 4294967296) ((rd l0 x4_1) % 4294967296)), (wrap64 (x4_1 - 1)), (by first | rfl | (simp; done) | (simp [*]; done)), (by first | rfl | (simp; done) | (simp [*]; done)), H', ⟨by have := HK1.out; omega⟩, ⟨by repeat (first | (with_reducible first | exact HB.out | apply below_alloc | apply pw_below_drewN | apply below_drew1) | exact HB.out)⟩⟩
          · rw [if_neg c5] at H
            exact absurd H (by simp)
        · rw [if_neg c4] at H
          exact absurd H (by simp)
      · rw [if_neg c3] at H
        have c3b0 : decide (0 ≤ x4_1) = false := decide_eq_false c3
        clear c3
        obtain rfl := Option.some.inj H
        go_wp2
        go_ret
        exact ⟨by first | rfl | (simp [errW_none, errW_some] <;> rfl) | (simp only [← hji2]; first | rfl | (simp [errW_none, errW_some] <;> rfl)) | (simp [*, errW_none, errW_some] <;> rfl), by repeat (first | (with_reducible first | exact HB.out | apply below_alloc | apply pw_below_drewN | apply below_drew1) | exact HB.out)⟩

/-! ### sum_Open: function 15 -/
def sum_Open.f (k : Nat) (l0 : List Int) : Option (List Int × List Int × Int) := if (l0.length : Int) < 8 then (some (([] : List Int), ([] : List Int), 7)) else ((sum_Number.f k l0).bind fun t102 => (if (IntKind.u64.wrap (t102)) > (IntKind.u64.wrap (wrap64 ((l0.length : Int) - 8))) then (some (([] : List Int), ([] : List Int), 7)) else (if 8 ≤ (IntKind.u64.wrap (8 + (IntKind.u64.wrap (t102)))) then (if (IntKind.u64.wrap (8 + (IntKind.u64.wrap (t102)))) ≤ (l0.length : Int) then ((some ((l0.take ((IntKind.u64.wrap (8 + (IntKind.u64.wrap (t102)))) : Int).toNat).drop 8 : List Int)).bind fun y103 => (if 4 ≤ (l0.length : Int) then ((sum_Of.f (([(l0.take 4), y103] : List (List Int)))).bind fun t116 => ((sum_Number.f k (l0.drop 4)).bind fun t122 => (if t116 = t122 then (if ([] : List Int).length + y103.length < 140737488355328 then (if 0 ≤ (IntKind.u64.wrap (8 + (IntKind.u64.wrap (t102)))) then ((some (l0.drop ((IntKind.u64.wrap (8 + (IntKind.u64.wrap (t102)))) : Int).toNat : List Int)).bind fun y126 => (if ([] : List Int).length + y126.length < 140737488355328 then (some ((([] : List Int) ++ y103), (([] : List Int) ++ y126), 0)) else (none))) else (none)) else (none)) else (some (([] : List Int), ([] : List Int), 8))))) else (none))) else (none)) else (none))))
theorem sum_Open.mono : ∀ a0 k, LeO (sum_Open.f k a0) (sum_Open.f (k + 1) a0) := by
  intro a0 k
  unfold sum_Open.f
  repeat' first
      | (with_reducible exact sum_Number.mono _ _)
      | (with_reducible exact LeO.refl _)
      | (with_reducible exact LeO.none _)
      | (with_reducible refine LeO.ite ?_ ?_)
      | (with_reducible refine LeO.bind ?_ (fun _ => ?_))
      | exact sum_Number.mono _ _
      | exact LeO.none _
      | refine LeO.ite ?_ ?_
      | refine LeO.bind ?_ (fun _ => ?_)
def sum_Open.T7 : Bool × List (List Nat × List Nat) := (true, [([], []), ([0], [0]), ([], []), ([1, 2], [1, 2]), ([3], [3]), ([], []), ([5], [5]), ([6, 4], [6]), ([4, 7], [4, 7])])
def sum_Open.B7 : List Nat := [0, 1, 0, 7, 15, 0, 32, 127, 255]
theorem sum_Open.tab7 : rtab .any (opsOf Try.f15 7) = sum_Open.T7 := by kernel_rfl
theorem sum_Open.bits7 : waitsOk sum_Open.T7.2 sum_Open.B7 = true := by kernel_rfl
def sum_Open.T9 : Bool × List (List Nat × List Nat) := (true, [([], []), ([0], [0]), ([], []), ([], []), ([3], [3]), ([2, 4], [2, 4]), ([5, 1], [5]), ([1, 6, 0, 1], [0, 1]), ([6, 7, 0, 1, 2, 3, 4, 5, 6, 7], [6]), ([8, 0, 1, 2, 3, 4, 5, 6, 7, 8], [])])
def sum_Open.B9 : List Nat := [0, 1, 0, 0, 8, 28, 63, 127, 255, 511]
theorem sum_Open.tab9 : rtab .any (opsOf Try.f15 9) = sum_Open.T9 := by kernel_rfl
theorem sum_Open.bits9 : waitsOk sum_Open.T9.2 sum_Open.B9 = true := by kernel_rfl
set_option maxHeartbeats 8000000 in
set_option maxRecDepth 100000 in
theorem sum_Open.calls (k : Nat) (P0_ : Nat → Prop) (A0 : Option Addr) (c0 : Nat) (l0 : List Int) (r1 : List Int) (r2 : List Int) (r3 : Int) (w : World) (hs0 : Kd.V (Kd.int .u8) 5 w w.heap.size (fun k_ => P0_ k_) (.slice A0 l0.length c0) l0) (h : sum_Open.f k l0 = some (r1, r2, r3)) :
    Calls Try.prog 15 #[.slice A0 l0.length c0] w fun e w' => ∃ v0_ v1_ : Value, e = .returned (.tuple #[v0_, v1_, .int .i64 r3]) ∧ Kd.R (Kd.int .u8) 5 w' w.heap.size (fun k_ => (w.heap.size ≤ k_) ∧ some k_ ≠ (v1_ : Value).ownBlock) v0_ r1 ∧ Kd.R (Kd.int .u8) 5 w' w.heap.size (fun k_ => (w.heap.size ≤ k_) ∧ some k_ ≠ (v0_ : Value).ownBlock) v1_ r2 ∧ Below w.heap.size w w' := by
  have HO0 := Aside0.mk (show Kd.V (Kd.int .u8) 5 w w.heap.size (fun k_ => (P0_ k_ ∨ w.heap.size ≤ k_)) (.slice A0 l0.length c0) l0 from Kd.V_mono hs0 (fun k_ hk => .inl hk))
  have HB := Aside0.mk (Below.refl w.heap.size w)
  have H : (if (l0.length : Int) < 8 then (some (([] : List Int), ([] : List Int), 7)) else ((sum_Number.f k l0).bind fun t102 => (if (IntKind.u64.wrap (t102)) > (IntKind.u64.wrap (wrap64 ((l0.length : Int) - 8))) then (some (([] : List Int), ([] : List Int), 7)) else (if 8 ≤ (IntKind.u64.wrap (8 + (IntKind.u64.wrap (t102)))) then (if (IntKind.u64.wrap (8 + (IntKind.u64.wrap (t102)))) ≤ (l0.length : Int) then ((some ((l0.take ((IntKind.u64.wrap (8 + (IntKind.u64.wrap (t102)))) : Int).toNat).drop 8 : List Int)).bind fun y103 => (if 4 ≤ (l0.length : Int) then ((sum_Of.f (([(l0.take 4), y103] : List (List Int)))).bind fun t116 => ((sum_Number.f k (l0.drop 4)).bind fun t122 => (if t116 = t122 then (if ([] : List Int).length + y103.length < 140737488355328 then (if 0 ≤ (IntKind.u64.wrap (8 + (IntKind.u64.wrap (t102)))) then ((some (l0.drop ((IntKind.u64.wrap (8 + (IntKind.u64.wrap (t102)))) : Int).toNat : List Int)).bind fun y126 => (if ([] : List Int).length + y126.length < 140737488355328 then (some ((([] : List Int) ++ y103), (([] : List Int) ++ y126), 0)) else (none))) else (none)) else (none)) else (some (([] : List Int), ([] : List Int), 8))))) else (none))) else (none)) else (none))))) = some (r1, r2, r3) := h
  clear h
  by_cases c2 : (l0.length : Int) < 8
  · rw [if_pos c2] at H
    have c2b0 : decide ((l0.length : Int) < 8) = true := decide_eq_true c2
    have c2b1 : decide (l0.length < 8) = true := decide_eq_true (by omega)
    clear c2
    simp only [Option.some.injEq, Prod.mk.injEq] at H
    obtain ⟨rfl, rfl, rfl⟩ := H
    go_enter Try.func15, Try.ntmps15
    go_wp2
    go_ret3
    exact ⟨_, _, by first | rfl | (simp [errW_none, errW_some] <;> rfl) | (simp [*, errW_none, errW_some] <;> rfl), by first | exact Kd.R_nil _ _ _ _ _ | exact Kd.N_nil _ _ _ _ _ | exact Kd.V_nil _ _ _ _ _ | exact Kd.Q_nil _ _ _ _ _ | exact Kd.S_nil _ _ _ _ _, by first | exact Kd.R_nil _ _ _ _ _ | exact Kd.N_nil _ _ _ _ _ | exact Kd.V_nil _ _ _ _ _ | exact Kd.Q_nil _ _ _ _ _ | exact Kd.S_nil _ _ _ _ _, by repeat (first | (with_reducible first | exact HB.out | apply below_alloc | apply pw_below_drewN | apply below_drew1) | exact HB.out)⟩
  · rw [if_neg c2] at H
    have c2b0 : decide ((l0.length : Int) < 8) = false := decide_eq_false c2
    have c2b1 : decide (l0.length < 8) = false := decide_eq_false (by omega)
    clear c2
    replace H := Option.bind_eq_some_iff.mp H
    obtain ⟨t102, A30, H⟩ := H
    replace H : (if (IntKind.u64.wrap (t102)) > (IntKind.u64.wrap (wrap64 ((l0.length : Int) - 8))) then (some (([] : List Int), ([] : List Int), 7)) else (if 8 ≤ (IntKind.u64.wrap (8 + (IntKind.u64.wrap (t102)))) then (if (IntKind.u64.wrap (8 + (IntKind.u64.wrap (t102)))) ≤ (l0.length : Int) then ((some ((l0.take ((IntKind.u64.wrap (8 + (IntKind.u64.wrap (t102)))) : Int).toNat).drop 8 : List Int)).bind fun y103 => (if 4 ≤ (l0.length : Int) then ((sum_Of.f (([(l0.take 4), y103] : List (List Int)))).bind fun t116 => ((sum_Number.f k (l0.drop 4)).bind fun t122 => (if t116 = t122 then (if ([] : List Int).length + y103.length < 140737488355328 then (if 0 ≤ (IntKind.u64.wrap (8 + (IntKind.u64.wrap (t102)))) then ((some (l0.drop ((IntKind.u64.wrap (8 + (IntKind.u64.wrap (t102)))) : Int).toNat : List Int)).bind fun y126 => (if ([] : List Int).length + y126.length < 140737488355328 then (some ((([] : List Int) ++ y103), (([] : List Int) ++ y126), 0)) else (none))) else (none)) else (none)) else (some (([] : List Int), ([] : List Int), 8))))) else (none))) else (none)) else (none))) = some (r1, r2, r3) := H
    have A3 := Aside0.mk A30
    clear A30
    by_cases c4 : (IntKind.u64.wrap (t102)) > (IntKind.u64.wrap (wrap64 ((l0.length : Int) - 8)))
    · rw [if_pos c4] at H
      have c4b0 : decide ((IntKind.u64.wrap (wrap64 ((l0.length : Int) - 8))) < (IntKind.u64.wrap (t102))) = true := decide_eq_true c4
      clear c4
      simp only [Option.some.injEq, Prod.mk.injEq] at H
      obtain ⟨rfl, rfl, rfl⟩ := H
      go_enter Try.func15, Try.ntmps15
      go_wp2_with (first | ((with_reducible refine gate_callee (f := 13) rfl ?_); refine goesL_ (some 10) rfl rfl Try.func13 (by kernel_rfl) rfl #[.slice A0 l0.length c0] rfl (by (try simp only [List.map_toArray, List.map_cons, List.map_nil]); first | done | rfl | (simp only [List.length_drop, List.length_take]; rfl)) ?_; (with_reducible refine (sum_Number.calls k _ _ l0 t102 _ ?side1 ?side2 A3.out).mono ?_); (case side1 => repeat (first | exact (Kd.V_reads' HO0.out).2.2 | (with_reducible refine Kd.C_alloc ?_ _) | (with_reducible refine Kd.C_drewN ?_ _) | (with_reducible refine Kd.C_drew ?_))); (case side2 => exact (Kd.V_reads' HO0.out).2.1); rintro e w5 ⟨rfl, hb⟩; refine ⟨_, rfl, ?_⟩; have n0_ := Aside0.mk (Kd.V_below (by (with_reducible repeat (first | apply Kd.V_alloc | apply Kd.V_drewN | apply Kd.V_drew)); exact HO0.out) hb); have n1_ := Aside0.mk (below_step (by repeat (first | (with_reducible first | exact HB.out | apply below_alloc | apply pw_below_drewN | apply below_drew1) | exact HB.out)) hb); clear HO0; clear HB; have HO0 := n0_; have HB := n1_; clear n0_ n1_; (try clear hb); (try clear hb2); (try clear hk); (try clear hi)))
      go_ret3
      exact ⟨_, _, by first | rfl | (simp [errW_none, errW_some] <;> rfl) | (simp [*, errW_none, errW_some] <;> rfl), by first | exact Kd.R_nil _ _ _ _ _ | exact Kd.N_nil _ _ _ _ _ | exact Kd.V_nil _ _ _ _ _ | exact Kd.Q_nil _ _ _ _ _ | exact Kd.S_nil _ _ _ _ _, by first | exact Kd.R_nil _ _ _ _ _ | exact Kd.N_nil _ _ _ _ _ | exact Kd.V_nil _ _ _ _ _ | exact Kd.Q_nil _ _ _ _ _ | exact Kd.S_nil _ _ _ _ _, by repeat (first | (with_reducible first | exact HB.out | apply below_alloc | apply pw_below_drewN | apply below_drew1) | exact HB.out)⟩
    · rw [if_neg c4] at H
      have c4b0 : decide ((IntKind.u64.wrap (wrap64 ((l0.length : Int) - 8))) < (IntKind.u64.wrap (t102))) = false := decide_eq_false c4
      clear c4
      by_cases c6 : 8 ≤ (IntKind.u64.wrap (8 + (IntKind.u64.wrap (t102))))
      · rw [if_pos c6] at H
        have c6b0 := eq_true c6
        have c6b1 : decide (8 ≤ (IntKind.u64.wrap (8 + (IntKind.u64.wrap (t102))))) = true := decide_eq_true c6
        by_cases c7 : (IntKind.u64.wrap (8 + (IntKind.u64.wrap (t102)))) ≤ (l0.length : Int)
        · rw [if_pos c7] at H
          have c7b0 := eq_true c7
          have c7b1 : decide ((IntKind.u64.wrap (8 + (IntKind.u64.wrap (t102)))) ≤ (l0.length : Int)) = true := decide_eq_true c7
          obtain ⟨y103, hy103⟩ : ∃ y_ : List Int, y_ = ((l0.take ((IntKind.u64.wrap (8 + (IntKind.u64.wrap (t102)))) : Int).toNat).drop 8) := ⟨_, rfl⟩
          replace H : (if 4 ≤ (l0.length : Int) then ((sum_Of.f (([(l0.take 4), y103] : List (List Int)))).bind fun t116 => ((sum_Number.f k (l0.drop 4)).bind fun t122 => (if t116 = t122 then (if ([] : List Int).length + y103.length < 140737488355328 then (if 0 ≤ (IntKind.u64.wrap (8 + (IntKind.u64.wrap (t102)))) then ((some (l0.drop ((IntKind.u64.wrap (8 + (IntKind.u64.wrap (t102)))) : Int).toNat : List Int)).bind fun y126 => (if ([] : List Int).length + y126.length < 140737488355328 then (some ((([] : List Int) ++ y103), (([] : List Int) ++ y126), 0)) else (none))) else (none)) else (none)) else (some (([] : List Int), ([] : List Int), 8))))) else (none)) = some (r1, r2, r3) := by first | (rw [hy103]; with_reducible exact H) | (have H2_ := (Option.bind_some _ _).symm.trans H; rw [hy103]; with_reducible exact H2_) | (have H2_ := (Option.bind_some _ _).symm.trans H; with_reducible exact H2_) | with_reducible exact H | (rw [hy103]; exact H) | exact H
          have Ny103 := Aside0.mk hy103
          clear hy103
          by_cases c8 : 4 ≤ (l0.length : Int)
          · rw [if_pos c8] at H
            have c8b0 := eq_true c8
            have c8b1 : decide (4 ≤ (l0.length : Int)) = true := decide_eq_true c8
            clear c8
            obtain ⟨y108, hy108⟩ : ∃ y_ : List Int, y_ = (l0.take 4) := ⟨_, rfl⟩
            replace H : ((sum_Of.f (([y108, y103] : List (List Int)))).bind fun t116 => ((sum_Number.f k (l0.drop 4)).bind fun t122 => (if t116 = t122 then (if ([] : List Int).length + y103.length < 140737488355328 then (if 0 ≤ (IntKind.u64.wrap (8 + (IntKind.u64.wrap (t102)))) then ((some (l0.drop ((IntKind.u64.wrap (8 + (IntKind.u64.wrap (t102)))) : Int).toNat : List Int)).bind fun y126 => (if ([] : List Int).length + y126.length < 140737488355328 then (some ((([] : List Int) ++ y103), (([] : List Int) ++ y126), 0)) else (none))) else (none)) else (none)) else (some (([] : List Int), ([] : List Int), 8))))) = some (r1, r2, r3) := by first | (rw [hy108]; with_reducible exact H) | (have H2_ := (Option.bind_some _ _).symm.trans H; rw [hy108]; with_reducible exact H2_) | (have H2_ := (Option.bind_some _ _).symm.trans H; with_reducible exact H2_) | with_reducible exact H | (rw [hy108]; exact H) | exact H
            have Ny108 := Aside0.mk hy108
            clear hy108
            obtain ⟨y113, hy113⟩ : ∃ y_ : List (List Int), y_ = (([y108, y103] : List (List Int))) := ⟨_, rfl⟩
            replace H : ((sum_Of.f y113).bind fun t116 => ((sum_Number.f k (l0.drop 4)).bind fun t122 => (if t116 = t122 then (if ([] : List Int).length + y103.length < 140737488355328 then (if 0 ≤ (IntKind.u64.wrap (8 + (IntKind.u64.wrap (t102)))) then ((some (l0.drop ((IntKind.u64.wrap (8 + (IntKind.u64.wrap (t102)))) : Int).toNat : List Int)).bind fun y126 => (if ([] : List Int).length + y126.length < 140737488355328 then (some ((([] : List Int) ++ y103), (([] : List Int) ++ y126), 0)) else (none))) else (none)) else (none)) else (some (([] : List Int), ([] : List Int), 8))))) = some (r1, r2, r3) := by first | (rw [hy113]; with_reducible exact H) | (have H2_ := (Option.bind_some _ _).symm.trans H; rw [hy113]; with_reducible exact H2_) | (have H2_ := (Option.bind_some _ _).symm.trans H; with_reducible exact H2_) | with_reducible exact H | (rw [hy113]; exact H) | exact H
            have Ny113 := Aside0.mk hy113
            clear hy113
            replace H := Option.bind_eq_some_iff.mp H
            obtain ⟨t116, A90, H⟩ := H
            replace H : ((sum_Number.f k (l0.drop 4)).bind fun t122 => (if t116 = t122 then (if ([] : List Int).length + y103.length < 140737488355328 then (if 0 ≤ (IntKind.u64.wrap (8 + (IntKind.u64.wrap (t102)))) then ((some (l0.drop ((IntKind.u64.wrap (8 + (IntKind.u64.wrap (t102)))) : Int).toNat : List Int)).bind fun y126 => (if ([] : List Int).length + y126.length < 140737488355328 then (some ((([] : List Int) ++ y103), (([] : List Int) ++ y126), 0)) else (none))) else (none)) else (none)) else (some (([] : List Int), ([] : List Int), 8)))) = some (r1, r2, r3) := H
            have A9 := Aside0.mk A90
            clear A90
            have c10b0 := eq_true (of_decide_eq_true (by first | (with_reducible assumption) | assumption) : 4 ≤ (l0.length : Int))
            obtain ⟨y117, hy117⟩ : ∃ y_ : List Int, y_ = (l0.drop 4) := ⟨_, rfl⟩
            replace H : ((sum_Number.f k y117).bind fun t122 => (if t116 = t122 then (if ([] : List Int).length + y103.length < 140737488355328 then (if 0 ≤ (IntKind.u64.wrap (8 + (IntKind.u64.wrap (t102)))) then ((some (l0.drop ((IntKind.u64.wrap (8 + (IntKind.u64.wrap (t102)))) : Int).toNat : List Int)).bind fun y126 => (if ([] : List Int).length + y126.length < 140737488355328 then (some ((([] : List Int) ++ y103), (([] : List Int) ++ y126), 0)) else (none))) else (none)) else (none)) else (some (([] : List Int), ([] : List Int), 8)))) = some (r1, r2, r3) := by first | (rw [hy117]; with_reducible exact H) | (have H2_ := (Option.bind_some _ _).symm.trans H; rw [hy117]; with_reducible exact H2_) | (have H2_ := (Option.bind_some _ _).symm.trans H; with_reducible exact H2_) | with_reducible exact H | (rw [hy117]; exact H) | exact H
            have Ny117 := Aside0.mk hy117
            clear hy117
            replace H := Option.bind_eq_some_iff.mp H
            obtain ⟨t122, A110, H⟩ := H
            replace H : (if t116 = t122 then (if ([] : List Int).length + y103.length < 140737488355328 then (if 0 ≤ (IntKind.u64.wrap (8 + (IntKind.u64.wrap (t102)))) then ((some (l0.drop ((IntKind.u64.wrap (8 + (IntKind.u64.wrap (t102)))) : Int).toNat : List Int)).bind fun y126 => (if ([] : List Int).length + y126.length < 140737488355328 then (some ((([] : List Int) ++ y103), (([] : List Int) ++ y126), 0)) else (none))) else (none)) else (none)) else (some (([] : List Int), ([] : List Int), 8))) = some (r1, r2, r3) := H
            have A11 := Aside0.mk A110
            clear A110
            by_cases c12 : t116 = t122
            · rw [if_pos c12] at H
              have c12b0 : (t116 == t122) = true := beq_iff_eq.mpr c12
              have c12b1 : (t116 != t122) = false := bne_eq_false_iff_eq.mpr c12
              clear c12
              by_cases c13 : ([] : List Int).length + y103.length < 140737488355328
              · rw [if_pos c13] at H
                have LMc13 := Aside0.mk c13
                clear c13
                obtain ⟨y123, hy123⟩ : ∃ y_ : List Int, y_ = (([] : List Int) ++ y103) := ⟨_, rfl⟩
                replace H : (if 0 ≤ (IntKind.u64.wrap (8 + (IntKind.u64.wrap (t102)))) then ((some (l0.drop ((IntKind.u64.wrap (8 + (IntKind.u64.wrap (t102)))) : Int).toNat : List Int)).bind fun y126 => (if ([] : List Int).length + y126.length < 140737488355328 then (some (y123, (([] : List Int) ++ y126), 0)) else (none))) else (none)) = some (r1, r2, r3) := by first | (rw [hy123]; with_reducible exact H) | (have H2_ := (Option.bind_some _ _).symm.trans H; rw [hy123]; with_reducible exact H2_) | (have H2_ := (Option.bind_some _ _).symm.trans H; with_reducible exact H2_) | with_reducible exact H | (rw [hy123]; exact H) | exact H
                have Ny123 := Aside0.mk hy123
                clear hy123
                obtain ⟨ji14, hji14⟩ : ∃ j_ : Int, (IntKind.u64.wrap (8 + (IntKind.u64.wrap (t102)))) = j_ := ⟨_, rfl⟩
                replace H : (if 0 ≤ (ji14) then ((some (l0.drop ((ji14) : Int).toNat : List Int)).bind fun y126 => (if ([] : List Int).length + y126.length < 140737488355328 then (some (y123, (([] : List Int) ++ y126), 0)) else (none))) else (none)) = some (r1, r2, r3) := by first | (rw [hji14] at H; exact H) | (simp only [hji14] at H ⊢; exact H)
                (try rw [hji14] at c6b0)
                (try rw [hji14] at c6b1)
                (try rw [hji14] at c6)
                (try rw [hji14] at c7b0)
                (try rw [hji14] at c7b1)
                (try rw [hji14] at c7)
                (try rw [hji14] at A3)
                (try rw [hji14] at Ny103)
                (try rw [hji14] at A9)
                (try rw [hji14] at A11)
                (try rw [hji14] at Ny103)
                by_cases c15 : 0 ≤ (ji14)
                · rw [if_pos c15] at H
                  have c15b0 := eq_true c15
                  have c15b1 : decide (0 ≤ (ji14)) = true := decide_eq_true c15
                  clear c15
                  have c16b0 := eq_true (of_decide_eq_true (by first | (with_reducible assumption) | assumption) : (ji14) ≤ (l0.length : Int))
                  obtain ⟨y126, hy126⟩ : ∃ y_ : List Int, y_ = (l0.drop ((ji14) : Int).toNat) := ⟨_, rfl⟩
                  replace H : (if ([] : List Int).length + y126.length < 140737488355328 then (some (y123, (([] : List Int) ++ y126), 0)) else (none)) = some (r1, r2, r3) := by first | (rw [hy126]; with_reducible exact H) | (have H2_ := (Option.bind_some _ _).symm.trans H; rw [hy126]; with_reducible exact H2_) | (have H2_ := (Option.bind_some _ _).symm.trans H; with_reducible exact H2_) | with_reducible exact H | (rw [hy126]; exact H) | exact H
                  have Ny126 := Aside0.mk hy126
                  clear hy126
                  by_cases c17 : ([] : List Int).length + y126.length < 140737488355328
                  · rw [if_pos c17] at H
                    have LMc17 := Aside0.mk c17
                    clear c17
                    obtain ⟨y131, hy131⟩ : ∃ y_ : List Int, y_ = (([] : List Int) ++ y126) := ⟨_, rfl⟩
                    replace H : (some (y123, y131, 0)) = some (r1, r2, r3) := by first | (rw [hy131]; with_reducible exact H) | (have H2_ := (Option.bind_some _ _).symm.trans H; rw [hy131]; with_reducible exact H2_) | (have H2_ := (Option.bind_some _ _).symm.trans H; with_reducible exact H2_) | with_reducible exact H | (rw [hy131]; exact H) | exact H
                    have Ny131 := Aside0.mk hy131
                    clear hy131
                    simp only [Option.some.injEq, Prod.mk.injEq] at H
                    obtain ⟨rfl, rfl, rfl⟩ := H
                    go_enter Try.func15, Try.ntmps15
                    try go_wp2_with (first | ((with_reducible refine gate_callee (f := 13) rfl ?_); refine goesL_ (some 10) rfl rfl Try.func13 (by kernel_rfl) rfl #[.slice A0 l0.length c0] rfl (by (try simp only [List.map_toArray, List.map_cons, List.map_nil]); first | done | rfl | (simp only [List.length_drop, List.length_take]; rfl)) ?_; (with_reducible refine (sum_Number.calls k _ _ l0 t102 _ ?side1 ?side2 A3.out).mono ?_); (case side1 => repeat (first | exact (Kd.V_reads' HO0.out).2.2 | (with_reducible refine Kd.C_alloc ?_ _) | (with_reducible refine Kd.C_drewN ?_ _) | (with_reducible refine Kd.C_drew ?_))); (case side2 => exact (Kd.V_reads' HO0.out).2.1); rintro e w18 ⟨rfl, hb⟩; refine ⟨_, rfl, ?_⟩; have n0_ := Aside0.mk (Kd.V_below (by (with_reducible repeat (first | apply Kd.V_alloc | apply Kd.V_drewN | apply Kd.V_drew)); exact HO0.out) hb); have n1_ := Aside0.mk (below_step (by repeat (first | (with_reducible first | exact HB.out | apply below_alloc | apply pw_below_drewN | apply below_drew1) | exact HB.out)) hb); clear HO0; clear HB; have HO0 := n0_; have HB := n1_; clear n0_ n1_; (try clear hb); (try clear hb2); (try clear hk); (try clear hi); have q19 : ((ji14) : Int) ≤ ((l0.length : Int) : Int) := of_decide_eq_true (by first | (with_reducible assumption) | assumption); obtain ⟨i019, hi019, _, hsz19, _⟩ := info_parts info5; have hroom19 : l0.length ≤ c0 := (Kd.V_reads' HO0.out).2.1; have hC19 : Kd.F (Kd.int .u8) _ _ A0 l0.length l0 := (Kd.V_at (base := w.heap.size) HO0.out).2.2; have ql19 : (8 : Int) ≤ ((ji14) : Int) := of_decide_eq_true (by first | (with_reducible assumption) | assumption); have hcut19 := cut_mid (P := Try.prog) 24 5 .i64 .u64 Try.underlying24 hi019 1 hsz19 A0 l0.length c0 8 (ji14) (by omega) ql19 q19 hroom19; have hr19 := Kd.F_mid (lo := (8 : Int).toNat) (hi := ((ji14) : Int).toNat) (c := c0) hC19 (by omega) (by omega) hroom19; obtain ⟨A19, hA19⟩ : ∃ A1, A1 = (if c0 = (8 : Int).toNat then A0 else (A0 : Option Addr).map (·.add ((8 : Int).toNat * 1))) := ⟨_, rfl⟩; obtain ⟨c19, hc19⟩ : ∃ c1, c1 = c0 - (8 : Int).toNat := ⟨_, rfl⟩; have hy19 : y103.length = ((ji14) : Int).toNat - (8 : Int).toNat := (by rw [Ny103.out, List.length_drop, List.length_take] <;> omega); rw [show ((l0).take ((ji14) : Int).toNat).drop (8 : Int).toNat = y103 from Ny103.out.symm] at hr19; replace hr19 : Kd.F (Kd.int .u8) _ _ A19 y103.length y103 := (by rw [hA19]; exact hr19); rw [← hy19, ← hA19, ← hc19] at hcut19; have HO107 := Aside0.mk (show Kd.V (Kd.int .u8) 5 _ w.heap.size _ (.slice A19 y103.length c19) y103 from Kd.V_mk (by rw [hy19, hc19]; exact Nat.sub_le_sub_right (Nat.le_trans (by omega) hroom19) _) hr19); have HC107 := Aside0.mk (show y103.length ≤ c19 from by rw [hy19, hc19]; exact Nat.sub_le_sub_right (Nat.le_trans (by omega) hroom19) _); clear hr19 hC19 hroom19 hi019 hsz19 hc19; have KY19 := Aside0.mk hy19; have KA19 := Aside0.mk hA19; clear hy19 hA19; replace q19 := eq_true q19))
                    have n0_ := Aside0.mk (Kd.V_drew HO0.out)
                    have n1_ := Aside0.mk (Kd.V_drew HO107.out)
                    have n2_ := Aside0.mk (below_drew1 HB.out)
                    clear HO0
                    clear HO107
                    clear HB
                    have HO0 := n0_
                    have HO107 := n1_
                    have HB := n2_
                    clear n0_ n1_ n2_
                    have q21 : (4 : Int) ≤ ((l0.length : Int) : Int) := of_decide_eq_true (by first | (with_reducible assumption) | assumption)
                    obtain ⟨i021, hi021, _, hsz21, _⟩ := info_parts info5
                    have hroom21 : l0.length ≤ c0 := (Kd.V_reads' HO0.out).2.1
                    have hC21 : Kd.F (Kd.int .u8) _ _ A0 l0.length l0 := (Kd.V_at (base := w.heap.size) HO0.out).2.2
                    have hcut21 := cut_to (P := Try.prog) 24 5 .i64 Try.underlying24 hi021 A0 l0.length c0 4 (by omega) q21 hroom21
                    have hr21 := Kd.F_take (m := 4) hC21 (by omega)
                    have hy21 : y108.length = (4 : Int).toNat := (by rw [Ny108.out, List.length_take]; omega)
                    rw [← Ny108.out] at hr21
                    rw [← hy21] at hcut21
                    have HO112 := Aside0.mk (show Kd.V (Kd.int .u8) 5 _ w.heap.size _ (.slice A0 y108.length c0) y108 from Kd.V_mk (by omega) hr21)
                    have HC112 := Aside0.mk (show y108.length ≤ c0 from by omega)
                    clear hr21 hC21 hroom21 hi021 hsz21
                    have KY21 := Aside0.mk hy21
                    clear hy21
                    replace q21 := eq_true q21
                    have q22 : (4 : Int) ≤ ((l0.length : Int) : Int) := of_decide_eq_true (by first | (with_reducible assumption) | assumption)
                    obtain ⟨i022, hi022, _, hsz22, _⟩ := info_parts info5
                    have hroom22 : l0.length ≤ c0 := (Kd.V_reads' HO0.out).2.1
                    have hC22 : Kd.F (Kd.int .u8) _ _ A0 l0.length l0 := (Kd.V_at (base := w.heap.size) HO0.out).2.2
                    have hcut22 := cut_from (P := Try.prog) 24 5 .i64 Try.underlying24 hi022 1 hsz22 A0 l0.length c0 4 (by omega) q22
                    have hr22 := Kd.F_cut (m := (4 : Int).toNat) (c := c0) hC22 (by omega) hroom22
                    obtain ⟨A22, hA22⟩ : ∃ A1, A1 = (if c0 = (4 : Int).toNat then A0 else (A0 : Option Addr).map (·.add ((4 : Int).toNat * 1))) := ⟨_, rfl⟩
                    obtain ⟨c22, hc22⟩ : ∃ c1, c1 = c0 - (4 : Int).toNat := ⟨_, rfl⟩
                    have hy22 : y117.length = l0.length - (4 : Int).toNat := (by rw [Ny117.out, List.length_drop] <;> omega)
                    rw [show (l0).drop (4 : Int).toNat = y117 from Ny117.out.symm] at hr22
                    replace hr22 : Kd.F (Kd.int .u8) _ _ A22 y117.length y117 := (by rw [hA22]; exact hr22)
                    rw [← hy22, ← hA22, ← hc22] at hcut22
                    have HO121 := Aside0.mk (show Kd.V (Kd.int .u8) 5 _ w.heap.size _ (.slice A22 y117.length c22) y117 from Kd.V_mk (by rw [hy22, hc22]; exact Nat.sub_le_sub_right hroom22 _) hr22)
                    have HC121 := Aside0.mk (show y117.length ≤ c22 from by rw [hy22, hc22]; exact Nat.sub_le_sub_right hroom22 _)
                    clear hr22 hC22 hroom22 hi022 hsz22 hc22
                    have KY22 := Aside0.mk hy22
                    have KA22 := Aside0.mk hA22
                    clear hy22 hA22
                    replace q22 := eq_true q22
                    refine start_ (n := 9) (S := fun w' => True) (ds := []) #[false, false, false, false, false, false, false, false, false] (by kernel_rfl) rfl rfl trivial (fun hHeld => ?_); refine with_tabW sum_Open.tab7 sum_Open.bits7 (fun HT_ HW_ => ?_)
                    generalize w18.drew = w20 at HO0 HO107 HB HO112 HO121 hHeld ⊢
                    refine pure_ (i := 0) (N := some 22) (v := ?_) (a' := ?_) #[true, false, false, false, false, false, false, false, false] rfl rfl (any_of HT_.out (by kernel_rfl)) (fun _ _ _ h => h) (Or.inl ⟨by rfl, ?_⟩) ?_ ?_
                    rotate_left
                    · intro w'
                      go_simp
                      with_reducible rfl
                    rotate_left
                    · simp only [Act.put, List.setIfInBounds_toArray, List.set_cons_zero, List.set_cons_succ, i64_w, i32_w]
                      rfl
                    refine pure_ (i := 1) (N := some 23) (v := ?_) (a' := ?_) #[true, true, false, false, false, false, false, false, false] rfl rfl (any_of HT_.out (by kernel_rfl)) (fun _ _ _ h => h) (Or.inl ⟨by rfl, ?_⟩) ?_ ?_
                    rotate_left
                    · intro w'
                      go_simp
                      with_reducible rfl
                    rotate_left
                    · simp only [Act.put, List.setIfInBounds_toArray, List.set_cons_zero, List.set_cons_succ, i64_w, i32_w]
                      rfl
                    refine pure_ (i := 2) (N := some 24) (v := ?_) (a' := ?_) #[true, true, true, false, false, false, false, false, false] rfl rfl (any_of HT_.out (by kernel_rfl)) (fun _ _ _ h => h) (Or.inl ⟨by rfl, ?_⟩) ?_ ?_
                    rotate_left
                    · intro w'
                      go_simp
                      with_reducible rfl
                    rotate_left
                    · simp only [Act.put, List.setIfInBounds_toArray, List.set_cons_zero, List.set_cons_succ, i64_w, i32_w]
                      rfl
                    refine pure_ (i := 5) (N := some 27) (v := ?_) (a' := ?_) #[true, true, true, false, false, true, false, false, false] rfl rfl (any_of HT_.out (by kernel_rfl)) (fun _ _ _ h => h) (Or.inl ⟨by rfl, ?_⟩) ?_ ?_
                    rotate_left
                    · intro w'
                      go_simp
                      with_reducible rfl
                    rotate_left
                    · simp only [Act.put, List.setIfInBounds_toArray, List.set_cons_zero, List.set_cons_succ, i64_w, i32_w]
                      rfl
                    refine pure_ (i := 6) (N := some 28) (v := ?_) (a' := ?_) #[true, true, true, false, false, true, true, false, false] rfl rfl (any_of HT_.out (by kernel_rfl)) (fun _ _ _ h => h) (Or.inl ⟨by rfl, ?_⟩) ?_ ?_
                    rotate_left
                    · intro w'
                      go_simp
                      with_reducible rfl
                    rotate_left
                    · simp only [Act.put, List.setIfInBounds_toArray, List.set_cons_zero, List.set_cons_succ, i64_w, i32_w]
                      rfl
                    refine one_ (i := 3) (N := some 25) #[true, true, true, true, false, true, true, false, false] rfl rfl (one_of HT_.out (by kernel_rfl)) (by decide) (fun K hK => ?_)
                    refine Kd.N_lit_step (Kd.slice 5 (Kd.int .u8)) _ 24 ?hg (N' := 25) ?hd (xs := ([y108, y103] : List (List Int))) (inner := [.slice A0 y108.length c0, .slice A19 y103.length c19]) (ok := (fun k_ => (P0_ k_ ∨ w.heap.size ≤ k_))) (okp := (fun k_ => (P0_ k_ ∨ w.heap.size ≤ k_))) ?hr ?hp (fun _ hk => hk) ((show ∀ k_, w20.heap.size ≤ k_ → (fun k_ => (P0_ k_ ∨ w.heap.size ≤ k_)) k_ from fun k_ hk => (.inr (Nat.le_trans (below_size (by repeat (first | (with_reducible first | exact HB.out | apply below_alloc | apply pw_below_drewN | apply below_drew1) | exact HB.out))) hk))) _ (Nat.le_refl _)) (Below.refl _ _) (Nat.le_refl _) (by simp) ?_; (case hd => rfl); (case hg => rfl); (case hr => first | (go_simp; done) | (go_simp; rfl)); (case hp => exact (Reps.one (show Kd.FK (Kd.slice 5 (Kd.int .u8)) _ _ y108 [.slice A0 y108.length c0] from (Kd.FK_slice_mk (Kd.V_reads' (Kd.V_mono (ok' := (fun k_ => (P0_ k_ ∨ w.heap.size ≤ k_))) (HO112.out) (fun k_ hk => hk))).2.1 (Kd.V_F (Kd.V_mono (ok' := (fun k_ => (P0_ k_ ∨ w.heap.size ≤ k_))) (HO112.out) (fun k_ hk => hk))))) (Reps.one (show Kd.FK (Kd.slice 5 (Kd.int .u8)) _ _ y103 [.slice A19 y103.length c19] from (Kd.FK_slice_mk (Kd.V_reads' (Kd.V_mono (ok' := (fun k_ => (P0_ k_ ∨ w.heap.size ≤ k_))) (HO107.out) (fun k_ hk => hk))).2.1 (Kd.V_F (Kd.V_mono (ok' := (fun k_ => (P0_ k_ ∨ w.heap.size ≤ k_))) (HO107.out) (fun k_ hk => hk))))) (Reps.none _ _))))
                    intro v114 w23 ho24 hb hg_ hnew_
                    clear hg_ hnew_
                    (first | rw [← Ny113.out] at ho24 | (simp only [Int.reduceToNat] at ho24; rw [← Ny113.out] at ho24))
                    have n0_ := Aside0.mk (Kd.V_elder' (by (with_reducible repeat (first | apply Kd.V_alloc | apply Kd.V_drewN | apply Kd.V_drew)); exact HO0.out) (Kd.N_base ho24) hb)
                    have n1_ := Aside0.mk (Kd.V_elder' (by (with_reducible repeat (first | apply Kd.V_alloc | apply Kd.V_drewN | apply Kd.V_drew)); exact HO107.out) (Kd.N_base ho24) hb)
                    have n2_ := Aside0.mk (Kd.V_elder' (by (with_reducible repeat (first | apply Kd.V_alloc | apply Kd.V_drewN | apply Kd.V_drew)); exact HO112.out) (Kd.N_base ho24) hb)
                    have n3_ := Aside0.mk (Kd.V_elder' (by (with_reducible repeat (first | apply Kd.V_alloc | apply Kd.V_drewN | apply Kd.V_drew)); exact HO121.out) (Kd.N_base ho24) hb)
                    have n4_ := Aside0.mk (Kd.N_lower ho24 (below_size (by repeat (first | (with_reducible first | exact HB.out | apply below_alloc | apply pw_below_drewN | apply below_drew1) | exact HB.out))))
                    have n5_ := Aside0.mk (below_step (by repeat (first | (with_reducible first | exact HB.out | apply below_alloc | apply pw_below_drewN | apply below_drew1) | exact HB.out)) hb)
                    clear HO0
                    clear HO107
                    clear HO112
                    clear HO121
                    clear HB
                    have HO0 := n0_
                    have HO107 := n1_
                    have HO112 := n2_
                    have HO121 := n3_
                    have HO115 := n4_
                    have HB := n5_
                    clear n0_ n1_ n2_ n3_ n4_ n5_
                    clear hb ho24
                    obtain ⟨Ao25, co25, eo25⟩ := Kd.N_slice HO115.out
                    (first | subst eo25 | (injection eo25 with f1_ f2_ f3_; have f4_ := f1_.symm; have f5_ := f3_.symm; clear f1_ f2_ f3_; subst f4_; subst f5_))
                    refine hK.out _ _ trivial (fun hHeld => ?_)
                    clear hK K
                    refine norm_ (a' := ?_) ?_ ?_
                    rotate_left
                    · show Act.put _ (some 25) _ = _
                      simp only [Act.put, List.setIfInBounds_toArray, List.set_cons_zero, List.set_cons_succ, i64_w, i32_w]
                      rfl
                    refine one_ (i := 4) (N := some 26) #[true, true, true, true, true, true, true, false, false] rfl rfl (one_of HT_.out (by kernel_rfl)) (by decide) (fun K hK => ?_)
                    refine goes_ Try.func9 (by kernel_rfl) rfl #[.slice Ao25 y113.length co25] (by rfl) rfl rfl (by (try simp only [List.map_toArray, List.map_cons, List.map_nil]); first | done | rfl | (simp only [List.length_drop, List.length_take]; rfl)) ?_
                    with_reducible refine (sum_Of.calls _ _ y113 t116 _ ?side1 ?side2 A9.out).mono ?_
                    (case side1 => repeat (first | exact (Kd.N_reads' HO115.out).2.2 | (with_reducible refine Kd.C_alloc ?_ _) | (with_reducible refine Kd.C_drewN ?_ _) | (with_reducible refine Kd.C_drew ?_)))
                    (case side2 => exact (Kd.N_reads' HO115.out).2.1)
                    rintro e w26 ⟨rfl, hb⟩
                    refine ⟨_, rfl, ?_⟩
                    have n0_ := Aside0.mk (Kd.V_below (by (with_reducible repeat (first | apply Kd.V_alloc | apply Kd.V_drewN | apply Kd.V_drew)); exact HO0.out) hb)
                    have n1_ := Aside0.mk (Kd.V_below (by (with_reducible repeat (first | apply Kd.V_alloc | apply Kd.V_drewN | apply Kd.V_drew)); exact HO107.out) hb)
                    have n2_ := Aside0.mk (Kd.V_below (by (with_reducible repeat (first | apply Kd.V_alloc | apply Kd.V_drewN | apply Kd.V_drew)); exact HO112.out) hb)
                    have n3_ := Aside0.mk (Kd.V_below (by (with_reducible repeat (first | apply Kd.V_alloc | apply Kd.V_drewN | apply Kd.V_drew)); exact HO121.out) hb)
                    have n4_ := Aside0.mk (Kd.N_below (by (with_reducible repeat (first | apply Kd.N_alloc | apply Kd.N_drewN | apply Kd.N_drew)); exact HO115.out) hb)
                    have n5_ := Aside0.mk (below_step (by repeat (first | (with_reducible first | exact HB.out | apply below_alloc | apply pw_below_drewN | apply below_drew1) | exact HB.out)) hb)
                    clear HO0
                    clear HO107
                    clear HO112
                    clear HO121
                    clear HO115
                    clear HB
                    have HO0 := n0_
                    have HO107 := n1_
                    have HO112 := n2_
                    have HO121 := n3_
                    have HO115 := n4_
                    have HB := n5_
                    clear n0_ n1_ n2_ n3_ n4_ n5_
                    (try clear hb)
                    (try clear hb2)
                    (try clear hk)
                    (try clear hi)
                    refine hK.out _ _ trivial (fun hHeld => ?_)
                    clear hK K
                    refine norm_ (a' := ?_) ?_ ?_
                    rotate_left
                    · show Act.put _ (some 26) _ = _
                      simp only [Act.put, List.setIfInBounds_toArray, List.set_cons_zero, List.set_cons_succ, i64_w, i32_w]
                      rfl
                    refine one_ (i := 7) (N := some 29) #[true, true, true, true, true, true, true, true, false] rfl rfl (one_of HT_.out (by kernel_rfl)) (by decide) (fun K hK => ?_)
                    refine goes_ Try.func13 (by kernel_rfl) rfl #[.slice A22 y117.length c22] (by rfl) rfl rfl (by (try simp only [List.map_toArray, List.map_cons, List.map_nil]); first | done | rfl | (simp only [List.length_drop, List.length_take]; rfl)) ?_
                    with_reducible refine (sum_Number.calls k _ _ y117 t122 _ ?side1 ?side2 A11.out).mono ?_
                    (case side1 => repeat (first | exact (Kd.V_reads' HO121.out).2.2 | (with_reducible refine Kd.C_alloc ?_ _) | (with_reducible refine Kd.C_drewN ?_ _) | (with_reducible refine Kd.C_drew ?_)))
                    (case side2 => exact (Kd.V_reads' HO121.out).2.1)
                    rintro e w27 ⟨rfl, hb⟩
                    refine ⟨_, rfl, ?_⟩
                    have n0_ := Aside0.mk (Kd.V_below (by (with_reducible repeat (first | apply Kd.V_alloc | apply Kd.V_drewN | apply Kd.V_drew)); exact HO0.out) hb)
                    have n1_ := Aside0.mk (Kd.V_below (by (with_reducible repeat (first | apply Kd.V_alloc | apply Kd.V_drewN | apply Kd.V_drew)); exact HO107.out) hb)
                    have n2_ := Aside0.mk (Kd.V_below (by (with_reducible repeat (first | apply Kd.V_alloc | apply Kd.V_drewN | apply Kd.V_drew)); exact HO112.out) hb)
                    have n3_ := Aside0.mk (Kd.V_below (by (with_reducible repeat (first | apply Kd.V_alloc | apply Kd.V_drewN | apply Kd.V_drew)); exact HO121.out) hb)
                    have n4_ := Aside0.mk (Kd.N_below (by (with_reducible repeat (first | apply Kd.N_alloc | apply Kd.N_drewN | apply Kd.N_drew)); exact HO115.out) hb)
                    have n5_ := Aside0.mk (below_step (by repeat (first | (with_reducible first | exact HB.out | apply below_alloc | apply pw_below_drewN | apply below_drew1) | exact HB.out)) hb)
                    clear HO0
                    clear HO107
                    clear HO112
                    clear HO121
                    clear HO115
                    clear HB
                    have HO0 := n0_
                    have HO107 := n1_
                    have HO112 := n2_
                    have HO121 := n3_
                    have HO115 := n4_
                    have HB := n5_
                    clear n0_ n1_ n2_ n3_ n4_ n5_
                    (try clear hb)
                    (try clear hb2)
                    (try clear hk)
                    (try clear hi)
                    refine hK.out _ _ trivial (fun hHeld => ?_)
                    clear hK K
                    refine norm_ (a' := ?_) ?_ ?_
                    rotate_left
                    · show Act.put _ (some 29) _ = _
                      simp only [Act.put, List.setIfInBounds_toArray, List.set_cons_zero, List.set_cons_succ, i64_w, i32_w]
                      rfl
                    refine pure_ (i := 8) (N := some 30) (v := ?_) (a' := ?_) #[true, true, true, true, true, true, true, true, true] rfl rfl (any_of HT_.out (by kernel_rfl)) (fun _ _ _ h => h) (Or.inl ⟨by rfl, ?_⟩) ?_ ?_
                    rotate_left
                    · intro w'
                      go_simp
                      with_reducible rfl
                    rotate_left
                    · simp only [Act.put, List.setIfInBounds_toArray, List.set_cons_zero, List.set_cons_succ, i64_w, i32_w]
                      rfl
                    refine done_ (done_of HT_.out (by kernel_rfl)) ?_
                    try go_wp2
                    have n0_ := Aside0.mk (Kd.V_drew HO0.out)
                    have n1_ := Aside0.mk (Kd.V_drew HO107.out)
                    have n2_ := Aside0.mk (Kd.V_drew HO112.out)
                    have n3_ := Aside0.mk (Kd.V_drew HO121.out)
                    have n4_ := Aside0.mk (Kd.N_drew HO115.out)
                    have n5_ := Aside0.mk (below_drew1 HB.out)
                    clear HO0
                    clear HO107
                    clear HO112
                    clear HO121
                    clear HO115
                    clear HB
                    have HO0 := n0_
                    have HO107 := n1_
                    have HO112 := n2_
                    have HO121 := n3_
                    have HO115 := n4_
                    have HB := n5_
                    clear n0_ n1_ n2_ n3_ n4_ n5_
                    have q29 : ((ji14) : Int) ≤ ((l0.length : Int) : Int) := of_decide_eq_true (by first | (with_reducible assumption) | assumption)
                    obtain ⟨i029, hi029, _, hsz29, _⟩ := info_parts info5
                    have hroom29 : l0.length ≤ c0 := (Kd.V_reads' HO0.out).2.1
                    have hC29 : Kd.F (Kd.int .u8) _ _ A0 l0.length l0 := (Kd.V_at (base := w.heap.size) HO0.out).2.2
                    have q029 : (0 : Int) ≤ ((ji14) : Int) := of_decide_eq_true (by first | (with_reducible assumption) | assumption)
                    have hcut29 := cut_from (P := Try.prog) 24 5 .u64 Try.underlying24 hi029 1 hsz29 A0 l0.length c0 (ji14) q029 q29
                    have hr29 := Kd.F_cut (m := ((ji14) : Int).toNat) (c := c0) hC29 (by omega) hroom29
                    obtain ⟨A29, hA29⟩ : ∃ A1, A1 = (if c0 = ((ji14) : Int).toNat then A0 else (A0 : Option Addr).map (·.add (((ji14) : Int).toNat * 1))) := ⟨_, rfl⟩
                    obtain ⟨c29, hc29⟩ : ∃ c1, c1 = c0 - ((ji14) : Int).toNat := ⟨_, rfl⟩
                    have hy29 : y126.length = l0.length - ((ji14) : Int).toNat := (by rw [Ny126.out, List.length_drop] <;> omega)
                    rw [show (l0).drop ((ji14) : Int).toNat = y126 from Ny126.out.symm] at hr29
                    replace hr29 : Kd.F (Kd.int .u8) _ _ A29 y126.length y126 := (by rw [hA29]; exact hr29)
                    rw [← hy29, ← hA29, ← hc29] at hcut29
                    have HO130 := Aside0.mk (show Kd.V (Kd.int .u8) 5 _ w.heap.size _ (.slice A29 y126.length c29) y126 from Kd.V_mk (by rw [hy29, hc29]; exact Nat.sub_le_sub_right hroom29 _) hr29)
                    have HC130 := Aside0.mk (show y126.length ≤ c29 from by rw [hy29, hc29]; exact Nat.sub_le_sub_right hroom29 _)
                    clear hr29 hC29 hroom29 hi029 hsz29 hc29
                    have KY29 := Aside0.mk hy29
                    have KA29 := Aside0.mk hA29
                    clear hy29 hA29
                    replace q29 := eq_true q29
                    refine start_ (n := 10) (S := fun w' => True) (ds := []) #[false, false, false, false, false, false, false, false, false, false] (by kernel_rfl) rfl rfl trivial (fun hHeld => ?_); refine with_tabW sum_Open.tab9 sum_Open.bits9 (fun HT_ HW_ => ?_)
                    generalize w27.drew = w28 at HO0 HO107 HO112 HO121 HO115 HB HO130 hHeld ⊢
                    refine pure_ (i := 0) (N := some 31) (v := ?_) (a' := ?_) #[true, false, false, false, false, false, false, false, false, false] rfl rfl (any_of HT_.out (by kernel_rfl)) (fun _ _ _ h => h) (Or.inl ⟨by rfl, ?_⟩) ?_ ?_
                    rotate_left
                    · intro w'
                      go_simp
                      with_reducible rfl
                    rotate_left
                    · simp only [Act.put, List.setIfInBounds_toArray, List.set_cons_zero, List.set_cons_succ, i64_w, i32_w]
                      rfl
                    refine pure_ (i := 2) (N := some 33) (v := ?_) (a' := ?_) #[true, false, true, false, false, false, false, false, false, false] rfl rfl (any_of HT_.out (by kernel_rfl)) (fun _ _ _ h => h) (Or.inl ⟨by rfl, ?_⟩) ?_ ?_
                    rotate_left
                    · intro w'
                      go_simp
                      with_reducible rfl
                    rotate_left
                    · simp only [Act.put, List.setIfInBounds_toArray, List.set_cons_zero, List.set_cons_succ, i64_w, i32_w]
                      rfl
                    refine pure_ (i := 3) (N := some 34) (v := ?_) (a' := ?_) #[true, false, true, true, false, false, false, false, false, false] rfl rfl (any_of HT_.out (by kernel_rfl)) (fun _ _ _ h => h) (Or.inl ⟨by rfl, ?_⟩) ?_ ?_
                    rotate_left
                    · intro w'
                      go_simp
                      with_reducible rfl
                    rotate_left
                    · simp only [Act.put, List.setIfInBounds_toArray, List.set_cons_zero, List.set_cons_succ, i64_w, i32_w]
                      rfl
                    refine pure_ (i := 4) (N := some 35) (v := ?_) (a' := ?_) #[true, false, true, true, true, false, false, false, false, false] rfl rfl (any_of HT_.out (by kernel_rfl)) (fun _ _ _ h => h) (Or.inl ⟨by rfl, ?_⟩) ?_ ?_
                    rotate_left
                    · intro w'
                      go_simp
                      with_reducible rfl
                    rotate_left
                    · simp only [Act.put, List.setIfInBounds_toArray, List.set_cons_zero, List.set_cons_succ, i64_w, i32_w]
                      rfl
                    refine pure_ (i := 5) (N := some 36) (v := ?_) (a' := ?_) #[true, false, true, true, true, true, false, false, false, false] rfl rfl (any_of HT_.out (by kernel_rfl)) (fun _ _ _ h => h) (Or.inl ⟨by rfl, ?_⟩) ?_ ?_
                    rotate_left
                    · intro w'
                      go_simp
                      with_reducible rfl
                    rotate_left
                    · simp only [Act.put, List.setIfInBounds_toArray, List.set_cons_zero, List.set_cons_succ, i64_w, i32_w]
                      rfl
                    refine one_ (i := 1) (N := some 32) #[true, true, true, true, true, true, false, false, false, false] rfl rfl (one_of HT_.out (by kernel_rfl)) (by decide) (fun K hK => ?_)
                    refine Kd.R_append_rows_step (Kd.int .u8) (w0 := w) w.heap.size (by rfl) (.const (.slice none 0 0)) (.tmp 31) 24 5 (.int .u8 0) 1 rfl Try.underlying24 info5 rfl (by decide) (by omega) (.slice none 0 0) ([] : List Int) y103 _ _ _ (fun k_ => (w.heap.size ≤ k_)) (fun _ => False) rfl rfl ?aO ?aR (fun _ _ h => h) (fun _ h => h.elim) ?aF ?aB ?aS ?aL ?_
                    (case aR => repeat (first | exact (Kd.V_reads' HO107.out).2.2 | (with_reducible refine Kd.C_alloc ?_ _) | (with_reducible refine Kd.C_drewN ?_ _) | (with_reducible refine Kd.C_drew ?_)))
                    (case aB => exact (by repeat (first | (with_reducible first | exact HB.out | apply below_alloc | apply pw_below_drewN | apply below_drew1) | exact HB.out)))
                    (case aF => exact (fun k_ hk => (Nat.le_trans (below_size (by repeat (first | (with_reducible first | exact HB.out | apply below_alloc | apply pw_below_drewN | apply below_drew1) | exact HB.out))) hk)))
                    (case aO => exact ((Kd.R_nil _ _ _ _ (fun k_ => (w.heap.size ≤ k_)))))
                    (case aS => exact (below_size (by repeat (first | (with_reducible first | exact HB.out | apply below_alloc | apply pw_below_drewN | apply below_drew1) | exact HB.out))))
                    (case aL => have := LMc13.out; omega)
                    intro v124 w30 ho hb hg hat
                    rw [← Ny123.out] at ho
                    have n0_ := Aside0.mk (Kd.V_afterv (Kd.V_apart_nil (by (with_reducible repeat (first | apply Kd.V_alloc | apply Kd.V_drewN | apply Kd.V_drew)); exact HO0.out)) hg hat)
                    have n1_ := Aside0.mk (Kd.V_afterv (Kd.V_apart_nil (by (with_reducible repeat (first | apply Kd.V_alloc | apply Kd.V_drewN | apply Kd.V_drew)); exact HO107.out)) hg hat)
                    have n2_ := Aside0.mk (Kd.V_afterv (Kd.V_apart_nil (by (with_reducible repeat (first | apply Kd.V_alloc | apply Kd.V_drewN | apply Kd.V_drew)); exact HO112.out)) hg hat)
                    have n3_ := Aside0.mk (Kd.V_afterv (Kd.V_apart_nil (by (with_reducible repeat (first | apply Kd.V_alloc | apply Kd.V_drewN | apply Kd.V_drew)); exact HO121.out)) hg hat)
                    have n4_ := Aside0.mk (Kd.N_afterv (Kd.N_apart_nil (by (with_reducible repeat (first | apply Kd.N_alloc | apply Kd.N_drewN | apply Kd.N_drew)); exact HO115.out)) hg hat)
                    have n5_ := Aside0.mk (Kd.V_afterv (Kd.V_apart_nil (by (with_reducible repeat (first | apply Kd.V_alloc | apply Kd.V_drewN | apply Kd.V_drew)); exact HO130.out)) hg hat)
                    have n6_ := Aside0.mk (hb)
                    have n7_ := Aside0.mk (ho)
                    clear HO0
                    clear HO107
                    clear HO112
                    clear HO121
                    clear HO115
                    clear HO130
                    clear HB
                    have HO0 := n0_
                    have HO107 := n1_
                    have HO112 := n2_
                    have HO121 := n3_
                    have HO115 := n4_
                    have HO130 := n5_
                    have HB := n6_
                    have HO125 := n7_
                    clear n0_ n1_ n2_ n3_ n4_ n5_ n6_ n7_
                    clear ho hb hg hat
                    refine hK.out _ _ trivial (fun hHeld => ?_)
                    clear hK K
                    refine norm_ (a' := ?_) ?_ ?_
                    rotate_left
                    · show Act.put _ (some 32) _ = _
                      simp only [Act.put, List.setIfInBounds_toArray, List.set_cons_zero, List.set_cons_succ, i64_w, i32_w]
                      rfl
                    refine one_ (i := 6) (N := some 37) #[true, true, true, true, true, true, true, false, false, false] rfl rfl (one_of HT_.out (by kernel_rfl)) (by decide) (fun K hK => ?_)
                    refine Kd.R_append_rows_step (Kd.int .u8) (w0 := w) w.heap.size (by rfl) (.const (.slice none 0 0)) (.tmp 36) 24 5 (.int .u8 0) 1 rfl Try.underlying24 info5 rfl (by decide) (by omega) (.slice none 0 0) ([] : List Int) y126 _ _ _ (fun k_ => (w.heap.size ≤ k_) ∧ some k_ ≠ (v124 : Value).ownBlock) (fun _ => False) rfl rfl ?aO ?aR (fun _ _ h => h) (fun _ h => h.elim) ?aF ?aB ?aS ?aL ?_
                    (case aR => repeat (first | exact (Kd.V_reads' HO130.out).2.2 | (with_reducible refine Kd.C_alloc ?_ _) | (with_reducible refine Kd.C_drewN ?_ _) | (with_reducible refine Kd.C_drew ?_)))
                    (case aB => exact (by repeat (first | (with_reducible first | exact HB.out | apply below_alloc | apply pw_below_drewN | apply below_drew1) | exact HB.out)))
                    (case aF => exact (fun k_ hk => ⟨(Nat.le_trans (below_size (by repeat (first | (with_reducible first | exact HB.out | apply below_alloc | apply pw_below_drewN | apply below_drew1) | exact HB.out))) hk), Kd.fresh' (Kd.R_lt (by (with_reducible repeat (first | apply Kd.R_alloc | apply Kd.R_drewN | apply Kd.R_drew)); exact HO125.out)) k_ hk⟩))
                    (case aO => exact ((Kd.R_nil _ _ _ _ (fun k_ => (w.heap.size ≤ k_) ∧ some k_ ≠ (v124 : Value).ownBlock))))
                    (case aS => exact (below_size (by repeat (first | (with_reducible first | exact HB.out | apply below_alloc | apply pw_below_drewN | apply below_drew1) | exact HB.out))))
                    (case aL => have := LMc17.out; omega)
                    intro v132 w31 ho hb hg hat
                    rw [← Ny131.out] at ho
                    have n0_ := Aside0.mk (Kd.V_afterv (Kd.V_apart_nil (by (with_reducible repeat (first | apply Kd.V_alloc | apply Kd.V_drewN | apply Kd.V_drew)); exact HO0.out)) hg hat)
                    have n1_ := Aside0.mk (Kd.V_afterv (Kd.V_apart_nil (by (with_reducible repeat (first | apply Kd.V_alloc | apply Kd.V_drewN | apply Kd.V_drew)); exact HO107.out)) hg hat)
                    have n2_ := Aside0.mk (Kd.V_afterv (Kd.V_apart_nil (by (with_reducible repeat (first | apply Kd.V_alloc | apply Kd.V_drewN | apply Kd.V_drew)); exact HO112.out)) hg hat)
                    have n3_ := Aside0.mk (Kd.V_afterv (Kd.V_apart_nil (by (with_reducible repeat (first | apply Kd.V_alloc | apply Kd.V_drewN | apply Kd.V_drew)); exact HO121.out)) hg hat)
                    have n4_ := Aside0.mk (Kd.N_afterv (Kd.N_apart_nil (by (with_reducible repeat (first | apply Kd.N_alloc | apply Kd.N_drewN | apply Kd.N_drew)); exact HO115.out)) hg hat)
                    have n5_ := Aside0.mk (Kd.V_afterv (Kd.V_apart_nil (by (with_reducible repeat (first | apply Kd.V_alloc | apply Kd.V_drewN | apply Kd.V_drew)); exact HO130.out)) hg hat)
                    have n6_ := Aside0.mk (Kd.R_after (Kd.R_apart_nil (by (with_reducible repeat (first | apply Kd.R_alloc | apply Kd.R_drewN | apply Kd.R_drew)); exact HO125.out)) hg hat)
                    have n7_ := Aside0.mk (hb)
                    have n8_ := Aside0.mk (ho)
                    clear HO0
                    clear HO107
                    clear HO112
                    clear HO121
                    clear HO115
                    clear HO130
                    clear HO125
                    clear HB
                    have HO0 := n0_
                    have HO107 := n1_
                    have HO112 := n2_
                    have HO121 := n3_
                    have HO115 := n4_
                    have HO130 := n5_
                    have HO125 := n6_
                    have HB := n7_
                    have HO133 := n8_
                    clear n0_ n1_ n2_ n3_ n4_ n5_ n6_ n7_ n8_
                    clear ho hb hg hat
                    refine hK.out _ _ trivial (fun hHeld => ?_)
                    clear hK K
                    refine norm_ (a' := ?_) ?_ ?_
                    rotate_left
                    · show Act.put _ (some 37) _ = _
                      simp only [Act.put, List.setIfInBounds_toArray, List.set_cons_zero, List.set_cons_succ, i64_w, i32_w]
                      rfl
                    refine pure_ (i := 7) (N := some 2) (v := ?_) (a' := ?_) #[true, true, true, true, true, true, true, true, false, false] rfl rfl (any_of HT_.out (by kernel_rfl)) (fun _ _ _ h => h) (Or.inl ⟨by rfl, ?_⟩) ?_ ?_
                    rotate_left
                    · intro w'
                      go_simp
                      with_reducible rfl
                    rotate_left
                    · simp only [Act.put, List.setIfInBounds_toArray, List.set_cons_zero, List.set_cons_succ, i64_w, i32_w]
                      rfl
                    refine pure_ (i := 8) (N := some 3) (v := ?_) (a' := ?_) #[true, true, true, true, true, true, true, true, true, false] rfl rfl (any_of HT_.out (by kernel_rfl)) (fun _ _ _ h => h) (Or.inl ⟨by rfl, ?_⟩) ?_ ?_
                    rotate_left
                    · intro w'
                      go_simp
                      with_reducible rfl
                    rotate_left
                    · simp only [Act.put, List.setIfInBounds_toArray, List.set_cons_zero, List.set_cons_succ, i64_w, i32_w]
                      rfl
                    refine pure_ (i := 9) (N := some 4) (v := ?_) (a' := ?_) #[true, true, true, true, true, true, true, true, true, true] rfl rfl (any_of HT_.out (by kernel_rfl)) (fun _ _ _ h => h) (Or.inl ⟨by rfl, ?_⟩) ?_ ?_
                    rotate_left
                    · intro w'
                      go_simp
                      with_reducible rfl
                    rotate_left
                    · simp only [Act.put, List.setIfInBounds_toArray, List.set_cons_zero, List.set_cons_succ, i64_w, i32_w]
                      rfl
                    refine done_ (done_of HT_.out (by kernel_rfl)) ?_
                    try go_wp2
                    go_ret3
                    exact ⟨_, _, by first | rfl | (simp [errW_none, errW_some] <;> rfl) | (simp only [← hji14]; first | rfl | (simp [errW_none, errW_some] <;> rfl)) | (simp [*, errW_none, errW_some] <;> rfl), by (with_reducible repeat (first | apply Kd.R_alloc | apply Kd.R_drewN | apply Kd.R_drew)); exact HO125.out, by (with_reducible repeat (first | apply Kd.R_alloc | apply Kd.R_drewN | apply Kd.R_drew)); exact HO133.out, by repeat (first | (with_reducible first | exact HB.out | apply below_alloc | apply pw_below_drewN | apply below_drew1) | exact HB.out)⟩
                  · rw [if_neg c17] at H
                    exact absurd H (by simp)
                · rw [if_neg c15] at H
                  exact absurd H (by simp)
              · rw [if_neg c13] at H
                exact absurd H (by simp)
            · rw [if_neg c12] at H
              have c12b0 : (t116 == t122) = false := beq_eq_false_iff_ne.mpr c12
              have c12b1 : (t116 != t122) = true := bne_iff_ne.mpr c12
              simp only [Option.some.injEq, Prod.mk.injEq] at H
              obtain ⟨rfl, rfl, rfl⟩ := H
              go_enter Try.func15, Try.ntmps15
              try go_wp2_with (first | ((with_reducible refine gate_callee (f := 13) rfl ?_); refine goesL_ (some 10) rfl rfl Try.func13 (by kernel_rfl) rfl #[.slice A0 l0.length c0] rfl (by (try simp only [List.map_toArray, List.map_cons, List.map_nil]); first | done | rfl | (simp only [List.length_drop, List.length_take]; rfl)) ?_; (with_reducible refine (sum_Number.calls k _ _ l0 t102 _ ?side1 ?side2 A3.out).mono ?_); (case side1 => repeat (first | exact (Kd.V_reads' HO0.out).2.2 | (with_reducible refine Kd.C_alloc ?_ _) | (with_reducible refine Kd.C_drewN ?_ _) | (with_reducible refine Kd.C_drew ?_))); (case side2 => exact (Kd.V_reads' HO0.out).2.1); rintro e w32 ⟨rfl, hb⟩; refine ⟨_, rfl, ?_⟩; have n0_ := Aside0.mk (Kd.V_below (by (with_reducible repeat (first | apply Kd.V_alloc | apply Kd.V_drewN | apply Kd.V_drew)); exact HO0.out) hb); have n1_ := Aside0.mk (below_step (by repeat (first | (with_reducible first | exact HB.out | apply below_alloc | apply pw_below_drewN | apply below_drew1) | exact HB.out)) hb); clear HO0; clear HB; have HO0 := n0_; have HB := n1_; clear n0_ n1_; (try clear hb); (try clear hb2); (try clear hk); (try clear hi); have q33 : ((IntKind.u64.wrap (8 + (IntKind.u64.wrap (t102)))) : Int) ≤ ((l0.length : Int) : Int) := of_decide_eq_true (by first | (with_reducible assumption) | assumption); obtain ⟨i033, hi033, _, hsz33, _⟩ := info_parts info5; have hroom33 : l0.length ≤ c0 := (Kd.V_reads' HO0.out).2.1; have hC33 : Kd.F (Kd.int .u8) _ _ A0 l0.length l0 := (Kd.V_at (base := w.heap.size) HO0.out).2.2; have ql33 : (8 : Int) ≤ ((IntKind.u64.wrap (8 + (IntKind.u64.wrap (t102)))) : Int) := of_decide_eq_true (by first | (with_reducible assumption) | assumption); have hcut33 := cut_mid (P := Try.prog) 24 5 .i64 .u64 Try.underlying24 hi033 1 hsz33 A0 l0.length c0 8 (IntKind.u64.wrap (8 + (IntKind.u64.wrap (t102)))) (by omega) ql33 q33 hroom33; have hr33 := Kd.F_mid (lo := (8 : Int).toNat) (hi := ((IntKind.u64.wrap (8 + (IntKind.u64.wrap (t102)))) : Int).toNat) (c := c0) hC33 (by omega) (by omega) hroom33; obtain ⟨A33, hA33⟩ : ∃ A1, A1 = (if c0 = (8 : Int).toNat then A0 else (A0 : Option Addr).map (·.add ((8 : Int).toNat * 1))) := ⟨_, rfl⟩; obtain ⟨c33, hc33⟩ : ∃ c1, c1 = c0 - (8 : Int).toNat := ⟨_, rfl⟩; have hy33 : y103.length = ((IntKind.u64.wrap (8 + (IntKind.u64.wrap (t102)))) : Int).toNat - (8 : Int).toNat := (by rw [Ny103.out, List.length_drop, List.length_take] <;> omega); rw [show ((l0).take ((IntKind.u64.wrap (8 + (IntKind.u64.wrap (t102)))) : Int).toNat).drop (8 : Int).toNat = y103 from Ny103.out.symm] at hr33; replace hr33 : Kd.F (Kd.int .u8) _ _ A33 y103.length y103 := (by rw [hA33]; exact hr33); rw [← hy33, ← hA33, ← hc33] at hcut33; have HO107 := Aside0.mk (show Kd.V (Kd.int .u8) 5 _ w.heap.size _ (.slice A33 y103.length c33) y103 from Kd.V_mk (by rw [hy33, hc33]; exact Nat.sub_le_sub_right (Nat.le_trans (by omega) hroom33) _) hr33); have HC107 := Aside0.mk (show y103.length ≤ c33 from by rw [hy33, hc33]; exact Nat.sub_le_sub_right (Nat.le_trans (by omega) hroom33) _); clear hr33 hC33 hroom33 hi033 hsz33 hc33; have KY33 := Aside0.mk hy33; have KA33 := Aside0.mk hA33; clear hy33 hA33; replace q33 := eq_true q33))
              have n0_ := Aside0.mk (Kd.V_drew HO0.out)
              have n1_ := Aside0.mk (Kd.V_drew HO107.out)
              have n2_ := Aside0.mk (below_drew1 HB.out)
              clear HO0
              clear HO107
              clear HB
              have HO0 := n0_
              have HO107 := n1_
              have HB := n2_
              clear n0_ n1_ n2_
              have q35 : (4 : Int) ≤ ((l0.length : Int) : Int) := of_decide_eq_true (by first | (with_reducible assumption) | assumption)
              obtain ⟨i035, hi035, _, hsz35, _⟩ := info_parts info5
              have hroom35 : l0.length ≤ c0 := (Kd.V_reads' HO0.out).2.1
              have hC35 : Kd.F (Kd.int .u8) _ _ A0 l0.length l0 := (Kd.V_at (base := w.heap.size) HO0.out).2.2
              have hcut35 := cut_to (P := Try.prog) 24 5 .i64 Try.underlying24 hi035 A0 l0.length c0 4 (by omega) q35 hroom35
              have hr35 := Kd.F_take (m := 4) hC35 (by omega)
              have hy35 : y108.length = (4 : Int).toNat := (by rw [Ny108.out, List.length_take]; omega)
              rw [← Ny108.out] at hr35
              rw [← hy35] at hcut35
              have HO112 := Aside0.mk (show Kd.V (Kd.int .u8) 5 _ w.heap.size _ (.slice A0 y108.length c0) y108 from Kd.V_mk (by omega) hr35)
              have HC112 := Aside0.mk (show y108.length ≤ c0 from by omega)
              clear hr35 hC35 hroom35 hi035 hsz35
              have KY35 := Aside0.mk hy35
              clear hy35
              replace q35 := eq_true q35
              have q36 : (4 : Int) ≤ ((l0.length : Int) : Int) := of_decide_eq_true (by first | (with_reducible assumption) | assumption)
              obtain ⟨i036, hi036, _, hsz36, _⟩ := info_parts info5
              have hroom36 : l0.length ≤ c0 := (Kd.V_reads' HO0.out).2.1
              have hC36 : Kd.F (Kd.int .u8) _ _ A0 l0.length l0 := (Kd.V_at (base := w.heap.size) HO0.out).2.2
              have hcut36 := cut_from (P := Try.prog) 24 5 .i64 Try.underlying24 hi036 1 hsz36 A0 l0.length c0 4 (by omega) q36
              have hr36 := Kd.F_cut (m := (4 : Int).toNat) (c := c0) hC36 (by omega) hroom36
              obtain ⟨A36, hA36⟩ : ∃ A1, A1 = (if c0 = (4 : Int).toNat then A0 else (A0 : Option Addr).map (·.add ((4 : Int).toNat * 1))) := ⟨_, rfl⟩
              obtain ⟨c36, hc36⟩ : ∃ c1, c1 = c0 - (4 : Int).toNat := ⟨_, rfl⟩
              have hy36 : y117.length = l0.length - (4 : Int).toNat := (by rw [Ny117.out, List.length_drop] <;> omega)
              rw [show (l0).drop (4 : Int).toNat = y117 from Ny117.out.symm] at hr36
              replace hr36 : Kd.F (Kd.int .u8) _ _ A36 y117.length y117 := (by rw [hA36]; exact hr36)
              rw [← hy36, ← hA36, ← hc36] at hcut36
              have HO121 := Aside0.mk (show Kd.V (Kd.int .u8) 5 _ w.heap.size _ (.slice A36 y117.length c36) y117 from Kd.V_mk (by rw [hy36, hc36]; exact Nat.sub_le_sub_right hroom36 _) hr36)
              have HC121 := Aside0.mk (show y117.length ≤ c36 from by rw [hy36, hc36]; exact Nat.sub_le_sub_right hroom36 _)
              clear hr36 hC36 hroom36 hi036 hsz36 hc36
              have KY36 := Aside0.mk hy36
              have KA36 := Aside0.mk hA36
              clear hy36 hA36
              replace q36 := eq_true q36
              refine start_ (n := 9) (S := fun w' => True) (ds := []) #[false, false, false, false, false, false, false, false, false] (by kernel_rfl) rfl rfl trivial (fun hHeld => ?_); refine with_tabW sum_Open.tab7 sum_Open.bits7 (fun HT_ HW_ => ?_)
              generalize w32.drew = w34 at HO0 HO107 HB HO112 HO121 hHeld ⊢
              refine pure_ (i := 0) (N := some 22) (v := ?_) (a' := ?_) #[true, false, false, false, false, false, false, false, false] rfl rfl (any_of HT_.out (by kernel_rfl)) (fun _ _ _ h => h) (Or.inl ⟨by rfl, ?_⟩) ?_ ?_
              rotate_left
              · intro w'
                go_simp
                with_reducible rfl
              rotate_left
              · simp only [Act.put, List.setIfInBounds_toArray, List.set_cons_zero, List.set_cons_succ, i64_w, i32_w]
                rfl
              refine pure_ (i := 1) (N := some 23) (v := ?_) (a' := ?_) #[true, true, false, false, false, false, false, false, false] rfl rfl (any_of HT_.out (by kernel_rfl)) (fun _ _ _ h => h) (Or.inl ⟨by rfl, ?_⟩) ?_ ?_
              rotate_left
              · intro w'
                go_simp
                with_reducible rfl
              rotate_left
              · simp only [Act.put, List.setIfInBounds_toArray, List.set_cons_zero, List.set_cons_succ, i64_w, i32_w]
                rfl
              refine pure_ (i := 2) (N := some 24) (v := ?_) (a' := ?_) #[true, true, true, false, false, false, false, false, false] rfl rfl (any_of HT_.out (by kernel_rfl)) (fun _ _ _ h => h) (Or.inl ⟨by rfl, ?_⟩) ?_ ?_
              rotate_left
              · intro w'
                go_simp
                with_reducible rfl
              rotate_left
              · simp only [Act.put, List.setIfInBounds_toArray, List.set_cons_zero, List.set_cons_succ, i64_w, i32_w]
                rfl
              refine pure_ (i := 5) (N := some 27) (v := ?_) (a' := ?_) #[true, true, true, false, false, true, false, false, false] rfl rfl (any_of HT_.out (by kernel_rfl)) (fun _ _ _ h => h) (Or.inl ⟨by rfl, ?_⟩) ?_ ?_
              rotate_left
              · intro w'
                go_simp
                with_reducible rfl
              rotate_left
              · simp only [Act.put, List.setIfInBounds_toArray, List.set_cons_zero, List.set_cons_succ, i64_w, i32_w]
                rfl
              refine pure_ (i := 6) (N := some 28) (v := ?_) (a' := ?_) #[true, true, true, false, false, true, true, false, false] rfl rfl (any_of HT_.out (by kernel_rfl)) (fun _ _ _ h => h) (Or.inl ⟨by rfl, ?_⟩) ?_ ?_
              rotate_left
              · intro w'
                go_simp
                with_reducible rfl
              rotate_left
              · simp only [Act.put, List.setIfInBounds_toArray, List.set_cons_zero, List.set_cons_succ, i64_w, i32_w]
                rfl
              refine one_ (i := 3) (N := some 25) #[true, true, true, true, false, true, true, false, false] rfl rfl (one_of HT_.out (by kernel_rfl)) (by decide) (fun K hK => ?_)
              refine Kd.N_lit_step (Kd.slice 5 (Kd.int .u8)) _ 24 ?hg (N' := 25) ?hd (xs := ([y108, y103] : List (List Int))) (inner := [.slice A0 y108.length c0, .slice A33 y103.length c33]) (ok := (fun k_ => (P0_ k_ ∨ w.heap.size ≤ k_))) (okp := (fun k_ => (P0_ k_ ∨ w.heap.size ≤ k_))) ?hr ?hp (fun _ hk => hk) ((show ∀ k_, w34.heap.size ≤ k_ → (fun k_ => (P0_ k_ ∨ w.heap.size ≤ k_)) k_ from fun k_ hk => (.inr (Nat.le_trans (below_size (by repeat (first | (with_reducible first | exact HB.out | apply below_alloc | apply pw_below_drewN | apply below_drew1) | exact HB.out))) hk))) _ (Nat.le_refl _)) (Below.refl _ _) (Nat.le_refl _) (by simp) ?_; (case hd => rfl); (case hg => rfl); (case hr => first | (go_simp; done) | (go_simp; rfl)); (case hp => exact (Reps.one (show Kd.FK (Kd.slice 5 (Kd.int .u8)) _ _ y108 [.slice A0 y108.length c0] from (Kd.FK_slice_mk (Kd.V_reads' (Kd.V_mono (ok' := (fun k_ => (P0_ k_ ∨ w.heap.size ≤ k_))) (HO112.out) (fun k_ hk => hk))).2.1 (Kd.V_F (Kd.V_mono (ok' := (fun k_ => (P0_ k_ ∨ w.heap.size ≤ k_))) (HO112.out) (fun k_ hk => hk))))) (Reps.one (show Kd.FK (Kd.slice 5 (Kd.int .u8)) _ _ y103 [.slice A33 y103.length c33] from (Kd.FK_slice_mk (Kd.V_reads' (Kd.V_mono (ok' := (fun k_ => (P0_ k_ ∨ w.heap.size ≤ k_))) (HO107.out) (fun k_ hk => hk))).2.1 (Kd.V_F (Kd.V_mono (ok' := (fun k_ => (P0_ k_ ∨ w.heap.size ≤ k_))) (HO107.out) (fun k_ hk => hk))))) (Reps.none _ _))))
              intro v114 w37 ho38 hb hg_ hnew_
              clear hg_ hnew_
              (first | rw [← Ny113.out] at ho38 | (simp only [Int.reduceToNat] at ho38; rw [← Ny113.out] at ho38))
              have n0_ := Aside0.mk (Kd.V_elder' (by (with_reducible repeat (first | apply Kd.V_alloc | apply Kd.V_drewN | apply Kd.V_drew)); exact HO0.out) (Kd.N_base ho38) hb)
              have n1_ := Aside0.mk (Kd.V_elder' (by (with_reducible repeat (first | apply Kd.V_alloc | apply Kd.V_drewN | apply Kd.V_drew)); exact HO107.out) (Kd.N_base ho38) hb)
              have n2_ := Aside0.mk (Kd.V_elder' (by (with_reducible repeat (first | apply Kd.V_alloc | apply Kd.V_drewN | apply Kd.V_drew)); exact HO112.out) (Kd.N_base ho38) hb)
              have n3_ := Aside0.mk (Kd.V_elder' (by (with_reducible repeat (first | apply Kd.V_alloc | apply Kd.V_drewN | apply Kd.V_drew)); exact HO121.out) (Kd.N_base ho38) hb)
              have n4_ := Aside0.mk (Kd.N_lower ho38 (below_size (by repeat (first | (with_reducible first | exact HB.out | apply below_alloc | apply pw_below_drewN | apply below_drew1) | exact HB.out))))
              have n5_ := Aside0.mk (below_step (by repeat (first | (with_reducible first | exact HB.out | apply below_alloc | apply pw_below_drewN | apply below_drew1) | exact HB.out)) hb)
              clear HO0
              clear HO107
              clear HO112
              clear HO121
              clear HB
              have HO0 := n0_
              have HO107 := n1_
              have HO112 := n2_
              have HO121 := n3_
              have HO115 := n4_
              have HB := n5_
              clear n0_ n1_ n2_ n3_ n4_ n5_
              clear hb ho38
              obtain ⟨Ao39, co39, eo39⟩ := Kd.N_slice HO115.out
              (first | subst eo39 | (injection eo39 with f1_ f2_ f3_; have f4_ := f1_.symm; have f5_ := f3_.symm; clear f1_ f2_ f3_; subst f4_; subst f5_))
              refine hK.out _ _ trivial (fun hHeld => ?_)
              clear hK K
              refine norm_ (a' := ?_) ?_ ?_
              rotate_left
              · show Act.put _ (some 25) _ = _
                simp only [Act.put, List.setIfInBounds_toArray, List.set_cons_zero, List.set_cons_succ, i64_w, i32_w]
                rfl
              refine one_ (i := 4) (N := some 26) #[true, true, true, true, true, true, true, false, false] rfl rfl (one_of HT_.out (by kernel_rfl)) (by decide) (fun K hK => ?_)
              refine goes_ Try.func9 (by kernel_rfl) rfl #[.slice Ao39 y113.length co39] (by rfl) rfl rfl (by (try simp only [List.map_toArray, List.map_cons, List.map_nil]); first | done | rfl | (simp only [List.length_drop, List.length_take]; rfl)) ?_
              with_reducible refine (sum_Of.calls _ _ y113 t116 _ ?side1 ?side2 A9.out).mono ?_
              (case side1 => repeat (first | exact (Kd.N_reads' HO115.out).2.2 | (with_reducible refine Kd.C_alloc ?_ _) | (with_reducible refine Kd.C_drewN ?_ _) | (with_reducible refine Kd.C_drew ?_)))
              (case side2 => exact (Kd.N_reads' HO115.out).2.1)
              rintro e w40 ⟨rfl, hb⟩
              refine ⟨_, rfl, ?_⟩
              have n0_ := Aside0.mk (Kd.V_below (by (with_reducible repeat (first | apply Kd.V_alloc | apply Kd.V_drewN | apply Kd.V_drew)); exact HO0.out) hb)
              have n1_ := Aside0.mk (Kd.V_below (by (with_reducible repeat (first | apply Kd.V_alloc | apply Kd.V_drewN | apply Kd.V_drew)); exact HO107.out) hb)
              have n2_ := Aside0.mk (Kd.V_below (by (with_reducible repeat (first | apply Kd.V_alloc | apply Kd.V_drewN | apply Kd.V_drew)); exact HO112.out) hb)
              have n3_ := Aside0.mk (Kd.V_below (by (with_reducible repeat (first | apply Kd.V_alloc | apply Kd.V_drewN | apply Kd.V_drew)); exact HO121.out) hb)
              have n4_ := Aside0.mk (Kd.N_below (by (with_reducible repeat (first | apply Kd.N_alloc | apply Kd.N_drewN | apply Kd.N_drew)); exact HO115.out) hb)
              have n5_ := Aside0.mk (below_step (by repeat (first | (with_reducible first | exact HB.out | apply below_alloc | apply pw_below_drewN | apply below_drew1) | exact HB.out)) hb)
              clear HO0
              clear HO107
              clear HO112
              clear HO121
              clear HO115
              clear HB
              have HO0 := n0_
              have HO107 := n1_
              have HO112 := n2_
              have HO121 := n3_
              have HO115 := n4_
              have HB := n5_
              clear n0_ n1_ n2_ n3_ n4_ n5_
              (try clear hb)
              (try clear hb2)
              (try clear hk)
              (try clear hi)
              refine hK.out _ _ trivial (fun hHeld => ?_)
              clear hK K
              refine norm_ (a' := ?_) ?_ ?_
              rotate_left
              · show Act.put _ (some 26) _ = _
                simp only [Act.put, List.setIfInBounds_toArray, List.set_cons_zero, List.set_cons_succ, i64_w, i32_w]
                rfl
              refine one_ (i := 7) (N := some 29) #[true, true, true, true, true, true, true, true, false] rfl rfl (one_of HT_.out (by kernel_rfl)) (by decide) (fun K hK => ?_)
              refine goes_ Try.func13 (by kernel_rfl) rfl #[.slice A36 y117.length c36] (by rfl) rfl rfl (by (try simp only [List.map_toArray, List.map_cons, List.map_nil]); first | done | rfl | (simp only [List.length_drop, List.length_take]; rfl)) ?_
              with_reducible refine (sum_Number.calls k _ _ y117 t122 _ ?side1 ?side2 A11.out).mono ?_
              (case side1 => repeat (first | exact (Kd.V_reads' HO121.out).2.2 | (with_reducible refine Kd.C_alloc ?_ _) | (with_reducible refine Kd.C_drewN ?_ _) | (with_reducible refine Kd.C_drew ?_)))
              (case side2 => exact (Kd.V_reads' HO121.out).2.1)
              rintro e w41 ⟨rfl, hb⟩
              refine ⟨_, rfl, ?_⟩
              have n0_ := Aside0.mk (Kd.V_below (by (with_reducible repeat (first | apply Kd.V_alloc | apply Kd.V_drewN | apply Kd.V_drew)); exact HO0.out) hb)
              have n1_ := Aside0.mk (Kd.V_below (by (with_reducible repeat (first | apply Kd.V_alloc | apply Kd.V_drewN | apply Kd.V_drew)); exact HO107.out) hb)
              have n2_ := Aside0.mk (Kd.V_below (by (with_reducible repeat (first | apply Kd.V_alloc | apply Kd.V_drewN | apply Kd.V_drew)); exact HO112.out) hb)
              have n3_ := Aside0.mk (Kd.V_below (by (with_reducible repeat (first | apply Kd.V_alloc | apply Kd.V_drewN | apply Kd.V_drew)); exact HO121.out) hb)
              have n4_ := Aside0.mk (Kd.N_below (by (with_reducible repeat (first | apply Kd.N_alloc | apply Kd.N_drewN | apply Kd.N_drew)); exact HO115.out) hb)
              have n5_ := Aside0.mk (below_step (by repeat (first | (with_reducible first | exact HB.out | apply below_alloc | apply pw_below_drewN | apply below_drew1) | exact HB.out)) hb)
              clear HO0
              clear HO107
              clear HO112
              clear HO121
              clear HO115
              clear HB
              have HO0 := n0_
              have HO107 := n1_
              have HO112 := n2_
              have HO121 := n3_
              have HO115 := n4_
              have HB := n5_
              clear n0_ n1_ n2_ n3_ n4_ n5_
              (try clear hb)
              (try clear hb2)
              (try clear hk)
              (try clear hi)
              refine hK.out _ _ trivial (fun hHeld => ?_)
              clear hK K
              refine norm_ (a' := ?_) ?_ ?_
              rotate_left
              · show Act.put _ (some 29) _ = _
                simp only [Act.put, List.setIfInBounds_toArray, List.set_cons_zero, List.set_cons_succ, i64_w, i32_w]
                rfl
              refine pure_ (i := 8) (N := some 30) (v := ?_) (a' := ?_) #[true, true, true, true, true, true, true, true, true] rfl rfl (any_of HT_.out (by kernel_rfl)) (fun _ _ _ h => h) (Or.inl ⟨by rfl, ?_⟩) ?_ ?_
              rotate_left
              · intro w'
                go_simp
                with_reducible rfl
              rotate_left
              · simp only [Act.put, List.setIfInBounds_toArray, List.set_cons_zero, List.set_cons_succ, i64_w, i32_w]
                rfl
              refine done_ (done_of HT_.out (by kernel_rfl)) ?_
              try go_wp2
              go_ret3
              exact ⟨_, _, by first | rfl | (simp [errW_none, errW_some] <;> rfl) | (simp [*, errW_none, errW_some] <;> rfl), by first | exact Kd.R_nil _ _ _ _ _ | exact Kd.N_nil _ _ _ _ _ | exact Kd.V_nil _ _ _ _ _ | exact Kd.Q_nil _ _ _ _ _ | exact Kd.S_nil _ _ _ _ _, by first | exact Kd.R_nil _ _ _ _ _ | exact Kd.N_nil _ _ _ _ _ | exact Kd.V_nil _ _ _ _ _ | exact Kd.Q_nil _ _ _ _ _ | exact Kd.S_nil _ _ _ _ _, by repeat (first | (with_reducible first | exact HB.out | apply below_alloc | apply pw_below_drewN | apply below_drew1) | exact HB.out)⟩
          · rw [if_neg c8] at H
            exact absurd H (by simp)
        · rw [if_neg c7] at H
          exact absurd H (by simp)
      · rw [if_neg c6] at H
        exact absurd H (by simp)

end Go.Proofs.Ytmklgjcflgjbjaa.QSumSeals
