-- Written by a program of the session (wip/xprint.sh, wip/xpatch.py; a variant of the print) out of the translation. Lean checks it.
import Derived.Test.YtmklgjcflgjbjaaQSumPartsx0
namespace Go.Proofs.Ytmklgjcflgjbjaa.QSumParts
open Go.RowKit Go.Proofs.YtmklgjcflgjbjaaW.PrintWords Go.Proofs.YtmklgjcflgjbjaaW.PrintLast Go.Proofs.YtmklgjcflgjbjaaW.PrintMore
attribute [local go_sem] max2_int min2_int max_two min_two max_three min_three max_four min_four   -- for this text's walks alone
set_option linter.unusedVariables false
set_option linter.unusedSimpArgs false

/-! ### sum_table: function 20 -/
def sum_table.f : Option Int := none

/-! ### sum_Of: function 9 -/
def sum_Of.f (l0 : List (List Int)) : Option Int := some (Sum.crcFin (Sum.crcAll 4294967295 l0))
theorem sum_Of.calls (A0 : Option Addr) (c0 : Nat) (l0 : List (List Int)) (r : Int) (w : World) (hr0 : Kd.C (Kd.slice 5 (Kd.int .u8)) w A0 l0.length l0) (hc0 : l0.length ≤ c0) (h : sum_Of.f l0 = some r) :
    Calls Try.prog 9 #[.slice A0 l0.length c0] w fun e w' => e = .returned (.int .u32 r) ∧ Below w.heap.size w w' := by
  obtain rfl := Option.some.inj h
  exact Sum.of_walk A0 c0 l0 w hr0 hc0

/-! ### pluviallaw03_awake: function 8 -/
def pluviallaw03_awake.f  : Option (Bool) := some true
theorem pluviallaw03_awake.calls  (r : Bool) (w : World) (h : pluviallaw03_awake.f  = some r) :
    Calls Try.prog 8 #[] w fun e w' => e = .returned (.bool r) ∧ Below w.heap.size w w' := by
  obtain rfl := Option.some.inj h
  exact Sum.awake_walk w

/-! ### pluviallaw03_SumParts: function 3 -/
mutual
def pluviallaw03_SumParts.l0 : Nat → List (List Int) → Int → Int → List Int → List (List Int) → Int → Int → Option (Bool)
  | 0, _, _, _, _, _, _, _ => none
  | k + 1, x0, x1, x2, x7, x12, x13, x14 => if x14 < x13 then (if 0 ≤ x14 then (if x14 < (x12.length : Int) then (if ((rd_L1 x12 x14).length : Int) > 300 then ((pluviallaw03_awake.f).bind fun t102 => (some t102)) else (if (x0.length : Int) > 20 then ((pluviallaw03_awake.f).bind fun t103 => (some t103)) else (if x7.length + (rd_L1 x12 x14).length < 140737488355328 then (pluviallaw03_SumParts.l0 k x0 x1 x2 (x7 ++ (rd_L1 x12 x14)) x12 x13 (wrap64 (x14 + 1))) else (none)))) else (none)) else (none)) else ((sum_Of.f x0).bind fun t107 => ((sum_Of.f (([x7] : List (List Int)))).bind fun t113 => (if t107 = t113 then ((sum_Of.f (([x7, []] : List (List Int)))).bind fun t119 => (pluviallaw03_SumParts.j1 k x1 x2 x7 t107 (t107 != t119))) else (pluviallaw03_SumParts.j1 k x1 x2 x7 t107 true))))
def pluviallaw03_SumParts.j1 : Nat → Int → Int → List Int → Int → Bool → Option (Bool)
  | 0, _, _, _, _, _ => none
  | k + 1, x1, x2, x7, x10, x44 => if x44 = true then (some false) else (if (x7.length : Int) = 0 then ((pluviallaw03_awake.f).bind fun t120 => (some t120)) else ((some (([] : List Int) : List Int)).bind fun y121 => (if y121.length + x7.length < 140737488355328 then ((some (y121 ++ x7 : List Int)).bind fun y124 => (if (y124.length : Int) = 0 then (none) else (if 0 ≤ (Int.tmod (wrap64 (x1)) (y124.length : Int)) then (if (Int.tmod (wrap64 (x1)) (y124.length : Int)) < (y124.length : Int) then (if 0 ≤ (Int.tmod x2 8) then ((pluviallaw03_awake.f).bind fun t129 => (if t129 = true then ((sum_Of.f (([(y124.set ((Int.tmod (wrap64 (x1)) (y124.length : Int)) : Int).toNat (Go.bits .xor .u8 (rd y124 (Int.tmod (wrap64 (x1)) (y124.length : Int))) (shl .u8 1 (Int.tmod x2 8))))] : List (List Int)))).bind fun t135 => (some (t135 != x10))) else (some false))) else (none)) else (none)) else (none)))) else (none))))
end
def pluviallaw03_SumParts.f (k : Nat) (l0 : List (List Int)) (a1 : Int) (a2 : Int) : Option (Bool) := pluviallaw03_SumParts.l0 k l0 a1 a2 ([] : List Int) l0 (l0.length : Int) 0
theorem pluviallaw03_SumParts.mono_l : ∀ k, (∀ y0 y1 y2 y3 y4 y5 y6, LeO (pluviallaw03_SumParts.l0 k y0 y1 y2 y3 y4 y5 y6) (pluviallaw03_SumParts.l0 (k + 1) y0 y1 y2 y3 y4 y5 y6)) ∧ (∀ y0 y1 y2 y3 y4, LeO (pluviallaw03_SumParts.j1 k y0 y1 y2 y3 y4) (pluviallaw03_SumParts.j1 (k + 1) y0 y1 y2 y3 y4))
  | 0 => ⟨fun _ _ _ _ _ _ _ r h => by simp [pluviallaw03_SumParts.l0] at h, fun _ _ _ _ _ r h => by simp [pluviallaw03_SumParts.j1] at h⟩
  | k + 1 => by
    obtain ⟨ih0, ih1⟩ := pluviallaw03_SumParts.mono_l k
    refine ⟨?_, ?_⟩
    · intro y0 y1 y2 y3 y4 y5 y6
      unfold pluviallaw03_SumParts.l0
      repeat' first
      | (with_reducible exact ih0 _ _ _ _ _ _ _)
      | (with_reducible exact ih1 _ _ _ _ _)
      | (with_reducible exact LeO.refl _)
      | (with_reducible exact LeO.none _)
      | (with_reducible refine LeO.ite ?_ ?_)
      | (with_reducible refine LeO.bind ?_ (fun _ => ?_))
      | exact ih0 _ _ _ _ _ _ _
      | exact ih1 _ _ _ _ _
      | exact LeO.none _
      | refine LeO.ite ?_ ?_
      | refine LeO.bind ?_ (fun _ => ?_)
    · intro y0 y1 y2 y3 y4
      unfold pluviallaw03_SumParts.j1
      repeat' first
      | (with_reducible exact ih0 _ _ _ _ _ _ _)
      | (with_reducible exact ih1 _ _ _ _ _)
      | (with_reducible exact LeO.refl _)
      | (with_reducible exact LeO.none _)
      | (with_reducible refine LeO.ite ?_ ?_)
      | (with_reducible refine LeO.bind ?_ (fun _ => ?_))
      | exact ih0 _ _ _ _ _ _ _
      | exact ih1 _ _ _ _ _
      | exact LeO.none _
      | refine LeO.ite ?_ ?_
      | refine LeO.bind ?_ (fun _ => ?_)
theorem pluviallaw03_SumParts.mono : ∀ a0 a1 a2 k, LeO (pluviallaw03_SumParts.f k a0 a1 a2) (pluviallaw03_SumParts.f (k + 1) a0 a1 a2) := by
  intro a0 a1 a2 k
  obtain ⟨ih0, ih1⟩ := pluviallaw03_SumParts.mono_l k
  unfold pluviallaw03_SumParts.f
  repeat' first
      | (with_reducible exact ih0 _ _ _ _ _ _ _)
      | (with_reducible exact ih1 _ _ _ _ _)
      | (with_reducible exact LeO.refl _)
      | (with_reducible exact LeO.none _)
      | (with_reducible refine LeO.ite ?_ ?_)
      | (with_reducible refine LeO.bind ?_ (fun _ => ?_))
      | exact ih0 _ _ _ _ _ _ _
      | exact ih1 _ _ _ _ _
      | exact LeO.none _
      | refine LeO.ite ?_ ?_
      | refine LeO.bind ?_ (fun _ => ?_)
set_option maxHeartbeats 8000000 in
set_option maxRecDepth 100000 in
theorem pluviallaw03_SumParts.calls (k : Nat) (A0 : Option Addr) (c0 : Nat) (l0 : List (List Int)) (a1 : Int) (a2 : Int) (r : Bool) (hr_ : Aside0 (r = true)) (w : World) (hr0 : Kd.C (Kd.slice 5 (Kd.int .u8)) w A0 l0.length l0) (hc0 : l0.length ≤ c0) (h : pluviallaw03_SumParts.f k l0 a1 a2 = some r) :
    Calls Try.prog 3 #[.slice A0 l0.length c0, .int .u16 a1, .int .u8 a2] w fun e w' => e = .returned (.bool r) ∧ Below w.heap.size w w' := by
  have HR0 := Aside0.mk hr0
  have HC0 := Aside0.mk hc0
  clear hr0 hc0
  have HB := Aside0.mk (Below.refl w.heap.size w)
  have H : (pluviallaw03_SumParts.l0 k l0 a1 a2 ([] : List Int) l0 (l0.length : Int) 0) = some r := h
  clear h
  have H' := Aside0.mk H
  clear H
  go_enter Try.func3, Try.ntmps3
  go_wp2
  go_loopg [7, 14] k (fun kq v7 v14 w' => ∃ (x7_1 : List Int) (x14_1 : Int), v14 = .int .i64 x14_1 ∧ Aside0 (pluviallaw03_SumParts.l0 kq l0 a1 a2 x7_1 l0 (l0.length : Int) x14_1 = some r) ∧ Aside0 (kq ≤ k) ∧ Aside0 (Kd.R (Kd.int .u8) 5 w' w.heap.size (fun _ => True) v7 x7_1) ∧ Aside0 (Below w.heap.size w w'))
  case atStart => exact ⟨(([] : List Int)), (0), (by first | rfl | (simp; done) | (simp [*]; done)), H', ⟨Nat.le_refl _⟩, ⟨by first | exact Kd.R_nil _ _ _ _ _ | exact Kd.N_nil _ _ _ _ _ | exact Kd.V_nil _ _ _ _ _ | exact Kd.Q_nil _ _ _ _ _ | exact Kd.S_nil _ _ _ _ _⟩, ⟨by repeat (first | (with_reducible first | exact HB.out | apply below_alloc | apply pw_below_drewN | apply below_drew1) | exact HB.out)⟩⟩
  case round =>
    clear H'
    try clear p2
    try clear c3
    obtain ⟨x7_1, x14_1, rfl, HA, HK1, HO_7, HB⟩ := hrel
    cases gk with
    | zero => exact absurd HA.out (by simp [pluviallaw03_SumParts.l0])
    | succ k1 =>
      have H := HA.out
      clear HA
      simp only [pluviallaw03_SumParts.l0] at H
      by_cases c4 : x14_1 < (l0.length : Int)
      · rw [if_pos c4] at H
        have c4b0 : decide (x14_1 < (l0.length : Int)) = true := decide_eq_true c4
        clear c4
        by_cases c5 : 0 ≤ x14_1
        · rw [if_pos c5] at H
          have c5b0 : decide (0 ≤ x14_1) = true := decide_eq_true c5
          clear c5
          by_cases c6 : x14_1 < (l0.length : Int)
          · rw [if_pos c6] at H
            have c6b0 : decide (x14_1 < (l0.length : Int)) = true := decide_eq_true c6
            clear c6
            by_cases c7 : ((rd_L1 l0 x14_1).length : Int) > 300
            · rw [if_pos c7] at H
              have c7b0 : decide (300 < ((rd_L1 l0 x14_1).length : Int)) = true := decide_eq_true c7
              have c7b1 : decide (300 < (rd_L1 l0 x14_1).length) = true := decide_eq_true (by omega)
              clear c7
              replace H := Option.bind_eq_some_iff.mp H
              obtain ⟨t102, A80, H⟩ := H
              replace H : (some t102) = some r := H
              have A8 := Aside0.mk A80
              clear A80
              obtain rfl := Option.some.inj H
              have p101 : 0 ≤ (x14_1 : Int) := of_decide_eq_true (by first | (with_reducible assumption) | assumption)
              have q101 : x14_1 < (l0.length : Int) := of_decide_eq_true (by first | (with_reducible assumption) | assumption)
              obtain ⟨ad101, A101_0, c101_0, e101, hx101_0, hl101_0, hi101_0⟩ := at_L1 HR0.out x14_1 p101 q101
              cases e101
              replace hx101_0 := (HB.out.cell (World.block_lt_of_cell? w _ hx101_0)).trans hx101_0
              have HR101_0 := Aside0.mk hi101_0
              have HC101_0 := Aside0.mk hl101_0
              clear hi101_0 hl101_0
              replace p101 := eq_true p101
              replace q101 := eq_true q101
              go_wp2_with (first | ((with_reducible refine gate_callee (f := 8) rfl ?_); refine goesL_ (some 26) rfl rfl Try.func8 (by kernel_rfl) rfl #[] rfl (by (try simp only [List.map_toArray, List.map_cons, List.map_nil]); first | done | rfl | (simp only [List.length_drop, List.length_take]; rfl)) ?_; (with_reducible refine (pluviallaw03_awake.calls  t102 _ A8.out).mono ?_); rintro e w9 ⟨rfl, hb⟩; refine ⟨_, rfl, ?_⟩; have n0_ := Aside0.mk (Kd.R_below (by (with_reducible repeat (first | apply Kd.R_alloc | apply Kd.R_drewN | apply Kd.R_drew)); exact HO_7.out) hb); have n1_ := Aside0.mk (below_step (by repeat (first | (with_reducible first | exact HB.out | apply below_alloc | apply pw_below_drewN | apply below_drew1) | exact HB.out)) hb); clear HO_7; clear HB; have HO_7 := n0_; have HB := n1_; clear n0_ n1_; (try clear hb); (try clear hb2); (try clear hk); (try clear hi)))
              go_ret
              exact ⟨by first | rfl | (simp [errW_none, errW_some] <;> rfl) | (simp [*, errW_none, errW_some] <;> rfl), by repeat (first | (with_reducible first | exact HB.out | apply below_alloc | apply pw_below_drewN | apply below_drew1) | exact HB.out)⟩
            · rw [if_neg c7] at H
              have c7b0 : decide (300 < ((rd_L1 l0 x14_1).length : Int)) = false := decide_eq_false c7
              have c7b1 : decide (300 < (rd_L1 l0 x14_1).length) = false := decide_eq_false (by omega)
              clear c7
              by_cases c10 : (l0.length : Int) > 20
              · rw [if_pos c10] at H
                have c10b0 : decide (20 < (l0.length : Int)) = true := decide_eq_true c10
                have c10b1 : decide (20 < l0.length) = true := decide_eq_true (by omega)
                clear c10
                replace H := Option.bind_eq_some_iff.mp H
                obtain ⟨t103, A110, H⟩ := H
                replace H : (some t103) = some r := H
                have A11 := Aside0.mk A110
                clear A110
                obtain rfl := Option.some.inj H
                have p101 : 0 ≤ (x14_1 : Int) := of_decide_eq_true (by first | (with_reducible assumption) | assumption)
                have q101 : x14_1 < (l0.length : Int) := of_decide_eq_true (by first | (with_reducible assumption) | assumption)
                obtain ⟨ad101, A101_0, c101_0, e101, hx101_0, hl101_0, hi101_0⟩ := at_L1 HR0.out x14_1 p101 q101
                cases e101
                replace hx101_0 := (HB.out.cell (World.block_lt_of_cell? w _ hx101_0)).trans hx101_0
                have HR101_0 := Aside0.mk hi101_0
                have HC101_0 := Aside0.mk hl101_0
                clear hi101_0 hl101_0
                replace p101 := eq_true p101
                replace q101 := eq_true q101
                go_wp2_with (first | ((with_reducible refine gate_callee (f := 8) rfl ?_); refine goesL_ (some 26) rfl rfl Try.func8 (by kernel_rfl) rfl #[] rfl (by (try simp only [List.map_toArray, List.map_cons, List.map_nil]); first | done | rfl | (simp only [List.length_drop, List.length_take]; rfl)) ?_; (with_reducible refine (pluviallaw03_awake.calls  t103 _ A11.out).mono ?_); rintro e w12 ⟨rfl, hb⟩; refine ⟨_, rfl, ?_⟩; have n0_ := Aside0.mk (Kd.R_below (by (with_reducible repeat (first | apply Kd.R_alloc | apply Kd.R_drewN | apply Kd.R_drew)); exact HO_7.out) hb); have n1_ := Aside0.mk (below_step (by repeat (first | (with_reducible first | exact HB.out | apply below_alloc | apply pw_below_drewN | apply below_drew1) | exact HB.out)) hb); clear HO_7; clear HB; have HO_7 := n0_; have HB := n1_; clear n0_ n1_; (try clear hb); (try clear hb2); (try clear hk); (try clear hi)))
                go_ret
                exact ⟨by first | rfl | (simp [errW_none, errW_some] <;> rfl) | (simp [*, errW_none, errW_some] <;> rfl), by repeat (first | (with_reducible first | exact HB.out | apply below_alloc | apply pw_below_drewN | apply below_drew1) | exact HB.out)⟩
              · rw [if_neg c10] at H
                have c10b0 : decide (20 < (l0.length : Int)) = false := decide_eq_false c10
                have c10b1 : decide (20 < l0.length) = false := decide_eq_false (by omega)
                clear c10
                by_cases c13 : x7_1.length + (rd_L1 l0 x14_1).length < 140737488355328
                · rw [if_pos c13] at H
                  have LMc13 := Aside0.mk c13
                  clear c13
                  obtain ⟨y104, hy104⟩ : ∃ y_ : List Int, y_ = (x7_1 ++ (rd_L1 l0 x14_1)) := ⟨_, rfl⟩
                  replace H : (pluviallaw03_SumParts.l0 k1 l0 a1 a2 y104 l0 (l0.length : Int) (wrap64 (x14_1 + 1))) = some r := by first | (rw [hy104]; with_reducible exact H) | (have H2_ := (Option.bind_some _ _).symm.trans H; rw [hy104]; with_reducible exact H2_) | (have H2_ := (Option.bind_some _ _).symm.trans H; with_reducible exact H2_) | with_reducible exact H | (rw [hy104]; exact H) | exact H
                  have Ny104 := Aside0.mk hy104
                  clear hy104
                  have H' := Aside0.mk H
                  clear H
                  have p101 : 0 ≤ (x14_1 : Int) := of_decide_eq_true (by first | (with_reducible assumption) | assumption)
                  have q101 : x14_1 < (l0.length : Int) := of_decide_eq_true (by first | (with_reducible assumption) | assumption)
                  obtain ⟨ad101, A101_0, c101_0, e101, hx101_0, hl101_0, hi101_0⟩ := at_L1 HR0.out x14_1 p101 q101
                  cases e101
                  replace hx101_0 := (HB.out.cell (World.block_lt_of_cell? w _ hx101_0)).trans hx101_0
                  have HR101_0 := Aside0.mk hi101_0
                  have HC101_0 := Aside0.mk hl101_0
                  clear hi101_0 hl101_0
                  replace p101 := eq_true p101
                  replace q101 := eq_true q101
                  go_wp2_with (first | ((with_reducible refine gate_builtin (b := .append) (xs := #[.tmp 27, .tmp 28]) rfl ?_); (try (refine gate_guard (by rfl) ?_; dsimp only)); at_builtin; refine Kd.R_append_rows (Kd.int .u8) (w0 := w) w.heap.size rfl (.tmp 27) (.tmp 28) 24 5 (.int .u8 0) 1 rfl Try.underlying24 info5 rfl (by decide) (by omega) u7 x7_1 (rd_L1 l0 x14_1) _ _ _ (fun _ => True) (fun _ => False) rfl rfl ?aO ?aR (fun _ _ h => h) (fun _ h => h.elim) ?aF ?aB ?aS ?aL ?_; (case aR => repeat (first | exact (Kd.C_below HR101_0.out HB.out) | (with_reducible refine Kd.C_alloc ?_ _) | (with_reducible refine Kd.C_drewN ?_ _) | (with_reducible refine Kd.C_drew ?_))); (case aB => exact (by repeat (first | (with_reducible first | exact HB.out | apply below_alloc | apply pw_below_drewN | apply below_drew1) | exact HB.out))); (case aF => exact (fun _ _ => trivial)); (case aO => exact (by (with_reducible repeat (first | apply Kd.R_alloc | apply Kd.R_drewN | apply Kd.R_drew)); exact HO_7.out)); (case aS => exact (below_size (by repeat (first | (with_reducible first | exact HB.out | apply below_alloc | apply pw_below_drewN | apply below_drew1) | exact HB.out)))); (case aL => have := LMc13.out; omega); intro v105 w14 ho hb hg hat; rw [← Ny104.out] at ho; have n0_ := Aside0.mk (hb); have n1_ := Aside0.mk (ho); clear HB; clear HO_7; have HB := n0_; have HO106 := n1_; clear n0_ n1_; clear ho hb hg hat))
                  go_roundg k1
                  case measure => have := HK1.out; omega
                  case rel => exact ⟨(y104), (wrap64 (x14_1 + 1)), (by first | rfl | (simp; done) | (simp [*]; done)), H', ⟨by have := HK1.out; omega⟩, ⟨by (with_reducible repeat (first | apply Kd.R_alloc | apply Kd.R_drewN | apply Kd.R_drew)); exact HO106.out⟩, ⟨by repeat (first | (with_reducible first | exact HB.out | apply below_alloc | apply pw_below_drewN | apply below_drew1) | exact HB.out)⟩⟩
                · rw [if_neg c13] at H
                  exact absurd H (by simp)
          · rw [if_neg c6] at H
            exact absurd H (by simp)
        · rw [if_neg c5] at H
          exact absurd H (by simp)
      · rw [if_neg c4] at H
        have c4b0 : decide (x14_1 < (l0.length : Int)) = false := decide_eq_false c4
        clear c4
        replace H := Option.bind_eq_some_iff.mp H
        obtain ⟨t107, A150, H⟩ := H
        replace H : ((sum_Of.f (([x7_1] : List (List Int)))).bind fun t113 => (if t107 = t113 then ((sum_Of.f (([x7_1, []] : List (List Int)))).bind fun t119 => (pluviallaw03_SumParts.j1 k1 a1 a2 x7_1 t107 (t107 != t119))) else (pluviallaw03_SumParts.j1 k1 a1 a2 x7_1 t107 true))) = some r := H
        have A15 := Aside0.mk A150
        clear A150
        have HC16 := Aside0.mk H
        clear H
        go_upto_region 10 with (first | ((with_reducible refine gate_callee (f := 9) rfl ?_); refine goesL_ (some 32) rfl rfl Try.func9 (by kernel_rfl) rfl #[.slice A0 l0.length c0] rfl (by (try simp only [List.map_toArray, List.map_cons, List.map_nil]); first | done | rfl | (simp only [List.length_drop, List.length_take]; rfl)) ?_; (with_reducible refine (sum_Of.calls _ _ l0 t107 _ ?side1 ?side2 A15.out).mono ?_); (case side1 => repeat (first | exact (Kd.C_below HR0.out HB.out) | (with_reducible refine Kd.C_alloc ?_ _) | (with_reducible refine Kd.C_drewN ?_ _) | (with_reducible refine Kd.C_drew ?_))); (case side2 => exact HC0.out); rintro e w17 ⟨rfl, hb⟩; refine ⟨_, rfl, ?_⟩; have n0_ := Aside0.mk (Kd.R_below (by (with_reducible repeat (first | apply Kd.R_alloc | apply Kd.R_drewN | apply Kd.R_drew)); exact HO_7.out) hb); have n1_ := Aside0.mk (below_step (by repeat (first | (with_reducible first | exact HB.out | apply below_alloc | apply pw_below_drewN | apply below_drew1) | exact HB.out)) hb); clear HO_7; clear HB; have HO_7 := n0_; have HB := n1_; clear n0_ n1_; (try clear hb); (try clear hb2); (try clear hk); (try clear hi)))
        (try simp only [Act.put, List.setIfInBounds_toArray, List.set_cons_zero, List.set_cons_succ])
        go_cut [44] (fun v44 wc => ∃ (kq : Nat) (x44_15 : Bool), v44 = .bool x44_15 ∧ Aside0 (pluviallaw03_SumParts.j1 kq a1 a2 x7_1 t107 x44_15 = some r) ∧ Aside0 (kq ≤ k1) ∧ Aside0 (Kd.R (Kd.int .u8) 5 wc w.heap.size (fun _ => True) u7 x7_1) ∧ Aside0 (Below w.heap.size w wc))
        case first =>
          have H := HC16.out
          clear HC16
          obtain ⟨y110, hy110⟩ : ∃ y_ : List (List Int), y_ = (([x7_1] : List (List Int))) := ⟨_, rfl⟩
          replace H : ((sum_Of.f y110).bind fun t113 => (if t107 = t113 then ((sum_Of.f (([x7_1, []] : List (List Int)))).bind fun t119 => (pluviallaw03_SumParts.j1 k1 a1 a2 x7_1 t107 (t107 != t119))) else (pluviallaw03_SumParts.j1 k1 a1 a2 x7_1 t107 true))) = some r := by first | (rw [hy110]; with_reducible exact H) | (have H2_ := (Option.bind_some _ _).symm.trans H; rw [hy110]; with_reducible exact H2_) | (have H2_ := (Option.bind_some _ _).symm.trans H; with_reducible exact H2_) | with_reducible exact H | (rw [hy110]; exact H) | exact H
          have Ny110 := Aside0.mk hy110
          clear hy110
          replace H := Option.bind_eq_some_iff.mp H
          obtain ⟨t113, A180, H⟩ := H
          replace H : (if t107 = t113 then ((sum_Of.f (([x7_1, []] : List (List Int)))).bind fun t119 => (pluviallaw03_SumParts.j1 k1 a1 a2 x7_1 t107 (t107 != t119))) else (pluviallaw03_SumParts.j1 k1 a1 a2 x7_1 t107 true)) = some r := H
          have A18 := Aside0.mk A180
          clear A180
          by_cases c19 : t107 = t113
          · rw [if_pos c19] at H
            have c19b0 : (t107 == t113) = true := beq_iff_eq.mpr c19
            have c19b1 : (t107 != t113) = false := bne_eq_false_iff_eq.mpr c19
            clear c19
            (first | rw [c19b0] | (simp only [i64_w, i32_w]; rw [c19b0]) | skip)
            obtain ⟨y116, hy116⟩ : ∃ y_ : List (List Int), y_ = (([x7_1, []] : List (List Int))) := ⟨_, rfl⟩
            replace H : ((sum_Of.f y116).bind fun t119 => (pluviallaw03_SumParts.j1 k1 a1 a2 x7_1 t107 (t107 != t119))) = some r := by first | (rw [hy116]; with_reducible exact H) | (have H2_ := (Option.bind_some _ _).symm.trans H; rw [hy116]; with_reducible exact H2_) | (have H2_ := (Option.bind_some _ _).symm.trans H; with_reducible exact H2_) | with_reducible exact H | (rw [hy116]; exact H) | exact H
            have Ny116 := Aside0.mk hy116
            clear hy116
            replace H := Option.bind_eq_some_iff.mp H
            obtain ⟨t119, A200, H⟩ := H
            replace H : (pluviallaw03_SumParts.j1 k1 a1 a2 x7_1 t107 (t107 != t119)) = some r := H
            have A20 := Aside0.mk A200
            clear A200
            have H' := Aside0.mk H
            clear H
            obtain ⟨Ao22, co22, eo22⟩ := Kd.R_slice HO_7.out
            subst eo22
            have hroom21 : x7_1.length ≤ co22 := (Kd.R_reads' HO_7.out).2.1
            have hC21 : Kd.F (Kd.int .u8) _ _ Ao22 x7_1.length x7_1 := (Kd.V_at (base := w.heap.size) (Kd.R_V HO_7.out)).2.2
            have HO108 := Aside0.mk (show Kd.V (Kd.int .u8) 5 _ w.heap.size _ (.slice Ao22 x7_1.length co22) x7_1 from Kd.V_mk hroom21 hC21)
            have HC108 := Aside0.mk hroom21
            clear hroom21 hC21
            go_wp2_with (first | ((with_reducible refine gate_dst (N := 35) rfl ?_); (try (refine gate_guard (by rfl) ?_; dsimp only)); refine Kd.N_lit (Kd.slice 5 (Kd.int .u8)) _ 24 ?hg (N' := 35) ?hd (xs := ([x7_1] : List (List Int))) (inner := [.slice Ao22 x7_1.length co22]) (ok := (fun _ => True)) (okp := (fun _ => True)) ?hr ?hp (fun _ hk => hk) ((show ∀ k_, w17.heap.size ≤ k_ → (fun _ => True) k_ from fun k_ hk => trivial) _ (Nat.le_refl _)) (Below.refl _ _) (Nat.le_refl _) (by simp) ?_; (case hd => rfl); (case hg => rfl); (case hr => first | (go_simp; done) | (go_simp; rfl)); (case hp => exact (Reps.one (show Kd.FK (Kd.slice 5 (Kd.int .u8)) _ _ x7_1 [.slice Ao22 x7_1.length co22] from (Kd.FK_slice_mk (Kd.V_reads' (Kd.V_mono (ok' := (fun _ => True)) (HO108.out) (fun k_ hk => trivial))).2.1 (Kd.V_F (Kd.V_mono (ok' := (fun _ => True)) (HO108.out) (fun k_ hk => trivial))))) (Reps.none _ _))); intro v111 w23 ho24 hb hg_ hnew_; clear hg_ hnew_; (first | rw [← Ny110.out] at ho24 | (simp only [Int.reduceToNat] at ho24; rw [← Ny110.out] at ho24)); have n0_ := Aside0.mk (Kd.R_below (by (with_reducible repeat (first | apply Kd.R_alloc | apply Kd.R_drewN | apply Kd.R_drew)); exact HO_7.out) hb); have n1_ := Aside0.mk (Kd.V_elder' (by (with_reducible repeat (first | apply Kd.V_alloc | apply Kd.V_drewN | apply Kd.V_drew)); exact HO108.out) (Kd.N_base ho24) hb); have n2_ := Aside0.mk (Kd.N_lower ho24 (below_size (by repeat (first | (with_reducible first | exact HB.out | apply below_alloc | apply pw_below_drewN | apply below_drew1) | exact HB.out)))); have n3_ := Aside0.mk (below_step (by repeat (first | (with_reducible first | exact HB.out | apply below_alloc | apply pw_below_drewN | apply below_drew1) | exact HB.out)) hb); clear HO_7; clear HO108; clear HB; have HO_7 := n0_; have HO108 := n1_; have HO112 := n2_; have HB := n3_; clear n0_ n1_ n2_ n3_; clear hb ho24; obtain ⟨Ao25, co25, eo25⟩ := Kd.N_slice HO112.out; subst eo25) | ((with_reducible refine gate_callee (f := 9) rfl ?_); refine goesL_ (some 36) rfl rfl Try.func9 (by kernel_rfl) rfl #[.slice Ao25 y110.length co25] rfl (by (try simp only [List.map_toArray, List.map_cons, List.map_nil]); first | done | rfl | (simp only [List.length_drop, List.length_take]; rfl)) ?_; (with_reducible refine (sum_Of.calls _ _ y110 t113 _ ?side1 ?side2 A18.out).mono ?_); (case side1 => repeat (first | exact (Kd.N_reads' HO112.out).2.2 | (with_reducible refine Kd.C_alloc ?_ _) | (with_reducible refine Kd.C_drewN ?_ _) | (with_reducible refine Kd.C_drew ?_))); (case side2 => exact (Kd.N_reads' HO112.out).2.1); rintro e w26 ⟨rfl, hb⟩; refine ⟨_, rfl, ?_⟩; have n0_ := Aside0.mk (Kd.R_below (by (with_reducible repeat (first | apply Kd.R_alloc | apply Kd.R_drewN | apply Kd.R_drew)); exact HO_7.out) hb); have n1_ := Aside0.mk (Kd.V_below (by (with_reducible repeat (first | apply Kd.V_alloc | apply Kd.V_drewN | apply Kd.V_drew)); exact HO108.out) hb); have n2_ := Aside0.mk (Kd.N_below (by (with_reducible repeat (first | apply Kd.N_alloc | apply Kd.N_drewN | apply Kd.N_drew)); exact HO112.out) hb); have n3_ := Aside0.mk (below_step (by repeat (first | (with_reducible first | exact HB.out | apply below_alloc | apply pw_below_drewN | apply below_drew1) | exact HB.out)) hb); clear HO_7; clear HO108; clear HO112; clear HB; have HO_7 := n0_; have HO108 := n1_; have HO112 := n2_; have HB := n3_; clear n0_ n1_ n2_ n3_; (try clear hb); (try clear hb2); (try clear hk); (try clear hi); have hroom27 : x7_1.length ≤ co22 := (Kd.R_reads' HO_7.out).2.1; have hC27 : Kd.F (Kd.int .u8) _ _ Ao22 x7_1.length x7_1 := (Kd.V_at (base := w.heap.size) (Kd.R_V (Kd.R_apart' (HO_7.out) (Kd.N_typed HO112.out) (by decide)))).2.2; have HO114 := Aside0.mk (show Kd.V (Kd.int .u8) 5 _ w.heap.size _ (.slice Ao22 x7_1.length co22) x7_1 from Kd.V_mk hroom27 hC27); have HC114 := Aside0.mk hroom27; clear hroom27 hC27) | ((with_reducible refine gate_dst (N := 41) rfl ?_); (try (refine gate_guard (by rfl) ?_; dsimp only)); refine Kd.N_lit (Kd.slice 5 (Kd.int .u8)) _ 24 ?hg (N' := 41) ?hd (xs := ([x7_1, []] : List (List Int))) (inner := [.slice Ao22 x7_1.length co22, .slice none 0 0]) (ok := (fun k_ => some k_ ≠ (.slice Ao25 y110.length co25 : Value).ownBlock)) (okp := (fun k_ => some k_ ≠ (.slice Ao25 y110.length co25 : Value).ownBlock)) ?hr ?hp (fun _ hk => hk) ((show ∀ k_, w26.heap.size ≤ k_ → (fun k_ => some k_ ≠ (.slice Ao25 y110.length co25 : Value).ownBlock) k_ from fun k_ hk => Kd.fresh' (Kd.N_lt (by (with_reducible repeat (first | apply Kd.N_alloc | apply Kd.N_drewN | apply Kd.N_drew)); exact HO112.out)) k_ hk) _ (Nat.le_refl _)) (Below.refl _ _) (Nat.le_refl _) (by simp) ?_; (case hd => rfl); (case hg => rfl); (case hr => first | (go_simp; done) | (go_simp; rfl)); (case hp => exact (Reps.one (show Kd.FK (Kd.slice 5 (Kd.int .u8)) _ _ x7_1 [.slice Ao22 x7_1.length co22] from (Kd.FK_slice_mk (Kd.V_reads' (Kd.V_mono (ok' := (fun k_ => some k_ ≠ (.slice Ao25 y110.length co25 : Value).ownBlock)) (HO114.out) (fun k_ hk => hk.2))).2.1 (Kd.V_F (Kd.V_mono (ok' := (fun k_ => some k_ ≠ (.slice Ao25 y110.length co25 : Value).ownBlock)) (HO114.out) (fun k_ hk => hk.2))))) (Reps.one (show Kd.FK (Kd.slice 5 (Kd.int .u8)) _ _ [] [.slice none 0 0] from (Kd.FK_slice_mk (Nat.le_refl _) (Kd.F_nil _ _ _))) (Reps.none _ _)))); intro v117 w28 ho29 hb hg_ hnew_; clear hg_ hnew_; (first | rw [← Ny116.out] at ho29 | (simp only [Int.reduceToNat] at ho29; rw [← Ny116.out] at ho29)); have n0_ := Aside0.mk (Kd.R_below (by (with_reducible repeat (first | apply Kd.R_alloc | apply Kd.R_drewN | apply Kd.R_drew)); exact HO_7.out) hb); have n1_ := Aside0.mk (Kd.V_elder' (by (with_reducible repeat (first | apply Kd.V_alloc | apply Kd.V_drewN | apply Kd.V_drew)); exact HO108.out) (Kd.N_base ho29) hb); have n2_ := Aside0.mk (Kd.N_elder' (by (with_reducible repeat (first | apply Kd.N_alloc | apply Kd.N_drewN | apply Kd.N_drew)); exact HO112.out) (Kd.N_base ho29) hb); have n3_ := Aside0.mk (Kd.V_elder' (by (with_reducible repeat (first | apply Kd.V_alloc | apply Kd.V_drewN | apply Kd.V_drew)); exact HO114.out) (Kd.N_base ho29) hb); have n4_ := Aside0.mk (Kd.N_lower ho29 (below_size (by repeat (first | (with_reducible first | exact HB.out | apply below_alloc | apply pw_below_drewN | apply below_drew1) | exact HB.out)))); have n5_ := Aside0.mk (below_step (by repeat (first | (with_reducible first | exact HB.out | apply below_alloc | apply pw_below_drewN | apply below_drew1) | exact HB.out)) hb); clear HO_7; clear HO108; clear HO112; clear HO114; clear HB; have HO_7 := n0_; have HO108 := n1_; have HO112 := n2_; have HO114 := n3_; have HO118 := n4_; have HB := n5_; clear n0_ n1_ n2_ n3_ n4_ n5_; clear hb ho29; obtain ⟨Ao30, co30, eo30⟩ := Kd.N_slice HO118.out; subst eo30) | (go_at_call 9; (with_reducible refine (sum_Of.calls _ _ y116 t119 _ ?side1 ?side2 A20.out).mono ?_); (case side1 => repeat (first | exact (Kd.N_reads' HO118.out).2.2 | (with_reducible refine Kd.C_alloc ?_ _) | (with_reducible refine Kd.C_drewN ?_ _) | (with_reducible refine Kd.C_drew ?_))); (case side2 => exact (Kd.N_reads' HO118.out).2.1); rintro e w31 ⟨rfl, hb⟩; have n0_ := Aside0.mk (Kd.R_below (by (with_reducible repeat (first | apply Kd.R_alloc | apply Kd.R_drewN | apply Kd.R_drew)); exact HO_7.out) hb); have n1_ := Aside0.mk (Kd.V_below (by (with_reducible repeat (first | apply Kd.V_alloc | apply Kd.V_drewN | apply Kd.V_drew)); exact HO108.out) hb); have n2_ := Aside0.mk (Kd.N_below (by (with_reducible repeat (first | apply Kd.N_alloc | apply Kd.N_drewN | apply Kd.N_drew)); exact HO112.out) hb); have n3_ := Aside0.mk (Kd.V_below (by (with_reducible repeat (first | apply Kd.V_alloc | apply Kd.V_drewN | apply Kd.V_drew)); exact HO114.out) hb); have n4_ := Aside0.mk (Kd.N_below (by (with_reducible repeat (first | apply Kd.N_alloc | apply Kd.N_drewN | apply Kd.N_drew)); exact HO118.out) hb); have n5_ := Aside0.mk (below_step (by repeat (first | (with_reducible first | exact HB.out | apply below_alloc | apply pw_below_drewN | apply below_drew1) | exact HB.out)) hb); clear HO_7; clear HO108; clear HO112; clear HO114; clear HO118; clear HB; have HO_7 := n0_; have HO108 := n1_; have HO112 := n2_; have HO114 := n3_; have HO118 := n4_; have HB := n5_; clear n0_ n1_ n2_ n3_ n4_ n5_; (try clear hb); (try clear hb2); (try clear hk); (try clear hi)))
            go_meet
            case rel => exact ⟨_, ((t107 != t119)), (by first | rfl | (simp; done) | (simp [*]; done)), H', ⟨by have := HK1.out; first | omega | exact Nat.le_refl _⟩, ⟨by (with_reducible repeat (first | apply Kd.R_alloc | apply Kd.R_drewN | apply Kd.R_drew)); exact HO_7.out⟩, ⟨by repeat (first | (with_reducible first | exact HB.out | apply below_alloc | apply pw_below_drewN | apply below_drew1) | exact HB.out)⟩⟩
          · rw [if_neg c19] at H
            have c19b0 : (t107 == t113) = false := beq_eq_false_iff_ne.mpr c19
            have c19b1 : (t107 != t113) = true := bne_iff_ne.mpr c19
            (first | rw [c19b0] | (simp only [i64_w, i32_w]; rw [c19b0]) | skip)
            have H' := Aside0.mk H
            clear H
            obtain ⟨Ao33, co33, eo33⟩ := Kd.R_slice HO_7.out
            subst eo33
            have hroom32 : x7_1.length ≤ co33 := (Kd.R_reads' HO_7.out).2.1
            have hC32 : Kd.F (Kd.int .u8) _ _ Ao33 x7_1.length x7_1 := (Kd.V_at (base := w.heap.size) (Kd.R_V HO_7.out)).2.2
            have HO108 := Aside0.mk (show Kd.V (Kd.int .u8) 5 _ w.heap.size _ (.slice Ao33 x7_1.length co33) x7_1 from Kd.V_mk hroom32 hC32)
            have HC108 := Aside0.mk hroom32
            clear hroom32 hC32
            go_wp2_with (first | ((with_reducible refine gate_dst (N := 35) rfl ?_); (try (refine gate_guard (by rfl) ?_; dsimp only)); refine Kd.N_lit (Kd.slice 5 (Kd.int .u8)) _ 24 ?hg (N' := 35) ?hd (xs := ([x7_1] : List (List Int))) (inner := [.slice Ao33 x7_1.length co33]) (ok := (fun _ => True)) (okp := (fun _ => True)) ?hr ?hp (fun _ hk => hk) ((show ∀ k_, w17.heap.size ≤ k_ → (fun _ => True) k_ from fun k_ hk => trivial) _ (Nat.le_refl _)) (Below.refl _ _) (Nat.le_refl _) (by simp) ?_; (case hd => rfl); (case hg => rfl); (case hr => first | (go_simp; done) | (go_simp; rfl)); (case hp => exact (Reps.one (show Kd.FK (Kd.slice 5 (Kd.int .u8)) _ _ x7_1 [.slice Ao33 x7_1.length co33] from (Kd.FK_slice_mk (Kd.V_reads' (Kd.V_mono (ok' := (fun _ => True)) (HO108.out) (fun k_ hk => trivial))).2.1 (Kd.V_F (Kd.V_mono (ok' := (fun _ => True)) (HO108.out) (fun k_ hk => trivial))))) (Reps.none _ _))); intro v111 w34 ho35 hb hg_ hnew_; clear hg_ hnew_; (first | rw [← Ny110.out] at ho35 | (simp only [Int.reduceToNat] at ho35; rw [← Ny110.out] at ho35)); have n0_ := Aside0.mk (Kd.R_below (by (with_reducible repeat (first | apply Kd.R_alloc | apply Kd.R_drewN | apply Kd.R_drew)); exact HO_7.out) hb); have n1_ := Aside0.mk (Kd.V_elder' (by (with_reducible repeat (first | apply Kd.V_alloc | apply Kd.V_drewN | apply Kd.V_drew)); exact HO108.out) (Kd.N_base ho35) hb); have n2_ := Aside0.mk (Kd.N_lower ho35 (below_size (by repeat (first | (with_reducible first | exact HB.out | apply below_alloc | apply pw_below_drewN | apply below_drew1) | exact HB.out)))); have n3_ := Aside0.mk (below_step (by repeat (first | (with_reducible first | exact HB.out | apply below_alloc | apply pw_below_drewN | apply below_drew1) | exact HB.out)) hb); clear HO_7; clear HO108; clear HB; have HO_7 := n0_; have HO108 := n1_; have HO112 := n2_; have HB := n3_; clear n0_ n1_ n2_ n3_; clear hb ho35; obtain ⟨Ao36, co36, eo36⟩ := Kd.N_slice HO112.out; subst eo36) | ((with_reducible refine gate_callee (f := 9) rfl ?_); refine goesL_ (some 36) rfl rfl Try.func9 (by kernel_rfl) rfl #[.slice Ao36 y110.length co36] rfl (by (try simp only [List.map_toArray, List.map_cons, List.map_nil]); first | done | rfl | (simp only [List.length_drop, List.length_take]; rfl)) ?_; (with_reducible refine (sum_Of.calls _ _ y110 t113 _ ?side1 ?side2 A18.out).mono ?_); (case side1 => repeat (first | exact (Kd.N_reads' HO112.out).2.2 | (with_reducible refine Kd.C_alloc ?_ _) | (with_reducible refine Kd.C_drewN ?_ _) | (with_reducible refine Kd.C_drew ?_))); (case side2 => exact (Kd.N_reads' HO112.out).2.1); rintro e w37 ⟨rfl, hb⟩; refine ⟨_, rfl, ?_⟩; have n0_ := Aside0.mk (Kd.R_below (by (with_reducible repeat (first | apply Kd.R_alloc | apply Kd.R_drewN | apply Kd.R_drew)); exact HO_7.out) hb); have n1_ := Aside0.mk (Kd.V_below (by (with_reducible repeat (first | apply Kd.V_alloc | apply Kd.V_drewN | apply Kd.V_drew)); exact HO108.out) hb); have n2_ := Aside0.mk (Kd.N_below (by (with_reducible repeat (first | apply Kd.N_alloc | apply Kd.N_drewN | apply Kd.N_drew)); exact HO112.out) hb); have n3_ := Aside0.mk (below_step (by repeat (first | (with_reducible first | exact HB.out | apply below_alloc | apply pw_below_drewN | apply below_drew1) | exact HB.out)) hb); clear HO_7; clear HO108; clear HO112; clear HB; have HO_7 := n0_; have HO108 := n1_; have HO112 := n2_; have HB := n3_; clear n0_ n1_ n2_ n3_; (try clear hb); (try clear hb2); (try clear hk); (try clear hi)))
            go_meet
            case rel => exact ⟨_, (true), (by first | rfl | (simp; done) | (simp [*]; done)), H', ⟨by have := HK1.out; first | omega | exact Nat.le_refl _⟩, ⟨by (with_reducible repeat (first | apply Kd.R_alloc | apply Kd.R_drewN | apply Kd.R_drew)); exact HO_7.out⟩, ⟨by repeat (first | (with_reducible first | exact HB.out | apply below_alloc | apply pw_below_drewN | apply below_drew1) | exact HB.out)⟩⟩
        case rest =>
          clear HC16
          try clear c1
          try clear p1
          try clear q1
          try clear hx1
          try clear p2
          try clear c3
          try clear c4
          try clear c4b0
          try clear c5
          try clear c5b0
          try clear c6
          try clear c6b0
          try clear p6
          try clear c7
          try clear c7b0
          try clear c7b1
          try clear c8
          try clear c9
          try clear c10
          try clear c10b0
          try clear c10b1
          try clear p10
          try clear q10
          try clear hx10
          try clear c13
          try clear c19
          try clear c19b0
          try clear c19b1
          try clear hx101_0
          try clear p101
          try clear p2
          try clear q101
          obtain ⟨kq, x44_15, rfl, HA, HJ15, HO_7, HB⟩ := hcut
          cases kq with
          | zero => exact absurd HA.out (by simp [pluviallaw03_SumParts.j1])
          | succ kj15 =>
            have H := HA.out
            clear HA
            simp only [pluviallaw03_SumParts.j1] at H
            by_cases c38 : x44_15 = true
            · subst c38
              have H1 : (some false) = some r := by rw [if_pos rfl] at H; exact H
              clear H
              have H := H1
              clear H1
              exact absurd ((Option.some.inj H).trans hr_.out) (by decide)
            · replace c38 := Bool.eq_false_iff.mpr c38
              subst c38
              have H1 : (if (x7_1.length : Int) = 0 then ((pluviallaw03_awake.f).bind fun t120 => (some t120)) else ((some (([] : List Int) : List Int)).bind fun y121 => (if y121.length + x7_1.length < 140737488355328 then ((some (y121 ++ x7_1 : List Int)).bind fun y124 => (if (y124.length : Int) = 0 then (none) else (if 0 ≤ (Int.tmod (wrap64 (a1)) (y124.length : Int)) then (if (Int.tmod (wrap64 (a1)) (y124.length : Int)) < (y124.length : Int) then (if 0 ≤ (Int.tmod a2 8) then ((pluviallaw03_awake.f).bind fun t129 => (if t129 = true then ((sum_Of.f (([(y124.set ((Int.tmod (wrap64 (a1)) (y124.length : Int)) : Int).toNat (Go.bits .xor .u8 (rd y124 (Int.tmod (wrap64 (a1)) (y124.length : Int))) (shl .u8 1 (Int.tmod a2 8))))] : List (List Int)))).bind fun t135 => (some (t135 != t107))) else (some false))) else (none)) else (none)) else (none)))) else (none)))) = some r := by rw [if_neg (show ¬ (false = true) by decide)] at H; exact H
              clear H
              have H := H1
              clear H1
              by_cases c39 : (x7_1.length : Int) = 0
              · rw [if_pos c39] at H
                have c39b0 : ((x7_1.length : Int) == 0) = true := beq_iff_eq.mpr c39
                have c39b1 : ((x7_1.length : Int) != 0) = false := bne_eq_false_iff_eq.mpr c39
                clear c39
                replace H := Option.bind_eq_some_iff.mp H
                obtain ⟨t120, A400, H⟩ := H
                replace H : (some t120) = some r := H
                have A40 := Aside0.mk A400
                clear A400
                obtain rfl := Option.some.inj H
                obtain ⟨Ao41, co41, eo41⟩ := Kd.R_slice HO_7.out
                subst eo41
                go_wp2_with (first | ((with_reducible refine gate_callee (f := 8) rfl ?_); refine goesL_ (some 48) rfl rfl Try.func8 (by kernel_rfl) rfl #[] rfl (by (try simp only [List.map_toArray, List.map_cons, List.map_nil]); first | done | rfl | (simp only [List.length_drop, List.length_take]; rfl)) ?_; (with_reducible refine (pluviallaw03_awake.calls  t120 _ A40.out).mono ?_); rintro e w42 ⟨rfl, hb⟩; refine ⟨_, rfl, ?_⟩; have n0_ := Aside0.mk (Kd.R_below (by (with_reducible repeat (first | apply Kd.R_alloc | apply Kd.R_drewN | apply Kd.R_drew)); exact HO_7.out) hb); have n1_ := Aside0.mk (below_step (by repeat (first | (with_reducible first | exact HB.out | apply below_alloc | apply pw_below_drewN | apply below_drew1) | exact HB.out)) hb); clear HO_7; clear HB; have HO_7 := n0_; have HB := n1_; clear n0_ n1_; (try clear hb); (try clear hb2); (try clear hk); (try clear hi)))
                go_ret
                exact ⟨by first | rfl | (simp [errW_none, errW_some] <;> rfl) | (simp [*, errW_none, errW_some] <;> rfl), by repeat (first | (with_reducible first | exact HB.out | apply below_alloc | apply pw_below_drewN | apply below_drew1) | exact HB.out)⟩
              · rw [if_neg c39] at H
                have c39b0 : ((x7_1.length : Int) == 0) = false := beq_eq_false_iff_ne.mpr c39
                have c39b1 : ((x7_1.length : Int) != 0) = true := bne_iff_ne.mpr c39
                have c39b2 : ¬ (x7_1 = []) := fun h_ => c39 (by rw [h_]; rfl)
                obtain ⟨y121, hy121⟩ : ∃ y_ : List Int, y_ = (([] : List Int)) := ⟨_, rfl⟩
                replace H : (if y121.length + x7_1.length < 140737488355328 then ((some (y121 ++ x7_1 : List Int)).bind fun y124 => (if (y124.length : Int) = 0 then (none) else (if 0 ≤ (Int.tmod (wrap64 (a1)) (y124.length : Int)) then (if (Int.tmod (wrap64 (a1)) (y124.length : Int)) < (y124.length : Int) then (if 0 ≤ (Int.tmod a2 8) then ((pluviallaw03_awake.f).bind fun t129 => (if t129 = true then ((sum_Of.f (([(y124.set ((Int.tmod (wrap64 (a1)) (y124.length : Int)) : Int).toNat (Go.bits .xor .u8 (rd y124 (Int.tmod (wrap64 (a1)) (y124.length : Int))) (shl .u8 1 (Int.tmod a2 8))))] : List (List Int)))).bind fun t135 => (some (t135 != t107))) else (some false))) else (none)) else (none)) else (none)))) else (none)) = some r := by first | (rw [hy121]; with_reducible exact H) | (have H2_ := (Option.bind_some _ _).symm.trans H; rw [hy121]; with_reducible exact H2_) | (have H2_ := (Option.bind_some _ _).symm.trans H; with_reducible exact H2_) | with_reducible exact H | (rw [hy121]; exact H) | exact H
                have Ny121 := Aside0.mk hy121
                clear hy121
                by_cases c43 : y121.length + x7_1.length < 140737488355328
                · rw [if_pos c43] at H
                  have LMc43 := Aside0.mk c43
                  clear c43
                  obtain ⟨y124, hy124⟩ : ∃ y_ : List Int, y_ = (y121 ++ x7_1) := ⟨_, rfl⟩
                  replace H : (if (y124.length : Int) = 0 then (none) else (if 0 ≤ (Int.tmod (wrap64 (a1)) (y124.length : Int)) then (if (Int.tmod (wrap64 (a1)) (y124.length : Int)) < (y124.length : Int) then (if 0 ≤ (Int.tmod a2 8) then ((pluviallaw03_awake.f).bind fun t129 => (if t129 = true then ((sum_Of.f (([(y124.set ((Int.tmod (wrap64 (a1)) (y124.length : Int)) : Int).toNat (Go.bits .xor .u8 (rd y124 (Int.tmod (wrap64 (a1)) (y124.length : Int))) (shl .u8 1 (Int.tmod a2 8))))] : List (List Int)))).bind fun t135 => (some (t135 != t107))) else (some false))) else (none)) else (none)) else (none))) = some r := by first | (rw [hy124]; with_reducible exact H) | (have H2_ := (Option.bind_some _ _).symm.trans H; rw [hy124]; with_reducible exact H2_) | (have H2_ := (Option.bind_some _ _).symm.trans H; with_reducible exact H2_) | with_reducible exact H | (rw [hy124]; exact H) | exact H
                  have Ny124 := Aside0.mk hy124
                  clear hy124
                  by_cases c44 : (y124.length : Int) = 0
                  · rw [if_pos c44] at H
                    exact absurd H (by simp)
                  · rw [if_neg c44] at H
                    have c44b0 : ((y124.length : Int) == 0) = false := beq_eq_false_iff_ne.mpr c44
                    have c44b1 : ((y124.length : Int) != 0) = true := bne_iff_ne.mpr c44
                    have c44b2 : ¬ (y124 = []) := fun h_ => c44 (by rw [h_]; rfl)
                    obtain ⟨ji45, hji45⟩ : ∃ j_ : Int, (Int.tmod (wrap64 (a1)) (y124.length : Int)) = j_ := ⟨_, rfl⟩
                    replace H : (if 0 ≤ (ji45) then (if (ji45) < (y124.length : Int) then (if 0 ≤ (Int.tmod a2 8) then ((pluviallaw03_awake.f).bind fun t129 => (if t129 = true then ((sum_Of.f (([(y124.set ((ji45) : Int).toNat (Go.bits .xor .u8 (rd y124 (ji45)) (shl .u8 1 (Int.tmod a2 8))))] : List (List Int)))).bind fun t135 => (some (t135 != t107))) else (some false))) else (none)) else (none)) else (none)) = some r := by first | (rw [hji45] at H; exact H) | (simp only [hji45] at H ⊢; exact H)
                    by_cases c46 : 0 ≤ (ji45)
                    · rw [if_pos c46] at H
                      have c46b0 : decide (0 ≤ (ji45)) = true := decide_eq_true c46
                      clear c46
                      by_cases c47 : (ji45) < (y124.length : Int)
                      · rw [if_pos c47] at H
                        have c47b0 : decide ((ji45) < (y124.length : Int)) = true := decide_eq_true c47
                        clear c47
                        obtain ⟨ji48, hji48⟩ : ∃ j_ : Int, (Int.tmod a2 8) = j_ := ⟨_, rfl⟩
                        replace H : (if 0 ≤ (ji48) then ((pluviallaw03_awake.f).bind fun t129 => (if t129 = true then ((sum_Of.f (([(y124.set ((ji45) : Int).toNat (Go.bits .xor .u8 (rd y124 (ji45)) (shl .u8 1 (ji48))))] : List (List Int)))).bind fun t135 => (some (t135 != t107))) else (some false))) else (none)) = some r := by first | (rw [hji48] at H; exact H) | (simp only [hji48] at H ⊢; exact H)
                        by_cases c49 : 0 ≤ (ji48)
                        · rw [if_pos c49] at H
                          have c49b0 := eq_true c49
                          have c49b1 : decide (0 ≤ (ji48)) = true := decide_eq_true c49
                          clear c49
                          obtain ⟨ji50, hji50⟩ : ∃ j_ : Int, (shl .u8 1 (ji48)) = j_ := ⟨_, rfl⟩
                          replace H : ((pluviallaw03_awake.f).bind fun t129 => (if t129 = true then ((sum_Of.f (([(y124.set ((ji45) : Int).toNat (Go.bits .xor .u8 (rd y124 (ji45)) (ji50)))] : List (List Int)))).bind fun t135 => (some (t135 != t107))) else (some false))) = some r := by first | (rw [hji50] at H; exact H) | (simp only [hji50] at H ⊢; exact H)
                          have hji50_ : (IntKind.u8.wrap (1 * 2 ^ min (ji48).toNat 8)) = ji50 := hji50
                          have hji50z : (ji48) ≤ 8 → (IntKind.u8.wrap (1 * 2 ^ (ji48).toNat)) = ji50 := shl_small hji50
                          have hji50u : (IntKind.u8.wrap (2 ^ min (ji48).toNat 8)) = ji50 := by have h_ := hji50_; rw [Int.one_mul] at h_; exact h_
                          have hji50v : (ji48) ≤ 8 → (IntKind.u8.wrap (2 ^ (ji48).toNat)) = ji50 := fun hle_ => by have h_ := hji50z hle_; rw [Int.one_mul] at h_; exact h_
                          obtain ⟨y128, hy128⟩ : ∃ y_ : List Int, y_ = (y124.set ((ji45) : Int).toNat (Go.bits .xor .u8 (rd y124 (ji45)) (ji50))) := ⟨_, rfl⟩
                          replace H : ((pluviallaw03_awake.f).bind fun t129 => (if t129 = true then ((sum_Of.f (([y128] : List (List Int)))).bind fun t135 => (some (t135 != t107))) else (some false))) = some r := by first | (rw [hy128]; with_reducible exact H) | (have H2_ := (Option.bind_some _ _).symm.trans H; rw [hy128]; with_reducible exact H2_) | (have H2_ := (Option.bind_some _ _).symm.trans H; with_reducible exact H2_) | with_reducible exact H | (rw [hy128]; exact H) | exact H
                          have Ny128 := Aside0.mk hy128
                          clear hy128
                          replace H := Option.bind_eq_some_iff.mp H
                          obtain ⟨t129, A520, H⟩ := H
                          replace H : (if t129 = true then ((sum_Of.f (([y128] : List (List Int)))).bind fun t135 => (some (t135 != t107))) else (some false)) = some r := H
                          have A52 := Aside0.mk A520
                          clear A520
                          by_cases c53 : t129 = true
                          · subst c53
                            have H1 : ((sum_Of.f (([y128] : List (List Int)))).bind fun t135 => (some (t135 != t107))) = some r := by rw [if_pos rfl] at H; exact H
                            clear H
                            have H := H1
                            clear H1
                            obtain ⟨y132, hy132⟩ : ∃ y_ : List (List Int), y_ = (([y128] : List (List Int))) := ⟨_, rfl⟩
                            replace H : ((sum_Of.f y132).bind fun t135 => (some (t135 != t107))) = some r := by first | (rw [hy132]; with_reducible exact H) | (have H2_ := (Option.bind_some _ _).symm.trans H; rw [hy132]; with_reducible exact H2_) | (have H2_ := (Option.bind_some _ _).symm.trans H; with_reducible exact H2_) | with_reducible exact H | (rw [hy132]; exact H) | exact H
                            have Ny132 := Aside0.mk hy132
                            clear hy132
                            replace H := Option.bind_eq_some_iff.mp H
                            obtain ⟨t135, A540, H⟩ := H
                            replace H : (some (t135 != t107)) = some r := H
                            have A54 := Aside0.mk A540
                            clear A540
                            obtain rfl := Option.some.inj H
                            obtain ⟨Ao55, co55, eo55⟩ := Kd.R_slice HO_7.out
                            subst eo55
                            go_wp2_with (first | ((with_reducible refine gate_dst (N := 49) rfl ?_); (try (refine gate_guard (by rfl) ?_; dsimp only)); refine Kd.R_lit (Kd.int .u8) _ 5 ?hg (N := 49) ?hd (xs := ([] : List Int)) (inner := []) (ok := fun _ => True) (okp := fun _ => True) ?hr ?hp (fun _ hk => hk) trivial (Below.refl _ _) (Nat.le_refl _) (by simp) ?_; (case hd => rfl); (case hg => rfl); (case hr => first | (go_simp; done) | (go_simp; rfl)); (case hp => exact (Reps.none _ _)); intro v122 w56 ho57 hb hg_ hnew_; clear hg_ hnew_; (first | rw [← Ny121.out] at ho57 | (simp only [Int.reduceToNat] at ho57; rw [← Ny121.out] at ho57)); have n0_ := Aside0.mk (Kd.R_elder' (by (with_reducible repeat (first | apply Kd.R_alloc | apply Kd.R_drewN | apply Kd.R_drew)); exact HO_7.out) (Kd.R_base ho57) hb); have n1_ := Aside0.mk (Kd.R_lower (Kd.R_new' ho57 (Kd.R_lt (by (with_reducible repeat (first | apply Kd.R_alloc | apply Kd.R_drewN | apply Kd.R_drew)); exact HO_7.out))) (below_size (by repeat (first | (with_reducible first | exact HB.out | apply below_alloc | apply pw_below_drewN | apply below_drew1) | exact HB.out)))); have n2_ := Aside0.mk (below_step (by repeat (first | (with_reducible first | exact HB.out | apply below_alloc | apply pw_below_drewN | apply below_drew1) | exact HB.out)) hb); clear HO_7; clear HB; have HO_7 := n0_; have HO123 := n1_; have HB := n2_; clear n0_ n1_ n2_; clear hb ho57) | ((with_reducible refine gate_builtin (b := .append) (xs := #[.tmp 49, .tmp 50]) rfl ?_); (try (refine gate_guard (by rfl) ?_; dsimp only)); at_builtin; refine Kd.R_append_rows (Kd.int .u8) (w0 := w) w.heap.size rfl (.tmp 49) (.tmp 50) 24 5 (.int .u8 0) 1 rfl Try.underlying24 info5 rfl (by decide) (by omega) v122 y121 x7_1 _ _ _ (fun k_ => some k_ ≠ (.slice Ao55 x7_1.length co55 : Value).ownBlock) (fun _ => False) rfl rfl ?aO ?aR (fun _ _ h => h) (fun _ h => h.elim) ?aF ?aB ?aS ?aL ?_; (case aR => repeat (first | exact (Kd.R_reads' HO_7.out).2.2 | (with_reducible refine Kd.C_alloc ?_ _) | (with_reducible refine Kd.C_drewN ?_ _) | (with_reducible refine Kd.C_drew ?_))); (case aB => exact (by repeat (first | (with_reducible first | exact HB.out | apply below_alloc | apply pw_below_drewN | apply below_drew1) | exact HB.out))); (case aF => exact (fun k_ hk => Kd.fresh' (Kd.R_lt (by (with_reducible repeat (first | apply Kd.R_alloc | apply Kd.R_drewN | apply Kd.R_drew)); exact HO_7.out)) k_ hk)); (case aO => exact (by (with_reducible repeat (first | apply Kd.R_alloc | apply Kd.R_drewN | apply Kd.R_drew)); exact Kd.R_mono HO123.out (fun _ hk => hk.2))); (case aS => exact (below_size (by repeat (first | (with_reducible first | exact HB.out | apply below_alloc | apply pw_below_drewN | apply below_drew1) | exact HB.out)))); (case aL => have := LMc43.out; omega); intro v125 w58 ho hb hg hat; rw [← Ny124.out] at ho; have n0_ := Aside0.mk (Kd.R_after (ok := (fun _ => True)) (by (with_reducible repeat (first | apply Kd.R_alloc | apply Kd.R_drewN | apply Kd.R_drew)); exact HO_7.out) hg hat); have n1_ := Aside0.mk (hb); have n2_ := Aside0.mk (ho); clear HO_7; clear HB; clear HO123; have HO_7 := n0_; have HB := n1_; have HO126 := n2_; clear n0_ n1_ n2_; clear ho hb hg hat; obtain ⟨Ao59, co59, eo59⟩ := Kd.R_slice HO126.out; subst eo59; have p127 : 0 ≤ ((ji45) : Int) := of_decide_eq_true (by first | (with_reducible assumption) | assumption); have q127 : (ji45) < (y124.length : Int) := of_decide_eq_true (by first | (with_reducible assumption) | assumption); obtain ⟨ad127, e127, hx127_0⟩ := Kd.at_int (Kd.R_reads' HO126.out).2.2 (ji45) p127 q127; cases e127; replace p127 := eq_true p127; replace q127 := eq_true q127; have p51 : 0 ≤ ((ji45) : Int) := of_decide_eq_true (by first | (with_reducible assumption) | assumption); have q51 : ((ji45) : Int) < ((y124.length : Int) : Int) := of_decide_eq_true (by first | (with_reducible assumption) | assumption); obtain ⟨go51, co51, eo51, gb51, gl51, cl51, HG51⟩ := Kd.R_form HO126.out (by omega); (first | cases eo51 | (injection eo51 with ea_ en_ ec_; (first | subst ea_ | (injection ea_ with ea_; subst ea_)); subst ec_; clear en_)); have GB51 := Aside0.mk gb51; have GG51 := Aside0.mk HG51; clear gb51 gl51 HG51; (first | simp only [add_plain] at hx127_0 | skip); obtain ⟨hx51_0, hf51_0⟩ := Kd.R_celln 0 HO126.out ((ji45) : Int) p51 q51; replace p51 := eq_true p51; replace q51 := eq_true q51; obtain ⟨hy60_, hz60_⟩ := Kd.R_celln 0 HO126.out ((ji45) : Int) (of_decide_eq_true (by first | (with_reducible assumption) | assumption)) (of_decide_eq_true (by first | (with_reducible assumption) | assumption)); have HP60 := Kd.R_putg HO126.out ((ji45) : Int) (Go.bits .xor .u8 (rd y124 (ji45)) (ji50))) | ((with_reducible refine gate_store (t := 5) (p := 64) rfl ?_); refine store_event (t := 5) (p := 64) (v := ?vo_w61) (w1 := (w58.setCell ⟨go51, ((ji45) : Int).toNat, none⟩ (.int .u8 (Go.bits .xor .u8 (rd y124 (ji45)) (ji50))))) ?hg ?ho ?hn ?hr ?_; (case ho => rfl); (case hg => rfl); (case hn => rfl); (case hr => first | (go_simp; done) | (go_simp; rfl)); intro w61 hw; have hg : w58.grownBy w61 (some go51) := (by rw [hw]; exact HP60.2); have hp_ : Kd.R (Kd.int .u8) 5 w61 w.heap.size (fun k_ => some k_ ≠ (.slice Ao55 x7_1.length co55 : Value).ownBlock) (.slice (some ⟨go51, 0, none⟩) y124.length co59) y128 := (by rw [hw, Ny128.out]; exact HP60.1); clear HP60; have n0_ := Aside0.mk (Kd.R_after (v := (.slice (some ⟨go51, 0, none⟩) y124.length co59)) (v1 := (.slice (some ⟨go51, 0, none⟩) y124.length co59)) (ok := (fun _ => True)) (by (with_reducible repeat (first | apply Kd.R_alloc | apply Kd.R_drewN | apply Kd.R_drew)); exact HO_7.out) hg (.inl rfl)); have n1_ := Aside0.mk (hp_); have n2_ := Aside0.mk ((by rw [hw]; exact below_set (HB.out) GB51.out : Below w.heap.size w w61)); clear HO_7; clear HO126; clear HB; have HO_7 := n0_; have HO126 := n1_; have HB := n2_; clear n0_ n1_ n2_; clear hg hw hp_) | ((with_reducible refine gate_callee (f := 8) rfl ?_); refine goesL_ (some 65) rfl rfl Try.func8 (by kernel_rfl) rfl #[] rfl (by (try simp only [List.map_toArray, List.map_cons, List.map_nil]); first | done | rfl | (simp only [List.length_drop, List.length_take]; rfl)) ?_; (with_reducible refine (pluviallaw03_awake.calls  true _ A52.out).mono ?_); rintro e w62 ⟨rfl, hb⟩; refine ⟨_, rfl, ?_⟩; have n0_ := Aside0.mk (Kd.R_below (by (with_reducible repeat (first | apply Kd.R_alloc | apply Kd.R_drewN | apply Kd.R_drew)); exact HO_7.out) hb); have n1_ := Aside0.mk (Kd.R_below (by (with_reducible repeat (first | apply Kd.R_alloc | apply Kd.R_drewN | apply Kd.R_drew)); exact HO126.out) hb); have n2_ := Aside0.mk (below_step (by repeat (first | (with_reducible first | exact HB.out | apply below_alloc | apply pw_below_drewN | apply below_drew1) | exact HB.out)) hb); clear HO_7; clear HO126; clear HB; have HO_7 := n0_; have HO126 := n1_; have HB := n2_; clear n0_ n1_ n2_; (try clear hb); (try clear hb2); (try clear hk); (try clear hi); have hlx63 := (Kd.R_reads' HO126.out).1; have hroom63 : y124.length ≤ co59 := (Kd.R_reads' HO126.out).2.1; rw [hlx63] at hroom63; have hC63 : Kd.F (Kd.int .u8) _ _ (some ⟨go51, 0, none⟩) y128.length y128 := (Kd.V_at (base := w.heap.size) (Kd.R_V HO126.out)).2.2; have HO130 := Aside0.mk (show Kd.V (Kd.int .u8) 5 _ w.heap.size _ (.slice (some ⟨go51, 0, none⟩) y128.length co59) y128 from Kd.V_mk hroom63 hC63); have HC130 := Aside0.mk hroom63; clear hroom63 hC63; (try rw [hlx63]); clear hlx63) | ((with_reducible refine gate_dst (N := 68) rfl ?_); (try (refine gate_guard (by rfl) ?_; dsimp only)); refine Kd.N_lit (Kd.slice 5 (Kd.int .u8)) _ 24 ?hg (N' := 68) ?hd (xs := ([y128] : List (List Int))) (inner := [.slice (some ⟨go51, 0, none⟩) y128.length co59]) (ok := (fun k_ => some k_ ≠ (.slice Ao55 x7_1.length co55 : Value).ownBlock)) (okp := (fun k_ => some k_ ≠ (.slice Ao55 x7_1.length co55 : Value).ownBlock)) ?hr ?hp (fun _ hk => hk) ((show ∀ k_, w62.heap.size ≤ k_ → (fun k_ => some k_ ≠ (.slice Ao55 x7_1.length co55 : Value).ownBlock) k_ from fun k_ hk => Kd.fresh' (Kd.R_lt (by (with_reducible repeat (first | apply Kd.R_alloc | apply Kd.R_drewN | apply Kd.R_drew)); exact HO_7.out)) k_ hk) _ (Nat.le_refl _)) (Below.refl _ _) (Nat.le_refl _) (by simp) ?_; (case hd => rfl); (case hg => rfl); (case hr => first | (go_simp; done) | (go_simp; rfl)); (case hp => exact (Reps.one (show Kd.FK (Kd.slice 5 (Kd.int .u8)) _ _ y128 [.slice (some ⟨go51, 0, none⟩) y128.length co59] from (Kd.FK_slice_mk (Kd.V_reads' (Kd.V_mono (ok' := (fun k_ => some k_ ≠ (.slice Ao55 x7_1.length co55 : Value).ownBlock)) (HO130.out) (fun k_ hk => hk))).2.1 (Kd.V_F (Kd.V_mono (ok' := (fun k_ => some k_ ≠ (.slice Ao55 x7_1.length co55 : Value).ownBlock)) (HO130.out) (fun k_ hk => hk))))) (Reps.none _ _))); intro v133 w64 ho65 hb hg_ hnew_; clear hg_ hnew_; (first | rw [← Ny132.out] at ho65 | (simp only [Int.reduceToNat] at ho65; rw [← Ny132.out] at ho65)); have n0_ := Aside0.mk (Kd.R_below (by (with_reducible repeat (first | apply Kd.R_alloc | apply Kd.R_drewN | apply Kd.R_drew)); exact HO_7.out) hb); have n1_ := Aside0.mk (Kd.R_below (by (with_reducible repeat (first | apply Kd.R_alloc | apply Kd.R_drewN | apply Kd.R_drew)); exact HO126.out) hb); have n2_ := Aside0.mk (Kd.V_elder' (by (with_reducible repeat (first | apply Kd.V_alloc | apply Kd.V_drewN | apply Kd.V_drew)); exact HO130.out) (Kd.N_base ho65) hb); have n3_ := Aside0.mk (Kd.N_lower ho65 (below_size (by repeat (first | (with_reducible first | exact HB.out | apply below_alloc | apply pw_below_drewN | apply below_drew1) | exact HB.out)))); have n4_ := Aside0.mk (below_step (by repeat (first | (with_reducible first | exact HB.out | apply below_alloc | apply pw_below_drewN | apply below_drew1) | exact HB.out)) hb); clear HO_7; clear HO126; clear HO130; clear HB; have HO_7 := n0_; have HO126 := n1_; have HO130 := n2_; have HO134 := n3_; have HB := n4_; clear n0_ n1_ n2_ n3_ n4_; clear hb ho65; obtain ⟨Ao66, co66, eo66⟩ := Kd.N_slice HO134.out; subst eo66) | (go_at_call 9; (with_reducible refine (sum_Of.calls _ _ y132 t135 _ ?side1 ?side2 A54.out).mono ?_); (case side1 => repeat (first | exact (Kd.N_reads' HO134.out).2.2 | (with_reducible refine Kd.C_alloc ?_ _) | (with_reducible refine Kd.C_drewN ?_ _) | (with_reducible refine Kd.C_drew ?_))); (case side2 => exact (Kd.N_reads' HO134.out).2.1); rintro e w67 ⟨rfl, hb⟩; have n0_ := Aside0.mk (Kd.R_below (by (with_reducible repeat (first | apply Kd.R_alloc | apply Kd.R_drewN | apply Kd.R_drew)); exact HO_7.out) hb); have n1_ := Aside0.mk (Kd.R_below (by (with_reducible repeat (first | apply Kd.R_alloc | apply Kd.R_drewN | apply Kd.R_drew)); exact HO126.out) hb); have n2_ := Aside0.mk (Kd.V_below (by (with_reducible repeat (first | apply Kd.V_alloc | apply Kd.V_drewN | apply Kd.V_drew)); exact HO130.out) hb); have n3_ := Aside0.mk (Kd.N_below (by (with_reducible repeat (first | apply Kd.N_alloc | apply Kd.N_drewN | apply Kd.N_drew)); exact HO134.out) hb); have n4_ := Aside0.mk (below_step (by repeat (first | (with_reducible first | exact HB.out | apply below_alloc | apply pw_below_drewN | apply below_drew1) | exact HB.out)) hb); clear HO_7; clear HO126; clear HO130; clear HO134; clear HB; have HO_7 := n0_; have HO126 := n1_; have HO130 := n2_; have HO134 := n3_; have HB := n4_; clear n0_ n1_ n2_ n3_ n4_; (try clear hb); (try clear hb2); (try clear hk); (try clear hi)))
                            go_ret
                            exact ⟨by first | rfl | (simp [errW_none, errW_some] <;> rfl) | (simp only [← hji45, ← hji48, ← hji50]; first | rfl | (simp [errW_none, errW_some] <;> rfl)) | (simp [*, errW_none, errW_some] <;> rfl), by repeat (first | (with_reducible first | exact HB.out | apply below_alloc | apply pw_below_drewN | apply below_drew1) | exact HB.out)⟩
                          · replace c53 := Bool.eq_false_iff.mpr c53
                            subst c53
                            have H1 : (some false) = some r := by rw [if_neg (show ¬ (false = true) by decide)] at H; exact H
                            clear H
                            have H := H1
                            clear H1
                            exact absurd ((Option.some.inj H).trans hr_.out) (by decide)
                        · rw [if_neg c49] at H
                          exact absurd H (by simp)
                      · rw [if_neg c47] at H
                        exact absurd H (by simp)
                    · rw [if_neg c46] at H
                      exact absurd H (by simp)
                · rw [if_neg c43] at H
                  exact absurd H (by simp)

end Go.Proofs.Ytmklgjcflgjbjaa.QSumParts
