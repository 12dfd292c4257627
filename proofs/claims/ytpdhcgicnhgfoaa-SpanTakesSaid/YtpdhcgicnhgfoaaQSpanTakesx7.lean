-- Written by a program of the session (wip/xprint.sh, wip/xpatch.py; a variant of the print) out of the translation. Lean checks it.
import Derived.Test.YtpdhcgicnhgfoaaQSpanTakesx0
import Derived.Test.YtpdhcgicnhgfoaaQSpanTakesx3
namespace Go.Proofs.Ytpdhcgicnhgfoaa.QSpanTakes
open Go.RowKit Go.Proofs.YtpdhcgicnhgfoaaW.PrintWords Go.Proofs.YtpdhcgicnhgfoaaW.PrintLast Go.Proofs.YtpdhcgicnhgfoaaW.PrintMore
attribute [local go_sem] max2_int min2_int max_two min_two max_three min_three max_four min_four   -- for this text's walks alone
set_option linter.unusedVariables false
set_option linter.unusedSimpArgs false

/-! ### pluvialref06_Right: function 22 -/
mutual
def pluvialref06_Right.j0 : Nat → List (S38) → Int → Bool → Option (Bool)
  | 0, _, _, _ => none
  | k + 1, x1, x2, x19 => if x19 = true then (some false) else (pluvialref06_Right.l0 k x1 x2 0)
def pluvialref06_Right.l0 : Nat → List (S38) → Int → Int → Option (Bool)
  | 0, _, _, _ => none
  | k + 1, x1, x7, x8 => if x8 < (x1.length : Int) then (if x8 = 0 then (if 0 ≤ x8 then (if ((rd_T38 x1 x8).f0) = 0 then (if x8 > 0 then (if ((rd_T38 x1 x8).f0) < 1 then (some false) else (if ((rd_T38 x1 x8).f0) > 524288 then (some false) else (if ((rd_T38 x1 x8).f1) < 1 then (some false) else (if ((rd_T38 x1 x8).f1) > x7 then (some false) else (pluvialref06_Right.l0 k x1 (wrap64 (x7 - ((rd_T38 x1 x8).f1))) (wrap64 (x8 + 1))))))) else (if ((rd_T38 x1 x8).f1) < 1 then (some false) else (if ((rd_T38 x1 x8).f1) > x7 then (some false) else (pluvialref06_Right.l0 k x1 (wrap64 (x7 - ((rd_T38 x1 x8).f1))) (wrap64 (x8 + 1)))))) else (some false)) else (none)) else (if x8 > 0 then (if 0 ≤ x8 then (if ((rd_T38 x1 x8).f0) < 1 then (some false) else (if ((rd_T38 x1 x8).f0) > 524288 then (some false) else (if ((rd_T38 x1 x8).f1) < 1 then (some false) else (if ((rd_T38 x1 x8).f1) > x7 then (some false) else (pluvialref06_Right.l0 k x1 (wrap64 (x7 - ((rd_T38 x1 x8).f1))) (wrap64 (x8 + 1))))))) else (none)) else (if 0 ≤ x8 then (if ((rd_T38 x1 x8).f1) < 1 then (some false) else (if ((rd_T38 x1 x8).f1) > x7 then (some false) else (pluvialref06_Right.l0 k x1 (wrap64 (x7 - ((rd_T38 x1 x8).f1))) (wrap64 (x8 + 1))))) else (none)))) else (some true)
end
def pluvialref06_Right.f (k : Nat) (a0 : Int) (l1 : List (S38)) (a2 : Int) : Option (Bool) := if (l1.length : Int) = 0 then (some (a0 == 0)) else (if a0 < (-262144) then (pluvialref06_Right.j0 k l1 a2 true) else (pluvialref06_Right.j0 k l1 a2 (decide (a0 > 262144))))
theorem pluvialref06_Right.mono_l : ∀ k, (∀ y0 y1 y2, LeO (pluvialref06_Right.j0 k y0 y1 y2) (pluvialref06_Right.j0 (k + 1) y0 y1 y2)) ∧ (∀ y0 y1 y2, LeO (pluvialref06_Right.l0 k y0 y1 y2) (pluvialref06_Right.l0 (k + 1) y0 y1 y2))
  | 0 => ⟨fun _ _ _ r h => by simp [pluvialref06_Right.j0] at h, fun _ _ _ r h => by simp [pluvialref06_Right.l0] at h⟩
  | k + 1 => by
    obtain ⟨ih0, ih1⟩ := pluvialref06_Right.mono_l k
    refine ⟨?_, ?_⟩
    · intro y0 y1 y2
      unfold pluvialref06_Right.j0
      repeat' first
      | (with_reducible exact ih0 _ _ _)
      | (with_reducible exact ih1 _ _ _)
      | (with_reducible exact LeO.refl _)
      | (with_reducible exact LeO.none _)
      | (with_reducible refine LeO.ite ?_ ?_)
      | (with_reducible refine LeO.bind ?_ (fun _ => ?_))
      | exact ih0 _ _ _
      | exact ih1 _ _ _
      | exact LeO.none _
      | refine LeO.ite ?_ ?_
      | refine LeO.bind ?_ (fun _ => ?_)
    · intro y0 y1 y2
      unfold pluvialref06_Right.l0
      repeat' first
      | (with_reducible exact ih0 _ _ _)
      | (with_reducible exact ih1 _ _ _)
      | (with_reducible exact LeO.refl _)
      | (with_reducible exact LeO.none _)
      | (with_reducible refine LeO.ite ?_ ?_)
      | (with_reducible refine LeO.bind ?_ (fun _ => ?_))
      | exact ih0 _ _ _
      | exact ih1 _ _ _
      | exact LeO.none _
      | refine LeO.ite ?_ ?_
      | refine LeO.bind ?_ (fun _ => ?_)
theorem pluvialref06_Right.mono : ∀ a0 a1 a2 k, LeO (pluvialref06_Right.f k a0 a1 a2) (pluvialref06_Right.f (k + 1) a0 a1 a2) := by
  intro a0 a1 a2 k
  obtain ⟨ih0, ih1⟩ := pluvialref06_Right.mono_l k
  unfold pluvialref06_Right.f
  repeat' first
      | (with_reducible exact ih0 _ _ _)
      | (with_reducible exact ih1 _ _ _)
      | (with_reducible exact LeO.refl _)
      | (with_reducible exact LeO.none _)
      | (with_reducible refine LeO.ite ?_ ?_)
      | (with_reducible refine LeO.bind ?_ (fun _ => ?_))
      | exact ih0 _ _ _
      | exact ih1 _ _ _
      | exact LeO.none _
      | refine LeO.ite ?_ ?_
      | refine LeO.bind ?_ (fun _ => ?_)
set_option maxHeartbeats 8000000 in
set_option maxRecDepth 100000 in
theorem pluvialref06_Right.calls (k : Nat) (a0 : Int) (A1 : Option Addr) (c1 : Nat) (l1 : List (S38)) (a2 : Int) (r : Bool) (w : World) (hr1 : Kd.C k38 w A1 l1.length l1) (hc1 : l1.length ≤ c1) (h : pluvialref06_Right.f k a0 l1 a2 = some r) :
    Calls Try.prog 22 #[.int .i64 a0, .slice A1 l1.length c1, .int .i64 a2] w fun e w' => e = .returned (.bool r) ∧ Drawn0 w w' := by
  have HR1 := Aside0.mk hr1
  have HC1 := Aside0.mk hc1
  clear hr1 hc1
  have H : (if (l1.length : Int) = 0 then (some (a0 == 0)) else (if a0 < (-262144) then (pluvialref06_Right.j0 k l1 a2 true) else (pluvialref06_Right.j0 k l1 a2 (decide (a0 > 262144))))) = some r := h
  clear h
  by_cases c4 : (l1.length : Int) = 0
  · rw [if_pos c4] at H
    have c4b0 : ((l1.length : Int) == 0) = true := beq_iff_eq.mpr c4
    have c4b1 : ((l1.length : Int) != 0) = false := bne_eq_false_iff_eq.mpr c4
    clear c4
    obtain rfl := Option.some.inj H
    go_enter Try.func22, Try.ntmps22
    go_wp2
    go_ret
    exact ⟨by first | rfl | (simp; done) | (simp [*]; done), by repeat (first | exact Drawn0.refl _ | apply Drawn0.step)⟩
  · rw [if_neg c4] at H
    have c4b0 : ((l1.length : Int) == 0) = false := beq_eq_false_iff_ne.mpr c4
    have c4b1 : ((l1.length : Int) != 0) = true := bne_iff_ne.mpr c4
    have c4b2 : ¬ (l1 = []) := fun h_ => c4 (by rw [h_]; rfl)
    have HC5 := Aside0.mk H
    clear H
    go_enter Try.func22, Try.ntmps22
    go_upto_region 3 with (fail)
    go_cut [19] (fun v19 wc => ∃ (kq : Nat) (x19_4 : Bool), v19 = .bool x19_4 ∧ Aside0 (pluvialref06_Right.j0 kq l1 a2 x19_4 = some r) ∧ Aside0 (kq ≤ k) ∧ Drawn0 w wc)
    case first =>
      have H := HC5.out
      clear HC5
      by_cases c6 : a0 < (-262144)
      · rw [if_pos c6] at H
        have c6b0 : decide (a0 < (-262144)) = true := decide_eq_true c6
        clear c6
        (first | rw [c6b0] | (simp only [i64_w, i32_w]; rw [c6b0]) | skip)
        have H' := Aside0.mk H
        clear H
        go_wp2
        go_meet
        case rel => exact ⟨_, (true), (by first | rfl | (simp; done) | (simp [*]; done)), H', ⟨by first | omega | exact Nat.le_refl _⟩, by repeat (first | exact Drawn0.refl _ | apply Drawn0.step)⟩
      · rw [if_neg c6] at H
        have c6b0 : decide (a0 < (-262144)) = false := decide_eq_false c6
        clear c6
        (first | rw [c6b0] | (simp only [i64_w, i32_w]; rw [c6b0]) | skip)
        have H' := Aside0.mk H
        clear H
        go_wp2
        go_meet
        case rel => exact ⟨_, (decide (a0 > 262144)), (by first | rfl | (simp; done) | (simp [*]; done)), H', ⟨by first | omega | exact Nat.le_refl _⟩, by repeat (first | exact Drawn0.refl _ | apply Drawn0.step)⟩
    case rest =>
      clear HC5
      try clear c1
      try clear c2
      try clear p2
      try clear c4
      try clear c4b0
      try clear c4b1
      try clear c4b2
      try clear c6
      try clear c6b0
      obtain ⟨kq, x19_4, rfl, HA, HJ4, ⟨mc4, rfl⟩⟩ := hcut
      cases kq with
      | zero => exact absurd HA.out (by simp [pluvialref06_Right.j0])
      | succ kj4 =>
        have H := HA.out
        clear HA
        simp only [pluvialref06_Right.j0] at H
        by_cases c7 : x19_4 = true
        · subst c7
          have H1 : (some false) = some r := by rw [if_pos rfl] at H; exact H
          clear H
          have H := H1
          clear H1
          obtain rfl := Option.some.inj H
          go_wp2
          go_ret
          exact ⟨by first | rfl | (simp; done) | (simp [*]; done), by repeat (first | exact Drawn0.refl _ | apply Drawn0.step)⟩
        · replace c7 := Bool.eq_false_iff.mpr c7
          subst c7
          have H1 : (pluvialref06_Right.l0 kj4 l1 a2 0) = some r := by rw [if_neg (show ¬ (false = true) by decide)] at H; exact H
          clear H
          have H := H1
          clear H1
          have H' := Aside0.mk H
          clear H
          go_wp2
          go_loopg [7, 8] kj4 (fun kq v7 v8 w' => ∃ (x7_2 : Int) (x8_2 : Int), v7 = .int .i64 x7_2 ∧ v8 = .int .i64 x8_2 ∧ Aside0 (pluvialref06_Right.l0 kq l1 x7_2 x8_2 = some r) ∧ Aside0 (kq ≤ kj4) ∧ Drawn0 w w')
          case atStart => exact ⟨(a2), (0), (by first | rfl | (simp; done) | (simp [*]; done)), (by first | rfl | (simp; done) | (simp [*]; done)), H', ⟨Nat.le_refl _⟩, by repeat (first | exact Drawn0.refl _ | apply Drawn0.step)⟩
          case round =>
            clear H'
            try clear c1
            try clear c2
            try clear p2
            try clear c4
            try clear c4b0
            try clear c4b1
            try clear c4b2
            try clear c6
            try clear c6b0
            try clear c7
            try clear p2
            obtain ⟨x7_2, x8_2, rfl, rfl, HA, HK2, ⟨m2, rfl⟩⟩ := hrel
            cases gk with
            | zero => exact absurd HA.out (by simp [pluvialref06_Right.l0])
            | succ k2 =>
              have H := HA.out
              clear HA
              simp only [pluvialref06_Right.l0] at H
              by_cases c8 : x8_2 < (l1.length : Int)
              · rw [if_pos c8] at H
                have c8b0 : decide (x8_2 < (l1.length : Int)) = true := decide_eq_true c8
                clear c8
                by_cases c9 : x8_2 = 0
                · rw [if_pos c9] at H
                  have c9b0 : (x8_2 == 0) = true := beq_iff_eq.mpr c9
                  have c9b1 : (x8_2 != 0) = false := bne_eq_false_iff_eq.mpr c9
                  clear c9
                  by_cases c10 : 0 ≤ x8_2
                  · rw [if_pos c10] at H
                    have c10b0 : decide (0 ≤ x8_2) = true := decide_eq_true c10
                    clear c10
                    by_cases c11 : ((rd_T38 l1 x8_2).f0) = 0
                    · rw [if_pos c11] at H
                      have c11b0 : (((rd_T38 l1 x8_2).f0) == 0) = true := beq_iff_eq.mpr c11
                      have c11b1 : (((rd_T38 l1 x8_2).f0) != 0) = false := bne_eq_false_iff_eq.mpr c11
                      clear c11
                      by_cases c12 : x8_2 > 0
                      · rw [if_pos c12] at H
                        have c12b0 : decide (0 < x8_2) = true := decide_eq_true c12
                        clear c12
                        by_cases c13 : ((rd_T38 l1 x8_2).f0) < 1
                        · rw [if_pos c13] at H
                          have c13b0 : decide (((rd_T38 l1 x8_2).f0) < 1) = true := decide_eq_true c13
                          clear c13
                          obtain rfl := Option.some.inj H
                          have p217 : 0 ≤ (x8_2 : Int) := of_decide_eq_true (by first | (with_reducible assumption) | assumption)
                          have q217 : x8_2 < (l1.length : Int) := of_decide_eq_true (by first | (with_reducible assumption) | assumption)
                          obtain ⟨ad217, e217, hx217_0, hx217_1⟩ := at_T38 HR1.out x8_2 p217 q217
                          cases e217
                          replace p217 := eq_true p217
                          replace q217 := eq_true q217
                          have p218 : 0 ≤ (x8_2 : Int) := of_decide_eq_true (by first | (with_reducible assumption) | assumption)
                          have q218 : x8_2 < (l1.length : Int) := of_decide_eq_true (by first | (with_reducible assumption) | assumption)
                          obtain ⟨ad218, e218, hx218_0, hx218_1⟩ := at_T38 HR1.out x8_2 p218 q218
                          obtain rfl : ad217 = ad218 := (by injection e218)
                          replace p218 := eq_true p218
                          replace q218 := eq_true q218
                          go_wp2
                          go_ret
                          exact ⟨by first | rfl | (simp; done) | (simp [*]; done), by repeat (first | exact Drawn0.refl _ | apply Drawn0.step)⟩
                        · rw [if_neg c13] at H
                          have c13b0 : decide (((rd_T38 l1 x8_2).f0) < 1) = false := decide_eq_false c13
                          clear c13
                          by_cases c14 : ((rd_T38 l1 x8_2).f0) > 524288
                          · rw [if_pos c14] at H
                            have c14b0 : decide (524288 < ((rd_T38 l1 x8_2).f0)) = true := decide_eq_true c14
                            clear c14
                            obtain rfl := Option.some.inj H
                            have p217 : 0 ≤ (x8_2 : Int) := of_decide_eq_true (by first | (with_reducible assumption) | assumption)
                            have q217 : x8_2 < (l1.length : Int) := of_decide_eq_true (by first | (with_reducible assumption) | assumption)
                            obtain ⟨ad217, e217, hx217_0, hx217_1⟩ := at_T38 HR1.out x8_2 p217 q217
                            cases e217
                            replace p217 := eq_true p217
                            replace q217 := eq_true q217
                            have p218 : 0 ≤ (x8_2 : Int) := of_decide_eq_true (by first | (with_reducible assumption) | assumption)
                            have q218 : x8_2 < (l1.length : Int) := of_decide_eq_true (by first | (with_reducible assumption) | assumption)
                            obtain ⟨ad218, e218, hx218_0, hx218_1⟩ := at_T38 HR1.out x8_2 p218 q218
                            obtain rfl : ad217 = ad218 := (by injection e218)
                            replace p218 := eq_true p218
                            replace q218 := eq_true q218
                            have p219 : 0 ≤ (x8_2 : Int) := of_decide_eq_true (by first | (with_reducible assumption) | assumption)
                            have q219 : x8_2 < (l1.length : Int) := of_decide_eq_true (by first | (with_reducible assumption) | assumption)
                            obtain ⟨ad219, e219, hx219_0, hx219_1⟩ := at_T38 HR1.out x8_2 p219 q219
                            obtain rfl : ad217 = ad219 := (by injection e219)
                            replace p219 := eq_true p219
                            replace q219 := eq_true q219
                            go_wp2
                            go_ret
                            exact ⟨by first | rfl | (simp; done) | (simp [*]; done), by repeat (first | exact Drawn0.refl _ | apply Drawn0.step)⟩
                          · rw [if_neg c14] at H
                            have c14b0 : decide (524288 < ((rd_T38 l1 x8_2).f0)) = false := decide_eq_false c14
                            clear c14
                            by_cases c15 : ((rd_T38 l1 x8_2).f1) < 1
                            · rw [if_pos c15] at H
                              have c15b0 : decide (((rd_T38 l1 x8_2).f1) < 1) = true := decide_eq_true c15
                              clear c15
                              obtain rfl := Option.some.inj H
                              have p217 : 0 ≤ (x8_2 : Int) := of_decide_eq_true (by first | (with_reducible assumption) | assumption)
                              have q217 : x8_2 < (l1.length : Int) := of_decide_eq_true (by first | (with_reducible assumption) | assumption)
                              obtain ⟨ad217, e217, hx217_0, hx217_1⟩ := at_T38 HR1.out x8_2 p217 q217
                              cases e217
                              replace p217 := eq_true p217
                              replace q217 := eq_true q217
                              have p218 : 0 ≤ (x8_2 : Int) := of_decide_eq_true (by first | (with_reducible assumption) | assumption)
                              have q218 : x8_2 < (l1.length : Int) := of_decide_eq_true (by first | (with_reducible assumption) | assumption)
                              obtain ⟨ad218, e218, hx218_0, hx218_1⟩ := at_T38 HR1.out x8_2 p218 q218
                              obtain rfl : ad217 = ad218 := (by injection e218)
                              replace p218 := eq_true p218
                              replace q218 := eq_true q218
                              have p219 : 0 ≤ (x8_2 : Int) := of_decide_eq_true (by first | (with_reducible assumption) | assumption)
                              have q219 : x8_2 < (l1.length : Int) := of_decide_eq_true (by first | (with_reducible assumption) | assumption)
                              obtain ⟨ad219, e219, hx219_0, hx219_1⟩ := at_T38 HR1.out x8_2 p219 q219
                              obtain rfl : ad217 = ad219 := (by injection e219)
                              replace p219 := eq_true p219
                              replace q219 := eq_true q219
                              have p220 : 0 ≤ (x8_2 : Int) := of_decide_eq_true (by first | (with_reducible assumption) | assumption)
                              have q220 : x8_2 < (l1.length : Int) := of_decide_eq_true (by first | (with_reducible assumption) | assumption)
                              obtain ⟨ad220, e220, hx220_0, hx220_1⟩ := at_T38 HR1.out x8_2 p220 q220
                              obtain rfl : ad217 = ad220 := (by injection e220)
                              replace p220 := eq_true p220
                              replace q220 := eq_true q220
                              go_wp2
                              go_ret
                              exact ⟨by first | rfl | (simp; done) | (simp [*]; done), by repeat (first | exact Drawn0.refl _ | apply Drawn0.step)⟩
                            · rw [if_neg c15] at H
                              have c15b0 : decide (((rd_T38 l1 x8_2).f1) < 1) = false := decide_eq_false c15
                              clear c15
                              by_cases c16 : ((rd_T38 l1 x8_2).f1) > x7_2
                              · rw [if_pos c16] at H
                                have c16b0 : decide (x7_2 < ((rd_T38 l1 x8_2).f1)) = true := decide_eq_true c16
                                clear c16
                                obtain rfl := Option.some.inj H
                                have p217 : 0 ≤ (x8_2 : Int) := of_decide_eq_true (by first | (with_reducible assumption) | assumption)
                                have q217 : x8_2 < (l1.length : Int) := of_decide_eq_true (by first | (with_reducible assumption) | assumption)
                                obtain ⟨ad217, e217, hx217_0, hx217_1⟩ := at_T38 HR1.out x8_2 p217 q217
                                cases e217
                                replace p217 := eq_true p217
                                replace q217 := eq_true q217
                                have p218 : 0 ≤ (x8_2 : Int) := of_decide_eq_true (by first | (with_reducible assumption) | assumption)
                                have q218 : x8_2 < (l1.length : Int) := of_decide_eq_true (by first | (with_reducible assumption) | assumption)
                                obtain ⟨ad218, e218, hx218_0, hx218_1⟩ := at_T38 HR1.out x8_2 p218 q218
                                obtain rfl : ad217 = ad218 := (by injection e218)
                                replace p218 := eq_true p218
                                replace q218 := eq_true q218
                                have p219 : 0 ≤ (x8_2 : Int) := of_decide_eq_true (by first | (with_reducible assumption) | assumption)
                                have q219 : x8_2 < (l1.length : Int) := of_decide_eq_true (by first | (with_reducible assumption) | assumption)
                                obtain ⟨ad219, e219, hx219_0, hx219_1⟩ := at_T38 HR1.out x8_2 p219 q219
                                obtain rfl : ad217 = ad219 := (by injection e219)
                                replace p219 := eq_true p219
                                replace q219 := eq_true q219
                                have p220 : 0 ≤ (x8_2 : Int) := of_decide_eq_true (by first | (with_reducible assumption) | assumption)
                                have q220 : x8_2 < (l1.length : Int) := of_decide_eq_true (by first | (with_reducible assumption) | assumption)
                                obtain ⟨ad220, e220, hx220_0, hx220_1⟩ := at_T38 HR1.out x8_2 p220 q220
                                obtain rfl : ad217 = ad220 := (by injection e220)
                                replace p220 := eq_true p220
                                replace q220 := eq_true q220
                                have p221 : 0 ≤ (x8_2 : Int) := of_decide_eq_true (by first | (with_reducible assumption) | assumption)
                                have q221 : x8_2 < (l1.length : Int) := of_decide_eq_true (by first | (with_reducible assumption) | assumption)
                                obtain ⟨ad221, e221, hx221_0, hx221_1⟩ := at_T38 HR1.out x8_2 p221 q221
                                obtain rfl : ad217 = ad221 := (by injection e221)
                                replace p221 := eq_true p221
                                replace q221 := eq_true q221
                                go_wp2
                                go_ret
                                exact ⟨by first | rfl | (simp; done) | (simp [*]; done), by repeat (first | exact Drawn0.refl _ | apply Drawn0.step)⟩
                              · rw [if_neg c16] at H
                                have c16b0 : decide (x7_2 < ((rd_T38 l1 x8_2).f1)) = false := decide_eq_false c16
                                clear c16
                                have H' := Aside0.mk H
                                clear H
                                have p217 : 0 ≤ (x8_2 : Int) := of_decide_eq_true (by first | (with_reducible assumption) | assumption)
                                have q217 : x8_2 < (l1.length : Int) := of_decide_eq_true (by first | (with_reducible assumption) | assumption)
                                obtain ⟨ad217, e217, hx217_0, hx217_1⟩ := at_T38 HR1.out x8_2 p217 q217
                                cases e217
                                replace p217 := eq_true p217
                                replace q217 := eq_true q217
                                have p218 : 0 ≤ (x8_2 : Int) := of_decide_eq_true (by first | (with_reducible assumption) | assumption)
                                have q218 : x8_2 < (l1.length : Int) := of_decide_eq_true (by first | (with_reducible assumption) | assumption)
                                obtain ⟨ad218, e218, hx218_0, hx218_1⟩ := at_T38 HR1.out x8_2 p218 q218
                                obtain rfl : ad217 = ad218 := (by injection e218)
                                replace p218 := eq_true p218
                                replace q218 := eq_true q218
                                have p219 : 0 ≤ (x8_2 : Int) := of_decide_eq_true (by first | (with_reducible assumption) | assumption)
                                have q219 : x8_2 < (l1.length : Int) := of_decide_eq_true (by first | (with_reducible assumption) | assumption)
                                obtain ⟨ad219, e219, hx219_0, hx219_1⟩ := at_T38 HR1.out x8_2 p219 q219
                                obtain rfl : ad217 = ad219 := (by injection e219)
                                replace p219 := eq_true p219
                                replace q219 := eq_true q219
                                have p220 : 0 ≤ (x8_2 : Int) := of_decide_eq_true (by first | (with_reducible assumption) | assumption)
                                have q220 : x8_2 < (l1.length : Int) := of_decide_eq_true (by first | (with_reducible assumption) | assumption)
                                obtain ⟨ad220, e220, hx220_0, hx220_1⟩ := at_T38 HR1.out x8_2 p220 q220
                                obtain rfl : ad217 = ad220 := (by injection e220)
                                replace p220 := eq_true p220
                                replace q220 := eq_true q220
                                have p221 : 0 ≤ (x8_2 : Int) := of_decide_eq_true (by first | (with_reducible assumption) | assumption)
                                have q221 : x8_2 < (l1.length : Int) := of_decide_eq_true (by first | (with_reducible assumption) | assumption)
                                obtain ⟨ad221, e221, hx221_0, hx221_1⟩ := at_T38 HR1.out x8_2 p221 q221
                                obtain rfl : ad217 = ad221 := (by injection e221)
                                replace p221 := eq_true p221
                                replace q221 := eq_true q221
                                have p222 : 0 ≤ (x8_2 : Int) := of_decide_eq_true (by first | (with_reducible assumption) | assumption)
                                have q222 : x8_2 < (l1.length : Int) := of_decide_eq_true (by first | (with_reducible assumption) | assumption)
                                obtain ⟨ad222, e222, hx222_0, hx222_1⟩ := at_T38 HR1.out x8_2 p222 q222
                                obtain rfl : ad217 = ad222 := (by injection e222)
                                replace p222 := eq_true p222
                                replace q222 := eq_true q222
                                go_wp2
                                go_roundg k2
                                case measure => have := HJ4.out; have := HK2.out; omega
                                case rel => exact ⟨(wrap64 (x7_2 - ((rd_T38 l1 x8_2).f1))), (wrap64 (x8_2 + 1)), (by first | rfl | (simp; done) | (simp [*]; done)), (by first | rfl | (simp; done) | (simp [*]; done)), H', ⟨by have := HJ4.out; have := HK2.out; omega⟩, by repeat (first | exact Drawn0.refl _ | apply Drawn0.step)⟩
                      · rw [if_neg c12] at H
                        have c12b0 : decide (0 < x8_2) = false := decide_eq_false c12
                        clear c12
                        by_cases c17 : ((rd_T38 l1 x8_2).f1) < 1
                        · rw [if_pos c17] at H
                          have c17b0 : decide (((rd_T38 l1 x8_2).f1) < 1) = true := decide_eq_true c17
                          clear c17
                          obtain rfl := Option.some.inj H
                          have p217 : 0 ≤ (x8_2 : Int) := of_decide_eq_true (by first | (with_reducible assumption) | assumption)
                          have q217 : x8_2 < (l1.length : Int) := of_decide_eq_true (by first | (with_reducible assumption) | assumption)
                          obtain ⟨ad217, e217, hx217_0, hx217_1⟩ := at_T38 HR1.out x8_2 p217 q217
                          cases e217
                          replace p217 := eq_true p217
                          replace q217 := eq_true q217
                          have p223 : 0 ≤ (x8_2 : Int) := of_decide_eq_true (by first | (with_reducible assumption) | assumption)
                          have q223 : x8_2 < (l1.length : Int) := of_decide_eq_true (by first | (with_reducible assumption) | assumption)
                          obtain ⟨ad223, e223, hx223_0, hx223_1⟩ := at_T38 HR1.out x8_2 p223 q223
                          obtain rfl : ad217 = ad223 := (by injection e223)
                          replace p223 := eq_true p223
                          replace q223 := eq_true q223
                          go_wp2
                          go_ret
                          exact ⟨by first | rfl | (simp; done) | (simp [*]; done), by repeat (first | exact Drawn0.refl _ | apply Drawn0.step)⟩
                        · rw [if_neg c17] at H
                          have c17b0 : decide (((rd_T38 l1 x8_2).f1) < 1) = false := decide_eq_false c17
                          clear c17
                          by_cases c18 : ((rd_T38 l1 x8_2).f1) > x7_2
                          · rw [if_pos c18] at H
                            have c18b0 : decide (x7_2 < ((rd_T38 l1 x8_2).f1)) = true := decide_eq_true c18
                            clear c18
                            obtain rfl := Option.some.inj H
                            have p217 : 0 ≤ (x8_2 : Int) := of_decide_eq_true (by first | (with_reducible assumption) | assumption)
                            have q217 : x8_2 < (l1.length : Int) := of_decide_eq_true (by first | (with_reducible assumption) | assumption)
                            obtain ⟨ad217, e217, hx217_0, hx217_1⟩ := at_T38 HR1.out x8_2 p217 q217
                            cases e217
                            replace p217 := eq_true p217
                            replace q217 := eq_true q217
                            have p223 : 0 ≤ (x8_2 : Int) := of_decide_eq_true (by first | (with_reducible assumption) | assumption)
                            have q223 : x8_2 < (l1.length : Int) := of_decide_eq_true (by first | (with_reducible assumption) | assumption)
                            obtain ⟨ad223, e223, hx223_0, hx223_1⟩ := at_T38 HR1.out x8_2 p223 q223
                            obtain rfl : ad217 = ad223 := (by injection e223)
                            replace p223 := eq_true p223
                            replace q223 := eq_true q223
                            have p224 : 0 ≤ (x8_2 : Int) := of_decide_eq_true (by first | (with_reducible assumption) | assumption)
                            have q224 : x8_2 < (l1.length : Int) := of_decide_eq_true (by first | (with_reducible assumption) | assumption)
                            obtain ⟨ad224, e224, hx224_0, hx224_1⟩ := at_T38 HR1.out x8_2 p224 q224
                            obtain rfl : ad217 = ad224 := (by injection e224)
                            replace p224 := eq_true p224
                            replace q224 := eq_true q224
                            go_wp2
                            go_ret
                            exact ⟨by first | rfl | (simp; done) | (simp [*]; done), by repeat (first | exact Drawn0.refl _ | apply Drawn0.step)⟩
                          · rw [if_neg c18] at H
                            have c18b0 : decide (x7_2 < ((rd_T38 l1 x8_2).f1)) = false := decide_eq_false c18
                            clear c18
                            have H' := Aside0.mk H
                            clear H
                            have p217 : 0 ≤ (x8_2 : Int) := of_decide_eq_true (by first | (with_reducible assumption) | assumption)
                            have q217 : x8_2 < (l1.length : Int) := of_decide_eq_true (by first | (with_reducible assumption) | assumption)
                            obtain ⟨ad217, e217, hx217_0, hx217_1⟩ := at_T38 HR1.out x8_2 p217 q217
                            cases e217
                            replace p217 := eq_true p217
                            replace q217 := eq_true q217
                            have p223 : 0 ≤ (x8_2 : Int) := of_decide_eq_true (by first | (with_reducible assumption) | assumption)
                            have q223 : x8_2 < (l1.length : Int) := of_decide_eq_true (by first | (with_reducible assumption) | assumption)
                            obtain ⟨ad223, e223, hx223_0, hx223_1⟩ := at_T38 HR1.out x8_2 p223 q223
                            obtain rfl : ad217 = ad223 := (by injection e223)
                            replace p223 := eq_true p223
                            replace q223 := eq_true q223
                            have p224 : 0 ≤ (x8_2 : Int) := of_decide_eq_true (by first | (with_reducible assumption) | assumption)
                            have q224 : x8_2 < (l1.length : Int) := of_decide_eq_true (by first | (with_reducible assumption) | assumption)
                            obtain ⟨ad224, e224, hx224_0, hx224_1⟩ := at_T38 HR1.out x8_2 p224 q224
                            obtain rfl : ad217 = ad224 := (by injection e224)
                            replace p224 := eq_true p224
                            replace q224 := eq_true q224
                            have p225 : 0 ≤ (x8_2 : Int) := of_decide_eq_true (by first | (with_reducible assumption) | assumption)
                            have q225 : x8_2 < (l1.length : Int) := of_decide_eq_true (by first | (with_reducible assumption) | assumption)
                            obtain ⟨ad225, e225, hx225_0, hx225_1⟩ := at_T38 HR1.out x8_2 p225 q225
                            obtain rfl : ad217 = ad225 := (by injection e225)
                            replace p225 := eq_true p225
                            replace q225 := eq_true q225
                            go_wp2
                            go_roundg k2
                            case measure => have := HJ4.out; have := HK2.out; omega
                            case rel => exact ⟨(wrap64 (x7_2 - ((rd_T38 l1 x8_2).f1))), (wrap64 (x8_2 + 1)), (by first | rfl | (simp; done) | (simp [*]; done)), (by first | rfl | (simp; done) | (simp [*]; done)), H', ⟨by have := HJ4.out; have := HK2.out; omega⟩, by repeat (first | exact Drawn0.refl _ | apply Drawn0.step)⟩
                    · rw [if_neg c11] at H
                      have c11b0 : (((rd_T38 l1 x8_2).f0) == 0) = false := beq_eq_false_iff_ne.mpr c11
                      have c11b1 : (((rd_T38 l1 x8_2).f0) != 0) = true := bne_iff_ne.mpr c11
                      obtain rfl := Option.some.inj H
                      have p217 : 0 ≤ (x8_2 : Int) := of_decide_eq_true (by first | (with_reducible assumption) | assumption)
                      have q217 : x8_2 < (l1.length : Int) := of_decide_eq_true (by first | (with_reducible assumption) | assumption)
                      obtain ⟨ad217, e217, hx217_0, hx217_1⟩ := at_T38 HR1.out x8_2 p217 q217
                      cases e217
                      replace p217 := eq_true p217
                      replace q217 := eq_true q217
                      go_wp2
                      go_ret
                      exact ⟨by first | rfl | (simp; done) | (simp [*]; done), by repeat (first | exact Drawn0.refl _ | apply Drawn0.step)⟩
                  · rw [if_neg c10] at H
                    exact absurd H (by simp)
                · rw [if_neg c9] at H
                  have c9b0 : (x8_2 == 0) = false := beq_eq_false_iff_ne.mpr c9
                  have c9b1 : (x8_2 != 0) = true := bne_iff_ne.mpr c9
                  by_cases c19 : x8_2 > 0
                  · rw [if_pos c19] at H
                    have c19b0 : decide (0 < x8_2) = true := decide_eq_true c19
                    clear c19
                    by_cases c20 : 0 ≤ x8_2
                    · rw [if_pos c20] at H
                      have c20b0 : decide (0 ≤ x8_2) = true := decide_eq_true c20
                      clear c20
                      by_cases c21 : ((rd_T38 l1 x8_2).f0) < 1
                      · rw [if_pos c21] at H
                        have c21b0 : decide (((rd_T38 l1 x8_2).f0) < 1) = true := decide_eq_true c21
                        clear c21
                        obtain rfl := Option.some.inj H
                        have p226 : 0 ≤ (x8_2 : Int) := of_decide_eq_true (by first | (with_reducible assumption) | assumption)
                        have q226 : x8_2 < (l1.length : Int) := of_decide_eq_true (by first | (with_reducible assumption) | assumption)
                        obtain ⟨ad226, e226, hx226_0, hx226_1⟩ := at_T38 HR1.out x8_2 p226 q226
                        cases e226
                        replace p226 := eq_true p226
                        replace q226 := eq_true q226
                        go_wp2
                        go_ret
                        exact ⟨by first | rfl | (simp; done) | (simp [*]; done), by repeat (first | exact Drawn0.refl _ | apply Drawn0.step)⟩
                      · rw [if_neg c21] at H
                        have c21b0 : decide (((rd_T38 l1 x8_2).f0) < 1) = false := decide_eq_false c21
                        clear c21
                        by_cases c22 : ((rd_T38 l1 x8_2).f0) > 524288
                        · rw [if_pos c22] at H
                          have c22b0 : decide (524288 < ((rd_T38 l1 x8_2).f0)) = true := decide_eq_true c22
                          clear c22
                          obtain rfl := Option.some.inj H
                          have p226 : 0 ≤ (x8_2 : Int) := of_decide_eq_true (by first | (with_reducible assumption) | assumption)
                          have q226 : x8_2 < (l1.length : Int) := of_decide_eq_true (by first | (with_reducible assumption) | assumption)
                          obtain ⟨ad226, e226, hx226_0, hx226_1⟩ := at_T38 HR1.out x8_2 p226 q226
                          cases e226
                          replace p226 := eq_true p226
                          replace q226 := eq_true q226
                          have p227 : 0 ≤ (x8_2 : Int) := of_decide_eq_true (by first | (with_reducible assumption) | assumption)
                          have q227 : x8_2 < (l1.length : Int) := of_decide_eq_true (by first | (with_reducible assumption) | assumption)
                          obtain ⟨ad227, e227, hx227_0, hx227_1⟩ := at_T38 HR1.out x8_2 p227 q227
                          obtain rfl : ad226 = ad227 := (by injection e227)
                          replace p227 := eq_true p227
                          replace q227 := eq_true q227
                          go_wp2
                          go_ret
                          exact ⟨by first | rfl | (simp; done) | (simp [*]; done), by repeat (first | exact Drawn0.refl _ | apply Drawn0.step)⟩
                        · rw [if_neg c22] at H
                          have c22b0 : decide (524288 < ((rd_T38 l1 x8_2).f0)) = false := decide_eq_false c22
                          clear c22
                          by_cases c23 : ((rd_T38 l1 x8_2).f1) < 1
                          · rw [if_pos c23] at H
                            have c23b0 : decide (((rd_T38 l1 x8_2).f1) < 1) = true := decide_eq_true c23
                            clear c23
                            obtain rfl := Option.some.inj H
                            have p226 : 0 ≤ (x8_2 : Int) := of_decide_eq_true (by first | (with_reducible assumption) | assumption)
                            have q226 : x8_2 < (l1.length : Int) := of_decide_eq_true (by first | (with_reducible assumption) | assumption)
                            obtain ⟨ad226, e226, hx226_0, hx226_1⟩ := at_T38 HR1.out x8_2 p226 q226
                            cases e226
                            replace p226 := eq_true p226
                            replace q226 := eq_true q226
                            have p227 : 0 ≤ (x8_2 : Int) := of_decide_eq_true (by first | (with_reducible assumption) | assumption)
                            have q227 : x8_2 < (l1.length : Int) := of_decide_eq_true (by first | (with_reducible assumption) | assumption)
                            obtain ⟨ad227, e227, hx227_0, hx227_1⟩ := at_T38 HR1.out x8_2 p227 q227
                            obtain rfl : ad226 = ad227 := (by injection e227)
                            replace p227 := eq_true p227
                            replace q227 := eq_true q227
                            have p228 : 0 ≤ (x8_2 : Int) := of_decide_eq_true (by first | (with_reducible assumption) | assumption)
                            have q228 : x8_2 < (l1.length : Int) := of_decide_eq_true (by first | (with_reducible assumption) | assumption)
                            obtain ⟨ad228, e228, hx228_0, hx228_1⟩ := at_T38 HR1.out x8_2 p228 q228
                            obtain rfl : ad226 = ad228 := (by injection e228)
                            replace p228 := eq_true p228
                            replace q228 := eq_true q228
                            go_wp2
                            go_ret
                            exact ⟨by first | rfl | (simp; done) | (simp [*]; done), by repeat (first | exact Drawn0.refl _ | apply Drawn0.step)⟩
                          · rw [if_neg c23] at H
                            have c23b0 : decide (((rd_T38 l1 x8_2).f1) < 1) = false := decide_eq_false c23
                            clear c23
                            by_cases c24 : ((rd_T38 l1 x8_2).f1) > x7_2
                            · rw [if_pos c24] at H
                              have c24b0 : decide (x7_2 < ((rd_T38 l1 x8_2).f1)) = true := decide_eq_true c24
                              clear c24
                              obtain rfl := Option.some.inj H
                              have p226 : 0 ≤ (x8_2 : Int) := of_decide_eq_true (by first | (with_reducible assumption) | assumption)
                              have q226 : x8_2 < (l1.length : Int) := of_decide_eq_true (by first | (with_reducible assumption) | assumption)
                              obtain ⟨ad226, e226, hx226_0, hx226_1⟩ := at_T38 HR1.out x8_2 p226 q226
                              cases e226
                              replace p226 := eq_true p226
                              replace q226 := eq_true q226
                              have p227 : 0 ≤ (x8_2 : Int) := of_decide_eq_true (by first | (with_reducible assumption) | assumption)
                              have q227 : x8_2 < (l1.length : Int) := of_decide_eq_true (by first | (with_reducible assumption) | assumption)
                              obtain ⟨ad227, e227, hx227_0, hx227_1⟩ := at_T38 HR1.out x8_2 p227 q227
                              obtain rfl : ad226 = ad227 := (by injection e227)
                              replace p227 := eq_true p227
                              replace q227 := eq_true q227
                              have p228 : 0 ≤ (x8_2 : Int) := of_decide_eq_true (by first | (with_reducible assumption) | assumption)
                              have q228 : x8_2 < (l1.length : Int) := of_decide_eq_true (by first | (with_reducible assumption) | assumption)
                              obtain ⟨ad228, e228, hx228_0, hx228_1⟩ := at_T38 HR1.out x8_2 p228 q228
                              obtain rfl : ad226 = ad228 := (by injection e228)
                              replace p228 := eq_true p228
                              replace q228 := eq_true q228
                              have p229 : 0 ≤ (x8_2 : Int) := of_decide_eq_true (by first | (with_reducible assumption) | assumption)
                              have q229 : x8_2 < (l1.length : Int) := of_decide_eq_true (by first | (with_reducible assumption) | assumption)
                              obtain ⟨ad229, e229, hx229_0, hx229_1⟩ := at_T38 HR1.out x8_2 p229 q229
                              obtain rfl : ad226 = ad229 := (by injection e229)
                              replace p229 := eq_true p229
                              replace q229 := eq_true q229
                              go_wp2
                              go_ret
                              exact ⟨by first | rfl | (simp; done) | (simp [*]; done), by repeat (first | exact Drawn0.refl _ | apply Drawn0.step)⟩
                            · rw [if_neg c24] at H
                              have c24b0 : decide (x7_2 < ((rd_T38 l1 x8_2).f1)) = false := decide_eq_false c24
                              clear c24
                              have H' := Aside0.mk H
                              clear H
                              have p226 : 0 ≤ (x8_2 : Int) := of_decide_eq_true (by first | (with_reducible assumption) | assumption)
                              have q226 : x8_2 < (l1.length : Int) := of_decide_eq_true (by first | (with_reducible assumption) | assumption)
                              obtain ⟨ad226, e226, hx226_0, hx226_1⟩ := at_T38 HR1.out x8_2 p226 q226
                              cases e226
                              replace p226 := eq_true p226
                              replace q226 := eq_true q226
                              have p227 : 0 ≤ (x8_2 : Int) := of_decide_eq_true (by first | (with_reducible assumption) | assumption)
                              have q227 : x8_2 < (l1.length : Int) := of_decide_eq_true (by first | (with_reducible assumption) | assumption)
                              obtain ⟨ad227, e227, hx227_0, hx227_1⟩ := at_T38 HR1.out x8_2 p227 q227
                              obtain rfl : ad226 = ad227 := (by injection e227)
                              replace p227 := eq_true p227
                              replace q227 := eq_true q227
                              have p228 : 0 ≤ (x8_2 : Int) := of_decide_eq_true (by first | (with_reducible assumption) | assumption)
                              have q228 : x8_2 < (l1.length : Int) := of_decide_eq_true (by first | (with_reducible assumption) | assumption)
                              obtain ⟨ad228, e228, hx228_0, hx228_1⟩ := at_T38 HR1.out x8_2 p228 q228
                              obtain rfl : ad226 = ad228 := (by injection e228)
                              replace p228 := eq_true p228
                              replace q228 := eq_true q228
                              have p229 : 0 ≤ (x8_2 : Int) := of_decide_eq_true (by first | (with_reducible assumption) | assumption)
                              have q229 : x8_2 < (l1.length : Int) := of_decide_eq_true (by first | (with_reducible assumption) | assumption)
                              obtain ⟨ad229, e229, hx229_0, hx229_1⟩ := at_T38 HR1.out x8_2 p229 q229
                              obtain rfl : ad226 = ad229 := (by injection e229)
                              replace p229 := eq_true p229
                              replace q229 := eq_true q229
                              have p230 : 0 ≤ (x8_2 : Int) := of_decide_eq_true (by first | (with_reducible assumption) | assumption)
                              have q230 : x8_2 < (l1.length : Int) := of_decide_eq_true (by first | (with_reducible assumption) | assumption)
                              obtain ⟨ad230, e230, hx230_0, hx230_1⟩ := at_T38 HR1.out x8_2 p230 q230
                              obtain rfl : ad226 = ad230 := (by injection e230)
                              replace p230 := eq_true p230
                              replace q230 := eq_true q230
                              go_wp2
                              go_roundg k2
                              case measure => have := HJ4.out; have := HK2.out; omega
                              case rel => exact ⟨(wrap64 (x7_2 - ((rd_T38 l1 x8_2).f1))), (wrap64 (x8_2 + 1)), (by first | rfl | (simp; done) | (simp [*]; done)), (by first | rfl | (simp; done) | (simp [*]; done)), H', ⟨by have := HJ4.out; have := HK2.out; omega⟩, by repeat (first | exact Drawn0.refl _ | apply Drawn0.step)⟩
                    · rw [if_neg c20] at H
                      exact absurd H (by simp)
                  · rw [if_neg c19] at H
                    have c19b0 : decide (0 < x8_2) = false := decide_eq_false c19
                    clear c19
                    by_cases c25 : 0 ≤ x8_2
                    · rw [if_pos c25] at H
                      have c25b0 : decide (0 ≤ x8_2) = true := decide_eq_true c25
                      clear c25
                      by_cases c26 : ((rd_T38 l1 x8_2).f1) < 1
                      · rw [if_pos c26] at H
                        have c26b0 : decide (((rd_T38 l1 x8_2).f1) < 1) = true := decide_eq_true c26
                        clear c26
                        obtain rfl := Option.some.inj H
                        have p231 : 0 ≤ (x8_2 : Int) := of_decide_eq_true (by first | (with_reducible assumption) | assumption)
                        have q231 : x8_2 < (l1.length : Int) := of_decide_eq_true (by first | (with_reducible assumption) | assumption)
                        obtain ⟨ad231, e231, hx231_0, hx231_1⟩ := at_T38 HR1.out x8_2 p231 q231
                        cases e231
                        replace p231 := eq_true p231
                        replace q231 := eq_true q231
                        go_wp2
                        go_ret
                        exact ⟨by first | rfl | (simp; done) | (simp [*]; done), by repeat (first | exact Drawn0.refl _ | apply Drawn0.step)⟩
                      · rw [if_neg c26] at H
                        have c26b0 : decide (((rd_T38 l1 x8_2).f1) < 1) = false := decide_eq_false c26
                        clear c26
                        by_cases c27 : ((rd_T38 l1 x8_2).f1) > x7_2
                        · rw [if_pos c27] at H
                          have c27b0 : decide (x7_2 < ((rd_T38 l1 x8_2).f1)) = true := decide_eq_true c27
                          clear c27
                          obtain rfl := Option.some.inj H
                          have p231 : 0 ≤ (x8_2 : Int) := of_decide_eq_true (by first | (with_reducible assumption) | assumption)
                          have q231 : x8_2 < (l1.length : Int) := of_decide_eq_true (by first | (with_reducible assumption) | assumption)
                          obtain ⟨ad231, e231, hx231_0, hx231_1⟩ := at_T38 HR1.out x8_2 p231 q231
                          cases e231
                          replace p231 := eq_true p231
                          replace q231 := eq_true q231
                          have p232 : 0 ≤ (x8_2 : Int) := of_decide_eq_true (by first | (with_reducible assumption) | assumption)
                          have q232 : x8_2 < (l1.length : Int) := of_decide_eq_true (by first | (with_reducible assumption) | assumption)
                          obtain ⟨ad232, e232, hx232_0, hx232_1⟩ := at_T38 HR1.out x8_2 p232 q232
                          obtain rfl : ad231 = ad232 := (by injection e232)
                          replace p232 := eq_true p232
                          replace q232 := eq_true q232
                          go_wp2
                          go_ret
                          exact ⟨by first | rfl | (simp; done) | (simp [*]; done), by repeat (first | exact Drawn0.refl _ | apply Drawn0.step)⟩
                        · rw [if_neg c27] at H
                          have c27b0 : decide (x7_2 < ((rd_T38 l1 x8_2).f1)) = false := decide_eq_false c27
                          clear c27
                          have H' := Aside0.mk H
                          clear H
                          have p231 : 0 ≤ (x8_2 : Int) := of_decide_eq_true (by first | (with_reducible assumption) | assumption)
                          have q231 : x8_2 < (l1.length : Int) := of_decide_eq_true (by first | (with_reducible assumption) | assumption)
                          obtain ⟨ad231, e231, hx231_0, hx231_1⟩ := at_T38 HR1.out x8_2 p231 q231
                          cases e231
                          replace p231 := eq_true p231
                          replace q231 := eq_true q231
                          have p232 : 0 ≤ (x8_2 : Int) := of_decide_eq_true (by first | (with_reducible assumption) | assumption)
                          have q232 : x8_2 < (l1.length : Int) := of_decide_eq_true (by first | (with_reducible assumption) | assumption)
                          obtain ⟨ad232, e232, hx232_0, hx232_1⟩ := at_T38 HR1.out x8_2 p232 q232
                          obtain rfl : ad231 = ad232 := (by injection e232)
                          replace p232 := eq_true p232
                          replace q232 := eq_true q232
                          have p233 : 0 ≤ (x8_2 : Int) := of_decide_eq_true (by first | (with_reducible assumption) | assumption)
                          have q233 : x8_2 < (l1.length : Int) := of_decide_eq_true (by first | (with_reducible assumption) | assumption)
                          obtain ⟨ad233, e233, hx233_0, hx233_1⟩ := at_T38 HR1.out x8_2 p233 q233
                          obtain rfl : ad231 = ad233 := (by injection e233)
                          replace p233 := eq_true p233
                          replace q233 := eq_true q233
                          go_wp2
                          go_roundg k2
                          case measure => have := HJ4.out; have := HK2.out; omega
                          case rel => exact ⟨(wrap64 (x7_2 - ((rd_T38 l1 x8_2).f1))), (wrap64 (x8_2 + 1)), (by first | rfl | (simp; done) | (simp [*]; done)), (by first | rfl | (simp; done) | (simp [*]; done)), H', ⟨by have := HJ4.out; have := HK2.out; omega⟩, by repeat (first | exact Drawn0.refl _ | apply Drawn0.step)⟩
                    · rw [if_neg c25] at H
                      exact absurd H (by simp)
              · rw [if_neg c8] at H
                have c8b0 : decide (x8_2 < (l1.length : Int)) = false := decide_eq_false c8
                clear c8
                obtain rfl := Option.some.inj H
                go_wp2
                go_ret
                exact ⟨by first | rfl | (simp; done) | (simp [*]; done), by repeat (first | exact Drawn0.refl _ | apply Drawn0.step)⟩

/-! ### bits_Reader_Left: function 23 -/
def bits_Reader_Left.f (s0_0 : List Int) (s0_1 : Int) (s0_2 : Int) : Option (Int × Int × Int) := some (wrap64 ((wrap64 (8 * (s0_0.length : Int))) - s0_1), s0_1, s0_2)
set_option maxHeartbeats 8000000 in
set_option maxRecDepth 100000 in
theorem bits_Reader_Left.calls (g : Nat) (s0_0 : List Int) (s0_1 : Int) (s0_2 : Int) (r1 : Int) (r2 : Int) (r3 : Int) (w0 w : World) (hI : IsS60 w0 w g s0_0 s0_1 s0_2) (hB : Below w0.heap.size w0 w) (h : bits_Reader_Left.f s0_0 s0_1 s0_2 = some (r1, r2, r3)) :
    Calls Try.prog 23 #[.pointer (some ⟨g, 0, none⟩)] w fun e w' => e = .returned (.int .i64 r1) ∧ IsS60 w0 w' g s0_0 r2 r3 ∧ Below w0.heap.size w0 w' ∧ KeepBut w w' g none := by
  have HI0 := Aside0.mk hI
  have HK := Aside0.mk (KeepBut.refl w g none)
  have HL := Aside0.mk hB.size
  clear hI
  have HW0 := Aside0.mk hB.size
  have HB := Aside0.mk hB
  clear hB
  have H : (some (wrap64 ((wrap64 (8 * (s0_0.length : Int))) - s0_1), s0_1, s0_2)) = some (r1, r2, r3) := h
  clear h
  simp only [Option.some.injEq, Prod.mk.injEq] at H
  obtain ⟨rfl, rfl, rfl⟩ := H
  obtain ⟨ASz2_0, cSz2_0, HGz2, hgz2, HSz2_0⟩ := HI0.out
  have hcz2_0 := cellS60_0 HGz2
  have hcz2_1 := cellS60_1 HGz2
  have hcz2_2 := cellS60_2 HGz2
  have hfz2_1 := blk_frozen HGz2 1
  have hfz2_2 := blk_frozen HGz2 2
  clear HGz2 hgz2
  go_enter Try.func23, Try.ntmps23
  go_wp2
  repeat (go_quiet (fail); try go_wp2)
  go_ret
  exact ⟨by first | rfl | (simp [errW_none, errW_some] <;> rfl) | (simp [*, errW_none, errW_some] <;> rfl), by repeat (first | (with_reducible first | exact HI0.out | apply IsS60.alloc | apply IsS60.drewN | apply IsS60.drew | apply IsS60.set_1 | apply IsS60.set_2) | exact HI0.out), by repeat (first | (with_reducible first | exact HB.out | apply below_alloc | apply pw_below_drewN | apply below_drew1 | refine below_set ?_ (IsS60.ge HI0.out)) | exact HB.out), by repeat (first | (with_reducible first | exact HK.out | apply KeepBut.set_ | apply keep_drewN | apply keep_drew | apply keep_alloc) | exact HK.out)⟩

end Go.Proofs.Ytpdhcgicnhgfoaa.QSpanTakes
