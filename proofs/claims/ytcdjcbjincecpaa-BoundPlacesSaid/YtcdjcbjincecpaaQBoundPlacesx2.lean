-- Written by a program of the session (wip/xprint.sh, wip/xpatch.py; a variant of the print) out of the translation. Lean checks it.
import Derived.Test.YtcdjcbjincecpaaQBoundPlacesx0
import Derived.Test.YtcdjcbjincecpaaQBoundPlacesx1
namespace Go.Proofs.Ytcdjcbjincecpaa.QBoundPlaces
open Go.RowKit Go.Proofs.YtcdjcbjincecpaaW.PrintWords Go.Proofs.YtcdjcbjincecpaaW.PrintLast Go.Proofs.YtcdjcbjincecpaaW.PrintMore
attribute [local go_sem] max2_int min2_int max_two min_two max_three min_three max_four min_four   -- for this text's walks alone
set_option linter.unusedVariables false
set_option linter.unusedSimpArgs false

/-! ### pluvialref04_Of: function 17 -/
mutual
def pluvialref04_Of.j0 : Nat → Int → Int → Bool → Option (Int × Bool)
  | 0, _, _, _ => none
  | k + 1, x0, x1, x17 => if x17 = true then (some (0, false)) else ((pluvialref04_step.f k x0).bind fun t125 => (if t125 = 0 then (none) else (pluvialref04_Of.l0 k x0 x1 (wrap64 (Int.tdiv x1 t125)))))
def pluvialref04_Of.l0 : Nat → Int → Int → Int → Option (Int × Bool)
  | 0, _, _, _ => none
  | k + 1, x0, x1, x6 => (pluvialref04_Units.f k x0 x6).bind fun t126 => (if t126 < x1 then (pluvialref04_Of.l0 k x0 x1 (wrap64 (x6 + 1))) else (pluvialref04_Of.l1 k x0 x1 x6))
def pluvialref04_Of.l1 : Nat → Int → Int → Int → Option (Int × Bool)
  | 0, _, _, _ => none
  | k + 1, x0, x1, x6 => (pluvialref04_Units.f k x0 (wrap64 (x6 - 1))).bind fun t127 => (if t127 ≥ x1 then (pluvialref04_Of.l1 k x0 x1 (wrap64 (x6 - 1))) else (some (x6, true)))
end
def pluvialref04_Of.f (k : Nat) (a0 : Int) (a1 : Int) : Option (Int × Bool) := (pluvialref04_Right.f a0).bind fun t124 => (if t124 = true then (if a1 ≤ (-262144) then (pluvialref04_Of.j0 k a0 a1 true) else (pluvialref04_Of.j0 k a0 a1 (decide (a1 > 262144)))) else (pluvialref04_Of.j0 k a0 a1 true))
theorem pluvialref04_Of.mono_l : ∀ k, (∀ y0 y1 y2, LeO (pluvialref04_Of.j0 k y0 y1 y2) (pluvialref04_Of.j0 (k + 1) y0 y1 y2)) ∧ (∀ y0 y1 y2, LeO (pluvialref04_Of.l0 k y0 y1 y2) (pluvialref04_Of.l0 (k + 1) y0 y1 y2)) ∧ (∀ y0 y1 y2, LeO (pluvialref04_Of.l1 k y0 y1 y2) (pluvialref04_Of.l1 (k + 1) y0 y1 y2))
  | 0 => ⟨fun _ _ _ r h => by simp [pluvialref04_Of.j0] at h, fun _ _ _ r h => by simp [pluvialref04_Of.l0] at h, fun _ _ _ r h => by simp [pluvialref04_Of.l1] at h⟩
  | k + 1 => by
    obtain ⟨ih0, ih1, ih2⟩ := pluvialref04_Of.mono_l k
    refine ⟨?_, ?_, ?_⟩
    · intro y0 y1 y2
      unfold pluvialref04_Of.j0
      repeat' first
      | (with_reducible exact ih0 _ _ _)
      | (with_reducible exact ih1 _ _ _)
      | (with_reducible exact ih2 _ _ _)
      | (with_reducible exact pluvialref04_Units.mono _ _ _)
      | (with_reducible exact pluvialref04_step.mono _ _)
      | (with_reducible exact LeO.refl _)
      | (with_reducible exact LeO.none _)
      | (with_reducible refine LeO.ite ?_ ?_)
      | (with_reducible refine LeO.bind ?_ (fun _ => ?_))
      | exact ih0 _ _ _
      | exact ih1 _ _ _
      | exact ih2 _ _ _
      | exact pluvialref04_Units.mono _ _ _
      | exact pluvialref04_step.mono _ _
      | exact LeO.none _
      | refine LeO.ite ?_ ?_
      | refine LeO.bind ?_ (fun _ => ?_)
    · intro y0 y1 y2
      unfold pluvialref04_Of.l0
      repeat' first
      | (with_reducible exact ih0 _ _ _)
      | (with_reducible exact ih1 _ _ _)
      | (with_reducible exact ih2 _ _ _)
      | (with_reducible exact pluvialref04_Units.mono _ _ _)
      | (with_reducible exact pluvialref04_step.mono _ _)
      | (with_reducible exact LeO.refl _)
      | (with_reducible exact LeO.none _)
      | (with_reducible refine LeO.ite ?_ ?_)
      | (with_reducible refine LeO.bind ?_ (fun _ => ?_))
      | exact ih0 _ _ _
      | exact ih1 _ _ _
      | exact ih2 _ _ _
      | exact pluvialref04_Units.mono _ _ _
      | exact pluvialref04_step.mono _ _
      | exact LeO.none _
      | refine LeO.ite ?_ ?_
      | refine LeO.bind ?_ (fun _ => ?_)
    · intro y0 y1 y2
      unfold pluvialref04_Of.l1
      repeat' first
      | (with_reducible exact ih0 _ _ _)
      | (with_reducible exact ih1 _ _ _)
      | (with_reducible exact ih2 _ _ _)
      | (with_reducible exact pluvialref04_Units.mono _ _ _)
      | (with_reducible exact pluvialref04_step.mono _ _)
      | (with_reducible exact LeO.refl _)
      | (with_reducible exact LeO.none _)
      | (with_reducible refine LeO.ite ?_ ?_)
      | (with_reducible refine LeO.bind ?_ (fun _ => ?_))
      | exact ih0 _ _ _
      | exact ih1 _ _ _
      | exact ih2 _ _ _
      | exact pluvialref04_Units.mono _ _ _
      | exact pluvialref04_step.mono _ _
      | exact LeO.none _
      | refine LeO.ite ?_ ?_
      | refine LeO.bind ?_ (fun _ => ?_)
theorem pluvialref04_Of.mono : ∀ a0 a1 k, LeO (pluvialref04_Of.f k a0 a1) (pluvialref04_Of.f (k + 1) a0 a1) := by
  intro a0 a1 k
  obtain ⟨ih0, ih1, ih2⟩ := pluvialref04_Of.mono_l k
  unfold pluvialref04_Of.f
  repeat' first
      | (with_reducible exact ih0 _ _ _)
      | (with_reducible exact ih1 _ _ _)
      | (with_reducible exact ih2 _ _ _)
      | (with_reducible exact pluvialref04_Units.mono _ _ _)
      | (with_reducible exact pluvialref04_step.mono _ _)
      | (with_reducible exact LeO.refl _)
      | (with_reducible exact LeO.none _)
      | (with_reducible refine LeO.ite ?_ ?_)
      | (with_reducible refine LeO.bind ?_ (fun _ => ?_))
      | exact ih0 _ _ _
      | exact ih1 _ _ _
      | exact ih2 _ _ _
      | exact pluvialref04_Units.mono _ _ _
      | exact pluvialref04_step.mono _ _
      | exact LeO.none _
      | refine LeO.ite ?_ ?_
      | refine LeO.bind ?_ (fun _ => ?_)
set_option maxHeartbeats 8000000 in
set_option maxRecDepth 100000 in
theorem pluvialref04_Of.calls (k : Nat) (a0 : Int) (a1 : Int) (r1 : Int) (r2 : Bool) (w : World) (h : pluvialref04_Of.f k a0 a1 = some (r1, r2)) :
    Calls Try.prog 17 #[.int .i64 a0, .int .i64 a1] w fun e w' => e = .returned (.tuple #[.int .i64 r1, .bool r2]) ∧ Drawn0 w w' := by
  have H : ((pluvialref04_Right.f a0).bind fun t124 => (if t124 = true then (if a1 ≤ (-262144) then (pluvialref04_Of.j0 k a0 a1 true) else (pluvialref04_Of.j0 k a0 a1 (decide (a1 > 262144)))) else (pluvialref04_Of.j0 k a0 a1 true))) = some (r1, r2) := h
  clear h
  have HC3 := Aside0.mk H
  clear H
  go_enter Try.func17, Try.ntmps17
  go_upto_region 1 with (fail)
  go_cut [17] (fun v17 wc => ∃ (kq : Nat) (x17_2 : Bool), v17 = .bool x17_2 ∧ Aside0 (pluvialref04_Of.j0 kq a0 a1 x17_2 = some (r1, r2)) ∧ Aside0 (kq ≤ k) ∧ Drawn0 w wc)
  case first =>
    have H := HC3.out
    clear HC3
    replace H := Option.bind_eq_some_iff.mp H
    obtain ⟨t124, A40, H⟩ := H
    replace H : (if t124 = true then (if a1 ≤ (-262144) then (pluvialref04_Of.j0 k a0 a1 true) else (pluvialref04_Of.j0 k a0 a1 (decide (a1 > 262144)))) else (pluvialref04_Of.j0 k a0 a1 true)) = some (r1, r2) := H
    have A4 := Aside0.mk A40
    clear A40
    by_cases c5 : t124 = true
    · subst c5
      have H1 : (if a1 ≤ (-262144) then (pluvialref04_Of.j0 k a0 a1 true) else (pluvialref04_Of.j0 k a0 a1 (decide (a1 > 262144)))) = some (r1, r2) := by rw [if_pos rfl] at H; exact H
      clear H
      have H := H1
      clear H1
      by_cases c6 : a1 ≤ (-262144)
      · rw [if_pos c6] at H
        have c6b0 : decide (a1 ≤ (-262144)) = true := decide_eq_true c6
        clear c6
        (first | rw [c6b0] | (simp only [i64_w, i32_w]; rw [c6b0]) | skip)
        have H' := Aside0.mk H
        clear H
        go_wp2_with (first | (go_at_call 18; (with_reducible refine (pluvialref04_Right.calls a0 true _ A4.out).mono ?_); rintro e w' ⟨rfl, ⟨nd, rfl⟩⟩))
        go_meet
        case rel => exact ⟨_, (true), (by first | rfl | (simp; done) | (simp [*]; done)), H', ⟨by first | omega | exact Nat.le_refl _⟩, by repeat (first | exact Drawn0.refl _ | apply Drawn0.step)⟩
      · rw [if_neg c6] at H
        have c6b0 : decide (a1 ≤ (-262144)) = false := decide_eq_false c6
        clear c6
        (first | rw [c6b0] | (simp only [i64_w, i32_w]; rw [c6b0]) | skip)
        have H' := Aside0.mk H
        clear H
        go_wp2_with (first | (go_at_call 18; (with_reducible refine (pluvialref04_Right.calls a0 true _ A4.out).mono ?_); rintro e w' ⟨rfl, ⟨nd, rfl⟩⟩))
        go_meet
        case rel => exact ⟨_, (decide (a1 > 262144)), (by first | rfl | (simp; done) | (simp [*]; done)), H', ⟨by first | omega | exact Nat.le_refl _⟩, by repeat (first | exact Drawn0.refl _ | apply Drawn0.step)⟩
    · replace c5 := Bool.eq_false_iff.mpr c5
      subst c5
      have H1 : (pluvialref04_Of.j0 k a0 a1 true) = some (r1, r2) := by rw [if_neg (show ¬ (false = true) by decide)] at H; exact H
      clear H
      have H := H1
      clear H1
      have H' := Aside0.mk H
      clear H
      go_wp2_with (first | (go_at_call 18; (with_reducible refine (pluvialref04_Right.calls a0 false _ A4.out).mono ?_); rintro e w' ⟨rfl, ⟨nd, rfl⟩⟩))
      go_meet
      case rel => exact ⟨_, (true), (by first | rfl | (simp; done) | (simp [*]; done)), H', ⟨by first | omega | exact Nat.le_refl _⟩, by repeat (first | exact Drawn0.refl _ | apply Drawn0.step)⟩
  case rest =>
    clear HC3
    try clear c1
    try clear p2
    try clear c5
    try clear c6
    try clear c6b0
    obtain ⟨kq, x17_2, rfl, HA, HJ2, ⟨mc2, rfl⟩⟩ := hcut
    cases kq with
    | zero => exact absurd HA.out (by simp [pluvialref04_Of.j0])
    | succ kj2 =>
      have H := HA.out
      clear HA
      simp only [pluvialref04_Of.j0] at H
      by_cases c7 : x17_2 = true
      · subst c7
        have H1 : (some (0, false)) = some (r1, r2) := by rw [if_pos rfl] at H; exact H
        clear H
        have H := H1
        clear H1
        simp only [Option.some.injEq, Prod.mk.injEq] at H
        obtain ⟨rfl, rfl⟩ := H
        go_wp2
        go_ret2
        exact ⟨by first | rfl | (simp; done) | (simp [*]; done), by repeat (first | exact Drawn0.refl _ | apply Drawn0.step)⟩
      · replace c7 := Bool.eq_false_iff.mpr c7
        subst c7
        have H1 : ((pluvialref04_step.f kj2 a0).bind fun t125 => (if t125 = 0 then (none) else (pluvialref04_Of.l0 kj2 a0 a1 (wrap64 (Int.tdiv a1 t125))))) = some (r1, r2) := by rw [if_neg (show ¬ (false = true) by decide)] at H; exact H
        clear H
        have H := H1
        clear H1
        replace H := Option.bind_eq_some_iff.mp H
        obtain ⟨t125, A80, H⟩ := H
        replace H : (if t125 = 0 then (none) else (pluvialref04_Of.l0 kj2 a0 a1 (wrap64 (Int.tdiv a1 t125)))) = some (r1, r2) := H
        have A8 := Aside0.mk A80
        clear A80
        by_cases c9 : t125 = 0
        · rw [if_pos c9] at H
          exact absurd H (by simp)
        · rw [if_neg c9] at H
          have c9b0 : (t125 == 0) = false := beq_eq_false_iff_ne.mpr c9
          have c9b1 : (t125 != 0) = true := bne_iff_ne.mpr c9
          have H' := Aside0.mk H
          clear H
          go_wp2_with (first | (go_at_call 26; (with_reducible refine (pluvialref04_step.calls kj2 a0 t125 _ A8.out).mono ?_); rintro e w' ⟨rfl, ⟨nd, rfl⟩⟩))
          go_loopg [6] kj2 (fun kq v6 w' => ∃ (x6_2 : Int), v6 = .int .i64 x6_2 ∧ Aside0 (pluvialref04_Of.l0 kq a0 a1 x6_2 = some (r1, r2)) ∧ Aside0 (kq ≤ kj2) ∧ Drawn0 w w')
          case atStart => exact ⟨(wrap64 (Int.tdiv a1 t125)), (by first | rfl | (simp; done) | (simp [*]; done)), H', ⟨Nat.le_refl _⟩, by repeat (first | exact Drawn0.refl _ | apply Drawn0.step)⟩
          case round =>
            clear H'
            try clear c1
            try clear c2
            try clear p2
            try clear c5
            try clear c6
            try clear c6b0
            try clear p6
            try clear c7
            try clear c9
            try clear c9b0
            try clear c9b1
            try clear p2
            obtain ⟨x6_2, rfl, HA, HK2, ⟨m2, rfl⟩⟩ := hrel
            cases gk with
            | zero => exact absurd HA.out (by simp [pluvialref04_Of.l0])
            | succ k2 =>
              have H := HA.out
              clear HA
              simp only [pluvialref04_Of.l0] at H
              replace H := Option.bind_eq_some_iff.mp H
              obtain ⟨t126, A100, H⟩ := H
              replace H : (if t126 < a1 then (pluvialref04_Of.l0 k2 a0 a1 (wrap64 (x6_2 + 1))) else (pluvialref04_Of.l1 k2 a0 a1 x6_2)) = some (r1, r2) := H
              have A10 := Aside0.mk A100
              clear A100
              by_cases c11 : t126 < a1
              · rw [if_pos c11] at H
                have c11b0 : decide (t126 < a1) = true := decide_eq_true c11
                clear c11
                have H' := Aside0.mk H
                clear H
                go_wp2_with (first | (go_at_call 19; (with_reducible refine (pluvialref04_Units.calls k2 a0 x6_2 t126 _ A10.out).mono ?_); rintro e w' ⟨rfl, ⟨nd, rfl⟩⟩))
                go_roundg k2
                case measure => have := HJ2.out; have := HK2.out; omega
                case rel => exact ⟨(wrap64 (x6_2 + 1)), (by first | rfl | (simp; done) | (simp [*]; done)), H', ⟨by have := HJ2.out; have := HK2.out; omega⟩, by repeat (first | exact Drawn0.refl _ | apply Drawn0.step)⟩
              · rw [if_neg c11] at H
                have c11b0 : decide (t126 < a1) = false := decide_eq_false c11
                clear c11
                have H' := Aside0.mk H
                clear H
                go_wp2_with (first | (go_at_call 19; (with_reducible refine (pluvialref04_Units.calls k2 a0 x6_2 t126 _ A10.out).mono ?_); rintro e w' ⟨rfl, ⟨nd, rfl⟩⟩))
                go_loopg [6] k2 (fun kq v6 w' => ∃ (x6_3 : Int), v6 = .int .i64 x6_3 ∧ Aside0 (pluvialref04_Of.l1 kq a0 a1 x6_3 = some (r1, r2)) ∧ Aside0 (kq ≤ k2) ∧ Drawn0 w w')
                case atStart => exact ⟨(x6_2), (by first | rfl | (simp; done) | (simp [*]; done)), H', ⟨Nat.le_refl _⟩, by repeat (first | exact Drawn0.refl _ | apply Drawn0.step)⟩
                case round =>
                  clear H'
                  try clear c1
                  try clear c2
                  try clear p2
                  try clear c5
                  try clear c6
                  try clear c6b0
                  try clear p6
                  try clear c7
                  try clear c9
                  try clear c9b0
                  try clear c9b1
                  try clear c11
                  try clear c11b0
                  try clear p2
                  try clear p6
                  obtain ⟨x6_3, rfl, HA, HK3, ⟨m3, rfl⟩⟩ := hrel
                  cases gk with
                  | zero => exact absurd HA.out (by simp [pluvialref04_Of.l1])
                  | succ k3 =>
                    have H := HA.out
                    clear HA
                    simp only [pluvialref04_Of.l1] at H
                    replace H := Option.bind_eq_some_iff.mp H
                    obtain ⟨t127, A120, H⟩ := H
                    replace H : (if t127 ≥ a1 then (pluvialref04_Of.l1 k3 a0 a1 (wrap64 (x6_3 - 1))) else (some (x6_3, true))) = some (r1, r2) := H
                    have A12 := Aside0.mk A120
                    clear A120
                    by_cases c13 : t127 ≥ a1
                    · rw [if_pos c13] at H
                      have c13b0 : decide (a1 ≤ t127) = true := decide_eq_true c13
                      clear c13
                      have H' := Aside0.mk H
                      clear H
                      go_wp2_with (first | (go_at_call 19; (with_reducible refine (pluvialref04_Units.calls k3 a0 (wrap64 (x6_3 - 1)) t127 _ A12.out).mono ?_); rintro e w' ⟨rfl, ⟨nd, rfl⟩⟩))
                      go_roundg k3
                      case measure => have := HJ2.out; have := HK2.out; have := HK3.out; omega
                      case rel => exact ⟨(wrap64 (x6_3 - 1)), (by first | rfl | (simp; done) | (simp [*]; done)), H', ⟨by have := HJ2.out; have := HK2.out; have := HK3.out; omega⟩, by repeat (first | exact Drawn0.refl _ | apply Drawn0.step)⟩
                    · rw [if_neg c13] at H
                      have c13b0 : decide (a1 ≤ t127) = false := decide_eq_false c13
                      clear c13
                      simp only [Option.some.injEq, Prod.mk.injEq] at H
                      obtain ⟨rfl, rfl⟩ := H
                      go_wp2_with (first | (go_at_call 19; (with_reducible refine (pluvialref04_Units.calls k3 a0 (wrap64 (x6_3 - 1)) t127 _ A12.out).mono ?_); rintro e w' ⟨rfl, ⟨nd, rfl⟩⟩))
                      go_ret2
                      exact ⟨by first | rfl | (simp; done) | (simp [*]; done), by repeat (first | exact Drawn0.refl _ | apply Drawn0.step)⟩

/-! ### pluvialref04_In: function 20 -/
def pluvialref04_In.f (k : Nat) (a0 : Int) (a1 : Int) : Option (Bool) := (pluvialref04_Right.f a0).bind fun t128 => (if t128 = true then (if a1 > (-262144) then (if a1 ≤ 262144 then ((pluvialref04_Units.f k a0 a1).bind fun t129 => (if t129 > (-262144) then (some (decide (t129 ≤ 262144))) else (some false))) else (some false)) else (some false)) else (some false))
theorem pluvialref04_In.mono : ∀ a0 a1 k, LeO (pluvialref04_In.f k a0 a1) (pluvialref04_In.f (k + 1) a0 a1) := by
  intro a0 a1 k
  unfold pluvialref04_In.f
  repeat' first
      | (with_reducible exact pluvialref04_Units.mono _ _ _)
      | (with_reducible exact LeO.refl _)
      | (with_reducible exact LeO.none _)
      | (with_reducible refine LeO.ite ?_ ?_)
      | (with_reducible refine LeO.bind ?_ (fun _ => ?_))
      | exact pluvialref04_Units.mono _ _ _
      | exact LeO.none _
      | refine LeO.ite ?_ ?_
      | refine LeO.bind ?_ (fun _ => ?_)
set_option maxHeartbeats 8000000 in
set_option maxRecDepth 100000 in
theorem pluvialref04_In.calls (k : Nat) (a0 : Int) (a1 : Int) (r : Bool) (w : World) (h : pluvialref04_In.f k a0 a1 = some r) :
    Calls Try.prog 20 #[.int .i64 a0, .int .i64 a1] w fun e w' => e = .returned (.bool r) ∧ Drawn0 w w' := by
  have H : ((pluvialref04_Right.f a0).bind fun t128 => (if t128 = true then (if a1 > (-262144) then (if a1 ≤ 262144 then ((pluvialref04_Units.f k a0 a1).bind fun t129 => (if t129 > (-262144) then (some (decide (t129 ≤ 262144))) else (some false))) else (some false)) else (some false)) else (some false))) = some r := h
  clear h
  replace H := Option.bind_eq_some_iff.mp H
  obtain ⟨t128, A30, H⟩ := H
  replace H : (if t128 = true then (if a1 > (-262144) then (if a1 ≤ 262144 then ((pluvialref04_Units.f k a0 a1).bind fun t129 => (if t129 > (-262144) then (some (decide (t129 ≤ 262144))) else (some false))) else (some false)) else (some false)) else (some false)) = some r := H
  have A3 := Aside0.mk A30
  clear A30
  by_cases c4 : t128 = true
  · subst c4
    have H1 : (if a1 > (-262144) then (if a1 ≤ 262144 then ((pluvialref04_Units.f k a0 a1).bind fun t129 => (if t129 > (-262144) then (some (decide (t129 ≤ 262144))) else (some false))) else (some false)) else (some false)) = some r := by rw [if_pos rfl] at H; exact H
    clear H
    have H := H1
    clear H1
    by_cases c5 : a1 > (-262144)
    · rw [if_pos c5] at H
      have c5b0 : decide ((-262144) < a1) = true := decide_eq_true c5
      clear c5
      by_cases c6 : a1 ≤ 262144
      · rw [if_pos c6] at H
        have c6b0 : decide (a1 ≤ 262144) = true := decide_eq_true c6
        clear c6
        replace H := Option.bind_eq_some_iff.mp H
        obtain ⟨t129, A70, H⟩ := H
        replace H : (if t129 > (-262144) then (some (decide (t129 ≤ 262144))) else (some false)) = some r := H
        have A7 := Aside0.mk A70
        clear A70
        by_cases c8 : t129 > (-262144)
        · rw [if_pos c8] at H
          have c8b0 : decide ((-262144) < t129) = true := decide_eq_true c8
          clear c8
          obtain rfl := Option.some.inj H
          go_enter Try.func20, Try.ntmps20
          go_wp2_with (first | (go_at_call 18; (with_reducible refine (pluvialref04_Right.calls a0 true _ A3.out).mono ?_); rintro e w' ⟨rfl, ⟨nd, rfl⟩⟩) | (go_at_call 19; (with_reducible refine (pluvialref04_Units.calls k a0 a1 t129 _ A7.out).mono ?_); rintro e w' ⟨rfl, ⟨nd, rfl⟩⟩))
          go_ret
          exact ⟨by first | rfl | (simp; done) | (simp [*]; done), by repeat (first | exact Drawn0.refl _ | apply Drawn0.step)⟩
        · rw [if_neg c8] at H
          have c8b0 : decide ((-262144) < t129) = false := decide_eq_false c8
          clear c8
          obtain rfl := Option.some.inj H
          go_enter Try.func20, Try.ntmps20
          go_wp2_with (first | (go_at_call 18; (with_reducible refine (pluvialref04_Right.calls a0 true _ A3.out).mono ?_); rintro e w' ⟨rfl, ⟨nd, rfl⟩⟩) | (go_at_call 19; (with_reducible refine (pluvialref04_Units.calls k a0 a1 t129 _ A7.out).mono ?_); rintro e w' ⟨rfl, ⟨nd, rfl⟩⟩))
          go_ret
          exact ⟨by first | rfl | (simp; done) | (simp [*]; done), by repeat (first | exact Drawn0.refl _ | apply Drawn0.step)⟩
      · rw [if_neg c6] at H
        have c6b0 : decide (a1 ≤ 262144) = false := decide_eq_false c6
        clear c6
        obtain rfl := Option.some.inj H
        go_enter Try.func20, Try.ntmps20
        go_wp2_with (first | (go_at_call 18; (with_reducible refine (pluvialref04_Right.calls a0 true _ A3.out).mono ?_); rintro e w' ⟨rfl, ⟨nd, rfl⟩⟩))
        go_ret
        exact ⟨by first | rfl | (simp; done) | (simp [*]; done), by repeat (first | exact Drawn0.refl _ | apply Drawn0.step)⟩
    · rw [if_neg c5] at H
      have c5b0 : decide ((-262144) < a1) = false := decide_eq_false c5
      clear c5
      obtain rfl := Option.some.inj H
      go_enter Try.func20, Try.ntmps20
      go_wp2_with (first | (go_at_call 18; (with_reducible refine (pluvialref04_Right.calls a0 true _ A3.out).mono ?_); rintro e w' ⟨rfl, ⟨nd, rfl⟩⟩))
      go_ret
      exact ⟨by first | rfl | (simp; done) | (simp [*]; done), by repeat (first | exact Drawn0.refl _ | apply Drawn0.step)⟩
  · replace c4 := Bool.eq_false_iff.mpr c4
    subst c4
    have H1 : (some false) = some r := by rw [if_neg (show ¬ (false = true) by decide)] at H; exact H
    clear H
    have H := H1
    clear H1
    obtain rfl := Option.some.inj H
    go_enter Try.func20, Try.ntmps20
    go_wp2_with (first | (go_at_call 18; (with_reducible refine (pluvialref04_Right.calls a0 false _ A3.out).mono ?_); rintro e w' ⟨rfl, ⟨nd, rfl⟩⟩))
    go_ret
    exact ⟨by first | rfl | (simp; done) | (simp [*]; done), by repeat (first | exact Drawn0.refl _ | apply Drawn0.step)⟩

/-! ### bound_Whole: function 23 -/
def bound_Whole.f (a0 : Int) (a1 : Int) : Option (Bool) := (bound_Right.f a0).bind fun t130 => (if t130 = true then ((bound_shift.f a0).bind fun t131 => (if 0 ≤ t131 then (some ((Go.bits .and .i64 a1 (wrap64 ((shl .i64 1 t131) - 1))) == 0)) else (none))) else (some false))
set_option maxHeartbeats 8000000 in
set_option maxRecDepth 100000 in
theorem bound_Whole.calls (a0 : Int) (a1 : Int) (r : Bool) (w : World) (h : bound_Whole.f a0 a1 = some r) :
    Calls Try.prog 23 #[.int .i64 a0, .int .i64 a1] w fun e w' => e = .returned (.bool r) ∧ Drawn0 w w' := by
  have H : ((bound_Right.f a0).bind fun t130 => (if t130 = true then ((bound_shift.f a0).bind fun t131 => (if 0 ≤ t131 then (some ((Go.bits .and .i64 a1 (wrap64 ((shl .i64 1 t131) - 1))) == 0)) else (none))) else (some false))) = some r := h
  clear h
  replace H := Option.bind_eq_some_iff.mp H
  obtain ⟨t130, A30, H⟩ := H
  replace H : (if t130 = true then ((bound_shift.f a0).bind fun t131 => (if 0 ≤ t131 then (some ((Go.bits .and .i64 a1 (wrap64 ((shl .i64 1 t131) - 1))) == 0)) else (none))) else (some false)) = some r := H
  have A3 := Aside0.mk A30
  clear A30
  by_cases c4 : t130 = true
  · subst c4
    have H1 : ((bound_shift.f a0).bind fun t131 => (if 0 ≤ t131 then (some ((Go.bits .and .i64 a1 (wrap64 ((shl .i64 1 t131) - 1))) == 0)) else (none))) = some r := by rw [if_pos rfl] at H; exact H
    clear H
    have H := H1
    clear H1
    replace H := Option.bind_eq_some_iff.mp H
    obtain ⟨t131, A50, H⟩ := H
    replace H : (if 0 ≤ t131 then (some ((Go.bits .and .i64 a1 (wrap64 ((shl .i64 1 t131) - 1))) == 0)) else (none)) = some r := H
    have A5 := Aside0.mk A50
    clear A50
    by_cases c6 : 0 ≤ t131
    · rw [if_pos c6] at H
      have c6b0 := eq_true c6
      have c6b1 : decide (0 ≤ t131) = true := decide_eq_true c6
      clear c6
      obtain ⟨ji7, hji7⟩ : ∃ j_ : Int, (shl .i64 1 t131) = j_ := ⟨_, rfl⟩
      replace H : (some ((Go.bits .and .i64 a1 (wrap64 ((ji7) - 1))) == 0)) = some r := by first | (rw [hji7] at H; exact H) | (simp only [hji7] at H ⊢; exact H)
      (try rw [hji7] at A3)
      (try rw [hji7] at A5)
      have hji7_ : (IntKind.i64.wrap (1 * 2 ^ min t131.toNat 64)) = ji7 := hji7
      have hji7z : t131 ≤ 64 → (IntKind.i64.wrap (1 * 2 ^ t131.toNat)) = ji7 := shl_small hji7
      have hji7u : (IntKind.i64.wrap (2 ^ min t131.toNat 64)) = ji7 := by have h_ := hji7_; rw [Int.one_mul] at h_; exact h_
      have hji7v : t131 ≤ 64 → (IntKind.i64.wrap (2 ^ t131.toNat)) = ji7 := fun hle_ => by have h_ := hji7z hle_; rw [Int.one_mul] at h_; exact h_
      have hji7y : (wrap64 (1 * 2 ^ min t131.toNat 64)) = ji7 := (i64_w _).symm.trans hji7_
      have hji7x : t131 ≤ 64 → (wrap64 (1 * 2 ^ t131.toNat)) = ji7 := fun h_ => (i64_w _).symm.trans (hji7z h_)
      obtain rfl := Option.some.inj H
      go_enter Try.func23, Try.ntmps23
      go_wp2_with (first | (go_at_call 21; (with_reducible refine (bound_Right.calls a0 true _ A3.out).mono ?_); rintro e w' ⟨rfl, ⟨nd, rfl⟩⟩) | (go_at_call 25; (with_reducible refine (bound_shift.calls a0 t131 _ A5.out).mono ?_); rintro e w' ⟨rfl, ⟨nd, rfl⟩⟩))
      go_ret
      exact ⟨by first | rfl | (simp; done) | (simp only [← hji7] <;> (first | rfl | simp)) | (simp [*]; done), by repeat (first | exact Drawn0.refl _ | apply Drawn0.step)⟩
    · rw [if_neg c6] at H
      exact absurd H (by simp)
  · replace c4 := Bool.eq_false_iff.mpr c4
    subst c4
    have H1 : (some false) = some r := by rw [if_neg (show ¬ (false = true) by decide)] at H; exact H
    clear H
    have H := H1
    clear H1
    obtain rfl := Option.some.inj H
    go_enter Try.func23, Try.ntmps23
    go_wp2_with (first | (go_at_call 21; (with_reducible refine (bound_Right.calls a0 false _ A3.out).mono ?_); rintro e w' ⟨rfl, ⟨nd, rfl⟩⟩))
    go_ret
    exact ⟨by first | rfl | (simp; done) | (simp [*]; done), by repeat (first | exact Drawn0.refl _ | apply Drawn0.step)⟩

end Go.Proofs.Ytcdjcbjincecpaa.QBoundPlaces
