-- Written by a program of the session (wip/xprint.sh, wip/xpatch.py; a variant of the print) out of the translation. Lean checks it.
import Derived.Test.YtcdjcbjincecpaaQBoundPlacesx0
import Derived.Test.YtcdjcbjincecpaaQBoundPlacesx1
import Derived.Test.YtcdjcbjincecpaaQBoundPlacesx2
namespace Go.Proofs.Ytcdjcbjincecpaa.QBoundPlaces
open Go.RowKit Go.Proofs.YtcdjcbjincecpaaW.PrintWords Go.Proofs.YtcdjcbjincecpaaW.PrintLast Go.Proofs.YtcdjcbjincecpaaW.PrintMore
attribute [local go_sem] max2_int min2_int max_two min_two max_three min_three max_four min_four   -- for this text's walks alone
set_option linter.unusedVariables false
set_option linter.unusedSimpArgs false

/-! ### pluviallaw04_BoundPlaces: function 5 -/
mutual
def pluviallaw04_BoundPlaces.j0 : Nat → Int → Int → Int → Bool → Option (Bool)
  | 0, _, _, _, _ => none
  | k + 1, x0, x1, x2, x19 => if x19 = true then ((pluviallaw04_awake.f k).bind fun t132 => (some t132)) else ((bound_Of.f k x0 x2).bind fun bt133 => ((pluvialref04_Of.f k x0 x2).bind fun bt135 => ((pluvialref04_Right.f x0).bind fun t137 => (if t137 = true then ((pluvialref04_Units.f k x0 1).bind fun t138 => (if t138 = 0 then (none) else (pluviallaw04_BoundPlaces.j1 k x0 x1 x2 bt133.1 bt133.2 bt135.1 bt135.2 ((Int.tmod x2 t138) == 0)))) else (pluviallaw04_BoundPlaces.j1 k x0 x1 x2 bt133.1 bt133.2 bt135.1 bt135.2 false)))))
def pluviallaw04_BoundPlaces.j1 : Nat → Int → Int → Int → Int → Bool → Int → Bool → Bool → Option (Bool)
  | 0, _, _, _, _, _, _, _, _ => none
  | k + 1, x0, x1, x2, x7, x8, x9, x10, x11 => (bound_Least.f x0).bind fun t139 => ((bound_Most.f x0).bind fun t140 => ((pluvialref04_Right.f x0).bind fun t141 => (if t141 = true then ((pluvialref04_In.f k x0 t139).bind fun t142 => (if t142 = true then ((pluvialref04_In.f k x0 (wrap64 (t139 - 1))).bind fun t143 => (if t143 = true then (pluviallaw04_BoundPlaces.j2 k x0 x1 x2 x7 x8 x9 x10 x11 true) else ((pluvialref04_In.f k x0 t140).bind fun t144 => (if t144 = true then ((pluvialref04_In.f k x0 (wrap64 (t140 + 1))).bind fun t145 => (if t145 = true then (pluviallaw04_BoundPlaces.j2 k x0 x1 x2 x7 x8 x9 x10 x11 true) else (pluviallaw04_BoundPlaces.j2 k x0 x1 x2 x7 x8 x9 x10 x11 false))) else (pluviallaw04_BoundPlaces.j2 k x0 x1 x2 x7 x8 x9 x10 x11 true))))) else (pluviallaw04_BoundPlaces.j2 k x0 x1 x2 x7 x8 x9 x10 x11 true))) else (if t139 = 1 then (pluviallaw04_BoundPlaces.j2 k x0 x1 x2 x7 x8 x9 x10 x11 (t140 != 0)) else (pluviallaw04_BoundPlaces.j2 k x0 x1 x2 x7 x8 x9 x10 x11 true)))))
def pluviallaw04_BoundPlaces.j2 : Nat → Int → Int → Int → Int → Bool → Int → Bool → Bool → Bool → Option (Bool)
  | 0, _, _, _, _, _, _, _, _, _ => none
  | k + 1, x0, x1, x2, x7, x8, x9, x10, x11, x84 => if x84 = true then (some false) else ((pluviallaw04_awake.f k).bind fun t146 => (if t146 = true then ((bound_Right.f x0).bind fun t147 => ((pluvialref04_Right.f x0).bind fun t148 => (if (t147 == t148) = true then ((bound_Units.f x0 x1).bind fun t149 => ((pluvialref04_Units.f k x0 x1).bind fun t150 => (if t149 = t150 then ((bound_Low.f x0 x1).bind fun t151 => ((pluvialref04_Units.f k x0 (wrap64 (x1 - 1))).bind fun t152 => (if t151 = t152 then ((bound_In.f x0 x1).bind fun t153 => ((pluvialref04_In.f k x0 x1).bind fun t154 => (if (t153 == t154) = true then (if x7 = x9 then (if (x8 == x10) = true then ((bound_Whole.f x0 x2).bind fun t155 => (some (t155 == x11))) else (some false)) else (some false)) else (some false)))) else (some false)))) else (some false)))) else (some false)))) else (some false)))
end
def pluviallaw04_BoundPlaces.f (k : Nat) (a0 : Int) (a1 : Int) (a2 : Int) : Option (Bool) := if a1 < (-1099511627776) then (pluviallaw04_BoundPlaces.j0 k a0 a1 a2 true) else (pluviallaw04_BoundPlaces.j0 k a0 a1 a2 (decide (a1 > 1099511627776)))
theorem pluviallaw04_BoundPlaces.mono_l : ∀ k, (∀ y0 y1 y2 y3, LeO (pluviallaw04_BoundPlaces.j0 k y0 y1 y2 y3) (pluviallaw04_BoundPlaces.j0 (k + 1) y0 y1 y2 y3)) ∧ (∀ y0 y1 y2 y3 y4 y5 y6 y7, LeO (pluviallaw04_BoundPlaces.j1 k y0 y1 y2 y3 y4 y5 y6 y7) (pluviallaw04_BoundPlaces.j1 (k + 1) y0 y1 y2 y3 y4 y5 y6 y7)) ∧ (∀ y0 y1 y2 y3 y4 y5 y6 y7 y8, LeO (pluviallaw04_BoundPlaces.j2 k y0 y1 y2 y3 y4 y5 y6 y7 y8) (pluviallaw04_BoundPlaces.j2 (k + 1) y0 y1 y2 y3 y4 y5 y6 y7 y8))
  | 0 => ⟨fun _ _ _ _ r h => by simp [pluviallaw04_BoundPlaces.j0] at h, fun _ _ _ _ _ _ _ _ r h => by simp [pluviallaw04_BoundPlaces.j1] at h, fun _ _ _ _ _ _ _ _ _ r h => by simp [pluviallaw04_BoundPlaces.j2] at h⟩
  | k + 1 => by
    obtain ⟨ih0, ih1, ih2⟩ := pluviallaw04_BoundPlaces.mono_l k
    refine ⟨?_, ?_, ?_⟩
    · intro y0 y1 y2 y3
      unfold pluviallaw04_BoundPlaces.j0
      repeat' first
      | (with_reducible exact ih0 _ _ _ _)
      | (with_reducible exact ih1 _ _ _ _ _ _ _ _)
      | (with_reducible exact ih2 _ _ _ _ _ _ _ _ _)
      | (with_reducible exact bound_Of.mono _ _ _)
      | (with_reducible exact pluviallaw04_awake.mono _)
      | (with_reducible exact pluvialref04_In.mono _ _ _)
      | (with_reducible exact pluvialref04_Of.mono _ _ _)
      | (with_reducible exact pluvialref04_Units.mono _ _ _)
      | (with_reducible exact LeO.refl _)
      | (with_reducible exact LeO.none _)
      | (with_reducible refine LeO.ite ?_ ?_)
      | (with_reducible refine LeO.bind ?_ (fun _ => ?_))
      | exact ih0 _ _ _ _
      | exact ih1 _ _ _ _ _ _ _ _
      | exact ih2 _ _ _ _ _ _ _ _ _
      | exact bound_Of.mono _ _ _
      | exact pluviallaw04_awake.mono _
      | exact pluvialref04_In.mono _ _ _
      | exact pluvialref04_Of.mono _ _ _
      | exact pluvialref04_Units.mono _ _ _
      | exact LeO.none _
      | refine LeO.ite ?_ ?_
      | refine LeO.bind ?_ (fun _ => ?_)
    · intro y0 y1 y2 y3 y4 y5 y6 y7
      unfold pluviallaw04_BoundPlaces.j1
      repeat' first
      | (with_reducible exact ih0 _ _ _ _)
      | (with_reducible exact ih1 _ _ _ _ _ _ _ _)
      | (with_reducible exact ih2 _ _ _ _ _ _ _ _ _)
      | (with_reducible exact bound_Of.mono _ _ _)
      | (with_reducible exact pluviallaw04_awake.mono _)
      | (with_reducible exact pluvialref04_In.mono _ _ _)
      | (with_reducible exact pluvialref04_Of.mono _ _ _)
      | (with_reducible exact pluvialref04_Units.mono _ _ _)
      | (with_reducible exact LeO.refl _)
      | (with_reducible exact LeO.none _)
      | (with_reducible refine LeO.ite ?_ ?_)
      | (with_reducible refine LeO.bind ?_ (fun _ => ?_))
      | exact ih0 _ _ _ _
      | exact ih1 _ _ _ _ _ _ _ _
      | exact ih2 _ _ _ _ _ _ _ _ _
      | exact bound_Of.mono _ _ _
      | exact pluviallaw04_awake.mono _
      | exact pluvialref04_In.mono _ _ _
      | exact pluvialref04_Of.mono _ _ _
      | exact pluvialref04_Units.mono _ _ _
      | exact LeO.none _
      | refine LeO.ite ?_ ?_
      | refine LeO.bind ?_ (fun _ => ?_)
    · intro y0 y1 y2 y3 y4 y5 y6 y7 y8
      unfold pluviallaw04_BoundPlaces.j2
      repeat' first
      | (with_reducible exact ih0 _ _ _ _)
      | (with_reducible exact ih1 _ _ _ _ _ _ _ _)
      | (with_reducible exact ih2 _ _ _ _ _ _ _ _ _)
      | (with_reducible exact bound_Of.mono _ _ _)
      | (with_reducible exact pluviallaw04_awake.mono _)
      | (with_reducible exact pluvialref04_In.mono _ _ _)
      | (with_reducible exact pluvialref04_Of.mono _ _ _)
      | (with_reducible exact pluvialref04_Units.mono _ _ _)
      | (with_reducible exact LeO.refl _)
      | (with_reducible exact LeO.none _)
      | (with_reducible refine LeO.ite ?_ ?_)
      | (with_reducible refine LeO.bind ?_ (fun _ => ?_))
      | exact ih0 _ _ _ _
      | exact ih1 _ _ _ _ _ _ _ _
      | exact ih2 _ _ _ _ _ _ _ _ _
      | exact bound_Of.mono _ _ _
      | exact pluviallaw04_awake.mono _
      | exact pluvialref04_In.mono _ _ _
      | exact pluvialref04_Of.mono _ _ _
      | exact pluvialref04_Units.mono _ _ _
      | exact LeO.none _
      | refine LeO.ite ?_ ?_
      | refine LeO.bind ?_ (fun _ => ?_)
theorem pluviallaw04_BoundPlaces.mono : ∀ a0 a1 a2 k, LeO (pluviallaw04_BoundPlaces.f k a0 a1 a2) (pluviallaw04_BoundPlaces.f (k + 1) a0 a1 a2) := by
  intro a0 a1 a2 k
  obtain ⟨ih0, ih1, ih2⟩ := pluviallaw04_BoundPlaces.mono_l k
  unfold pluviallaw04_BoundPlaces.f
  repeat' first
      | (with_reducible exact ih0 _ _ _ _)
      | (with_reducible exact ih1 _ _ _ _ _ _ _ _)
      | (with_reducible exact ih2 _ _ _ _ _ _ _ _ _)
      | (with_reducible exact bound_Of.mono _ _ _)
      | (with_reducible exact pluviallaw04_awake.mono _)
      | (with_reducible exact pluvialref04_In.mono _ _ _)
      | (with_reducible exact pluvialref04_Of.mono _ _ _)
      | (with_reducible exact pluvialref04_Units.mono _ _ _)
      | (with_reducible exact LeO.refl _)
      | (with_reducible exact LeO.none _)
      | (with_reducible refine LeO.ite ?_ ?_)
      | (with_reducible refine LeO.bind ?_ (fun _ => ?_))
      | exact ih0 _ _ _ _
      | exact ih1 _ _ _ _ _ _ _ _
      | exact ih2 _ _ _ _ _ _ _ _ _
      | exact bound_Of.mono _ _ _
      | exact pluviallaw04_awake.mono _
      | exact pluvialref04_In.mono _ _ _
      | exact pluvialref04_Of.mono _ _ _
      | exact pluvialref04_Units.mono _ _ _
      | exact LeO.none _
      | refine LeO.ite ?_ ?_
      | refine LeO.bind ?_ (fun _ => ?_)
set_option maxHeartbeats 8000000 in
set_option maxRecDepth 100000 in
theorem pluviallaw04_BoundPlaces.calls (k : Nat) (a0 : Int) (a1 : Int) (a2 : Int) (r : Bool) (w : World) (h : pluviallaw04_BoundPlaces.f k a0 a1 a2 = some r) :
    Calls Try.prog 5 #[.int .i64 a0, .int .i64 a1, .int .i64 a2] w fun e w' => e = .returned (.bool r) ∧ Drawn0 w w' := by
  have H : (if a1 < (-1099511627776) then (pluviallaw04_BoundPlaces.j0 k a0 a1 a2 true) else (pluviallaw04_BoundPlaces.j0 k a0 a1 a2 (decide (a1 > 1099511627776)))) = some r := h
  clear h
  have HC4 := Aside0.mk H
  clear H
  go_enter Try.func5, Try.ntmps5
  go_upto_region 1 with (fail)
  go_cut [19] (fun v19 wc => ∃ (kq : Nat) (x19_3 : Bool), v19 = .bool x19_3 ∧ Aside0 (pluviallaw04_BoundPlaces.j0 kq a0 a1 a2 x19_3 = some r) ∧ Aside0 (kq ≤ k) ∧ Drawn0 w wc)
  case first =>
    have H := HC4.out
    clear HC4
    by_cases c5 : a1 < (-1099511627776)
    · rw [if_pos c5] at H
      have c5b0 : decide (a1 < (-1099511627776)) = true := decide_eq_true c5
      clear c5
      (first | rw [c5b0] | (simp only [i64_w, i32_w]; rw [c5b0]) | skip)
      have H' := Aside0.mk H
      clear H
      go_wp2
      go_meet
      case rel => exact ⟨_, (true), (by first | rfl | (simp; done) | (simp [*]; done)), H', ⟨by first | omega | exact Nat.le_refl _⟩, by repeat (first | exact Drawn0.refl _ | apply Drawn0.step)⟩
    · rw [if_neg c5] at H
      have c5b0 : decide (a1 < (-1099511627776)) = false := decide_eq_false c5
      clear c5
      (first | rw [c5b0] | (simp only [i64_w, i32_w]; rw [c5b0]) | skip)
      have H' := Aside0.mk H
      clear H
      go_wp2
      go_meet
      case rel => exact ⟨_, (decide (a1 > 1099511627776)), (by first | rfl | (simp; done) | (simp [*]; done)), H', ⟨by first | omega | exact Nat.le_refl _⟩, by repeat (first | exact Drawn0.refl _ | apply Drawn0.step)⟩
  case rest =>
    clear HC4
    try clear p2
    try clear c5
    try clear c5b0
    obtain ⟨kq, x19_3, rfl, HA, HJ3, ⟨mc3, rfl⟩⟩ := hcut
    cases kq with
    | zero => exact absurd HA.out (by simp [pluviallaw04_BoundPlaces.j0])
    | succ kj3 =>
      have H := HA.out
      clear HA
      simp only [pluviallaw04_BoundPlaces.j0] at H
      by_cases c6 : x19_3 = true
      · subst c6
        have H1 : ((pluviallaw04_awake.f kj3).bind fun t132 => (some t132)) = some r := by rw [if_pos rfl] at H; exact H
        clear H
        have H := H1
        clear H1
        replace H := Option.bind_eq_some_iff.mp H
        obtain ⟨t132, A70, H⟩ := H
        replace H : (some t132) = some r := H
        have A7 := Aside0.mk A70
        clear A70
        obtain rfl := Option.some.inj H
        go_wp2_with (first | (go_at_call 8; (with_reducible refine (pluviallaw04_awake.calls kj3  t132 _ A7.out).mono ?_); rintro e w' ⟨rfl, ⟨nd, rfl⟩⟩))
        go_ret
        exact ⟨by first | rfl | (simp; done) | (simp [*]; done), by repeat (first | exact Drawn0.refl _ | apply Drawn0.step)⟩
      · replace c6 := Bool.eq_false_iff.mpr c6
        subst c6
        have H1 : ((bound_Of.f kj3 a0 a2).bind fun bt133 => ((pluvialref04_Of.f kj3 a0 a2).bind fun bt135 => ((pluvialref04_Right.f a0).bind fun t137 => (if t137 = true then ((pluvialref04_Units.f kj3 a0 1).bind fun t138 => (if t138 = 0 then (none) else (pluviallaw04_BoundPlaces.j1 kj3 a0 a1 a2 bt133.1 bt133.2 bt135.1 bt135.2 ((Int.tmod a2 t138) == 0)))) else (pluviallaw04_BoundPlaces.j1 kj3 a0 a1 a2 bt133.1 bt133.2 bt135.1 bt135.2 false))))) = some r := by rw [if_neg (show ¬ (false = true) by decide)] at H; exact H
        clear H
        have H := H1
        clear H1
        replace H := Option.bind_eq_some_iff.mp H
        obtain ⟨⟨t133, t134⟩, A80, H⟩ := H
        replace H : ((pluvialref04_Of.f kj3 a0 a2).bind fun bt135 => ((pluvialref04_Right.f a0).bind fun t137 => (if t137 = true then ((pluvialref04_Units.f kj3 a0 1).bind fun t138 => (if t138 = 0 then (none) else (pluviallaw04_BoundPlaces.j1 kj3 a0 a1 a2 t133 t134 bt135.1 bt135.2 ((Int.tmod a2 t138) == 0)))) else (pluviallaw04_BoundPlaces.j1 kj3 a0 a1 a2 t133 t134 bt135.1 bt135.2 false)))) = some r := H
        have A8 := Aside0.mk A80
        clear A80
        replace H := Option.bind_eq_some_iff.mp H
        obtain ⟨⟨t135, t136⟩, A90, H⟩ := H
        replace H : ((pluvialref04_Right.f a0).bind fun t137 => (if t137 = true then ((pluvialref04_Units.f kj3 a0 1).bind fun t138 => (if t138 = 0 then (none) else (pluviallaw04_BoundPlaces.j1 kj3 a0 a1 a2 t133 t134 t135 t136 ((Int.tmod a2 t138) == 0)))) else (pluviallaw04_BoundPlaces.j1 kj3 a0 a1 a2 t133 t134 t135 t136 false))) = some r := H
        have A9 := Aside0.mk A90
        clear A90
        have HC10 := Aside0.mk H
        clear H
        go_upto_region 5 with (first | (go_at_call 16; (with_reducible refine (bound_Of.calls kj3 a0 a2 t133 t134 _ A8.out).mono ?_); rintro e w' ⟨rfl, ⟨nd, rfl⟩⟩) | (go_at_call 17; (with_reducible refine (pluvialref04_Of.calls kj3 a0 a2 t135 t136 _ A9.out).mono ?_); rintro e w' ⟨rfl, ⟨nd, rfl⟩⟩))
        (try simp only [Act.put, List.setIfInBounds_toArray, List.set_cons_zero, List.set_cons_succ])
        go_cut [11] (fun v11 wc => ∃ (kq : Nat) (x11_9 : Bool), v11 = .bool x11_9 ∧ Aside0 (pluviallaw04_BoundPlaces.j1 kq a0 a1 a2 t133 t134 t135 t136 x11_9 = some r) ∧ Aside0 (kq ≤ kj3) ∧ Drawn0 w wc)
        case first =>
          have H := HC10.out
          clear HC10
          replace H := Option.bind_eq_some_iff.mp H
          obtain ⟨t137, A110, H⟩ := H
          replace H : (if t137 = true then ((pluvialref04_Units.f kj3 a0 1).bind fun t138 => (if t138 = 0 then (none) else (pluviallaw04_BoundPlaces.j1 kj3 a0 a1 a2 t133 t134 t135 t136 ((Int.tmod a2 t138) == 0)))) else (pluviallaw04_BoundPlaces.j1 kj3 a0 a1 a2 t133 t134 t135 t136 false)) = some r := H
          have A11 := Aside0.mk A110
          clear A110
          by_cases c12 : t137 = true
          · subst c12
            have H1 : ((pluvialref04_Units.f kj3 a0 1).bind fun t138 => (if t138 = 0 then (none) else (pluviallaw04_BoundPlaces.j1 kj3 a0 a1 a2 t133 t134 t135 t136 ((Int.tmod a2 t138) == 0)))) = some r := by rw [if_pos rfl] at H; exact H
            clear H
            have H := H1
            clear H1
            replace H := Option.bind_eq_some_iff.mp H
            obtain ⟨t138, A130, H⟩ := H
            replace H : (if t138 = 0 then (none) else (pluviallaw04_BoundPlaces.j1 kj3 a0 a1 a2 t133 t134 t135 t136 ((Int.tmod a2 t138) == 0))) = some r := H
            have A13 := Aside0.mk A130
            clear A130
            by_cases c14 : t138 = 0
            · rw [if_pos c14] at H
              exact absurd H (by simp)
            · rw [if_neg c14] at H
              have c14b0 : (t138 == 0) = false := beq_eq_false_iff_ne.mpr c14
              have c14b1 : (t138 != 0) = true := bne_iff_ne.mpr c14
              (first | rw [c14b0] | (simp only [i64_w, i32_w]; rw [c14b0]) | skip)
              have H' := Aside0.mk H
              clear H
              go_wp2_with (first | (go_at_call 18; (with_reducible refine (pluvialref04_Right.calls a0 true _ A11.out).mono ?_); rintro e w' ⟨rfl, ⟨nd, rfl⟩⟩) | (go_at_call 19; (with_reducible refine (pluvialref04_Units.calls kj3 a0 1 t138 _ A13.out).mono ?_); rintro e w' ⟨rfl, ⟨nd, rfl⟩⟩))
              go_meet
              case rel => exact ⟨_, (((Int.tmod a2 t138) == 0)), (by first | rfl | (simp; done) | (simp [*]; done)), H', ⟨by have := HJ3.out; first | omega | exact Nat.le_refl _⟩, by repeat (first | exact Drawn0.refl _ | apply Drawn0.step)⟩
          · replace c12 := Bool.eq_false_iff.mpr c12
            subst c12
            have H1 : (pluviallaw04_BoundPlaces.j1 kj3 a0 a1 a2 t133 t134 t135 t136 false) = some r := by rw [if_neg (show ¬ (false = true) by decide)] at H; exact H
            clear H
            have H := H1
            clear H1
            have H' := Aside0.mk H
            clear H
            go_wp2_with (first | (go_at_call 18; (with_reducible refine (pluvialref04_Right.calls a0 false _ A11.out).mono ?_); rintro e w' ⟨rfl, ⟨nd, rfl⟩⟩))
            go_meet
            case rel => exact ⟨_, (false), (by first | rfl | (simp; done) | (simp [*]; done)), H', ⟨by have := HJ3.out; first | omega | exact Nat.le_refl _⟩, by repeat (first | exact Drawn0.refl _ | apply Drawn0.step)⟩
        case rest =>
          clear HC10
          try clear c1
          try clear p2
          try clear c3
          try clear c5
          try clear c5b0
          try clear c6
          try clear c12
          try clear c14
          try clear c14b0
          try clear c14b1
          try clear p2
          obtain ⟨kq, x11_9, rfl, HA, HJ9, ⟨mc9, rfl⟩⟩ := hcut
          cases kq with
          | zero => exact absurd HA.out (by simp [pluviallaw04_BoundPlaces.j1])
          | succ kj9 =>
            have H := HA.out
            clear HA
            simp only [pluviallaw04_BoundPlaces.j1] at H
            replace H := Option.bind_eq_some_iff.mp H
            obtain ⟨t139, A150, H⟩ := H
            replace H : ((bound_Most.f a0).bind fun t140 => ((pluvialref04_Right.f a0).bind fun t141 => (if t141 = true then ((pluvialref04_In.f kj9 a0 t139).bind fun t142 => (if t142 = true then ((pluvialref04_In.f kj9 a0 (wrap64 (t139 - 1))).bind fun t143 => (if t143 = true then (pluviallaw04_BoundPlaces.j2 kj9 a0 a1 a2 t133 t134 t135 t136 x11_9 true) else ((pluvialref04_In.f kj9 a0 t140).bind fun t144 => (if t144 = true then ((pluvialref04_In.f kj9 a0 (wrap64 (t140 + 1))).bind fun t145 => (if t145 = true then (pluviallaw04_BoundPlaces.j2 kj9 a0 a1 a2 t133 t134 t135 t136 x11_9 true) else (pluviallaw04_BoundPlaces.j2 kj9 a0 a1 a2 t133 t134 t135 t136 x11_9 false))) else (pluviallaw04_BoundPlaces.j2 kj9 a0 a1 a2 t133 t134 t135 t136 x11_9 true))))) else (pluviallaw04_BoundPlaces.j2 kj9 a0 a1 a2 t133 t134 t135 t136 x11_9 true))) else (if t139 = 1 then (pluviallaw04_BoundPlaces.j2 kj9 a0 a1 a2 t133 t134 t135 t136 x11_9 (t140 != 0)) else (pluviallaw04_BoundPlaces.j2 kj9 a0 a1 a2 t133 t134 t135 t136 x11_9 true))))) = some r := H
            have A15 := Aside0.mk A150
            clear A150
            replace H := Option.bind_eq_some_iff.mp H
            obtain ⟨t140, A160, H⟩ := H
            replace H : ((pluvialref04_Right.f a0).bind fun t141 => (if t141 = true then ((pluvialref04_In.f kj9 a0 t139).bind fun t142 => (if t142 = true then ((pluvialref04_In.f kj9 a0 (wrap64 (t139 - 1))).bind fun t143 => (if t143 = true then (pluviallaw04_BoundPlaces.j2 kj9 a0 a1 a2 t133 t134 t135 t136 x11_9 true) else ((pluvialref04_In.f kj9 a0 t140).bind fun t144 => (if t144 = true then ((pluvialref04_In.f kj9 a0 (wrap64 (t140 + 1))).bind fun t145 => (if t145 = true then (pluviallaw04_BoundPlaces.j2 kj9 a0 a1 a2 t133 t134 t135 t136 x11_9 true) else (pluviallaw04_BoundPlaces.j2 kj9 a0 a1 a2 t133 t134 t135 t136 x11_9 false))) else (pluviallaw04_BoundPlaces.j2 kj9 a0 a1 a2 t133 t134 t135 t136 x11_9 true))))) else (pluviallaw04_BoundPlaces.j2 kj9 a0 a1 a2 t133 t134 t135 t136 x11_9 true))) else (if t139 = 1 then (pluviallaw04_BoundPlaces.j2 kj9 a0 a1 a2 t133 t134 t135 t136 x11_9 (t140 != 0)) else (pluviallaw04_BoundPlaces.j2 kj9 a0 a1 a2 t133 t134 t135 t136 x11_9 true)))) = some r := H
            have A16 := Aside0.mk A160
            clear A160
            have HC17 := Aside0.mk H
            clear H
            go_upto_region 7 with (first | (go_at_call 9; (with_reducible refine (bound_Least.calls a0 t139 _ A15.out).mono ?_); rintro e w' ⟨rfl, ⟨nd, rfl⟩⟩) | (go_at_call 10; (with_reducible refine (bound_Most.calls a0 t140 _ A16.out).mono ?_); rintro e w' ⟨rfl, ⟨nd, rfl⟩⟩))
            (try simp only [Act.put, List.setIfInBounds_toArray, List.set_cons_zero, List.set_cons_succ])
            go_cut [84] (fun v84 wc => ∃ (kq : Nat) (x84_16 : Bool), v84 = .bool x84_16 ∧ Aside0 (pluviallaw04_BoundPlaces.j2 kq a0 a1 a2 t133 t134 t135 t136 x11_9 x84_16 = some r) ∧ Aside0 (kq ≤ kj9) ∧ Drawn0 w wc)
            case first =>
              have H := HC17.out
              clear HC17
              replace H := Option.bind_eq_some_iff.mp H
              obtain ⟨t141, A180, H⟩ := H
              replace H : (if t141 = true then ((pluvialref04_In.f kj9 a0 t139).bind fun t142 => (if t142 = true then ((pluvialref04_In.f kj9 a0 (wrap64 (t139 - 1))).bind fun t143 => (if t143 = true then (pluviallaw04_BoundPlaces.j2 kj9 a0 a1 a2 t133 t134 t135 t136 x11_9 true) else ((pluvialref04_In.f kj9 a0 t140).bind fun t144 => (if t144 = true then ((pluvialref04_In.f kj9 a0 (wrap64 (t140 + 1))).bind fun t145 => (if t145 = true then (pluviallaw04_BoundPlaces.j2 kj9 a0 a1 a2 t133 t134 t135 t136 x11_9 true) else (pluviallaw04_BoundPlaces.j2 kj9 a0 a1 a2 t133 t134 t135 t136 x11_9 false))) else (pluviallaw04_BoundPlaces.j2 kj9 a0 a1 a2 t133 t134 t135 t136 x11_9 true))))) else (pluviallaw04_BoundPlaces.j2 kj9 a0 a1 a2 t133 t134 t135 t136 x11_9 true))) else (if t139 = 1 then (pluviallaw04_BoundPlaces.j2 kj9 a0 a1 a2 t133 t134 t135 t136 x11_9 (t140 != 0)) else (pluviallaw04_BoundPlaces.j2 kj9 a0 a1 a2 t133 t134 t135 t136 x11_9 true))) = some r := H
              have A18 := Aside0.mk A180
              clear A180
              by_cases c19 : t141 = true
              · subst c19
                have H1 : ((pluvialref04_In.f kj9 a0 t139).bind fun t142 => (if t142 = true then ((pluvialref04_In.f kj9 a0 (wrap64 (t139 - 1))).bind fun t143 => (if t143 = true then (pluviallaw04_BoundPlaces.j2 kj9 a0 a1 a2 t133 t134 t135 t136 x11_9 true) else ((pluvialref04_In.f kj9 a0 t140).bind fun t144 => (if t144 = true then ((pluvialref04_In.f kj9 a0 (wrap64 (t140 + 1))).bind fun t145 => (if t145 = true then (pluviallaw04_BoundPlaces.j2 kj9 a0 a1 a2 t133 t134 t135 t136 x11_9 true) else (pluviallaw04_BoundPlaces.j2 kj9 a0 a1 a2 t133 t134 t135 t136 x11_9 false))) else (pluviallaw04_BoundPlaces.j2 kj9 a0 a1 a2 t133 t134 t135 t136 x11_9 true))))) else (pluviallaw04_BoundPlaces.j2 kj9 a0 a1 a2 t133 t134 t135 t136 x11_9 true))) = some r := by rw [if_pos rfl] at H; exact H
                clear H
                have H := H1
                clear H1
                replace H := Option.bind_eq_some_iff.mp H
                obtain ⟨t142, A200, H⟩ := H
                replace H : (if t142 = true then ((pluvialref04_In.f kj9 a0 (wrap64 (t139 - 1))).bind fun t143 => (if t143 = true then (pluviallaw04_BoundPlaces.j2 kj9 a0 a1 a2 t133 t134 t135 t136 x11_9 true) else ((pluvialref04_In.f kj9 a0 t140).bind fun t144 => (if t144 = true then ((pluvialref04_In.f kj9 a0 (wrap64 (t140 + 1))).bind fun t145 => (if t145 = true then (pluviallaw04_BoundPlaces.j2 kj9 a0 a1 a2 t133 t134 t135 t136 x11_9 true) else (pluviallaw04_BoundPlaces.j2 kj9 a0 a1 a2 t133 t134 t135 t136 x11_9 false))) else (pluviallaw04_BoundPlaces.j2 kj9 a0 a1 a2 t133 t134 t135 t136 x11_9 true))))) else (pluviallaw04_BoundPlaces.j2 kj9 a0 a1 a2 t133 t134 t135 t136 x11_9 true)) = some r := H
                have A20 := Aside0.mk A200
                clear A200
                by_cases c21 : t142 = true
                · subst c21
                  have H1 : ((pluvialref04_In.f kj9 a0 (wrap64 (t139 - 1))).bind fun t143 => (if t143 = true then (pluviallaw04_BoundPlaces.j2 kj9 a0 a1 a2 t133 t134 t135 t136 x11_9 true) else ((pluvialref04_In.f kj9 a0 t140).bind fun t144 => (if t144 = true then ((pluvialref04_In.f kj9 a0 (wrap64 (t140 + 1))).bind fun t145 => (if t145 = true then (pluviallaw04_BoundPlaces.j2 kj9 a0 a1 a2 t133 t134 t135 t136 x11_9 true) else (pluviallaw04_BoundPlaces.j2 kj9 a0 a1 a2 t133 t134 t135 t136 x11_9 false))) else (pluviallaw04_BoundPlaces.j2 kj9 a0 a1 a2 t133 t134 t135 t136 x11_9 true))))) = some r := by rw [if_pos rfl] at H; exact H
                  clear H
                  have H := H1
                  clear H1
                  replace H := Option.bind_eq_some_iff.mp H
                  obtain ⟨t143, A220, H⟩ := H
                  replace H : (if t143 = true then (pluviallaw04_BoundPlaces.j2 kj9 a0 a1 a2 t133 t134 t135 t136 x11_9 true) else ((pluvialref04_In.f kj9 a0 t140).bind fun t144 => (if t144 = true then ((pluvialref04_In.f kj9 a0 (wrap64 (t140 + 1))).bind fun t145 => (if t145 = true then (pluviallaw04_BoundPlaces.j2 kj9 a0 a1 a2 t133 t134 t135 t136 x11_9 true) else (pluviallaw04_BoundPlaces.j2 kj9 a0 a1 a2 t133 t134 t135 t136 x11_9 false))) else (pluviallaw04_BoundPlaces.j2 kj9 a0 a1 a2 t133 t134 t135 t136 x11_9 true)))) = some r := H
                  have A22 := Aside0.mk A220
                  clear A220
                  by_cases c23 : t143 = true
                  · subst c23
                    have H1 : (pluviallaw04_BoundPlaces.j2 kj9 a0 a1 a2 t133 t134 t135 t136 x11_9 true) = some r := by rw [if_pos rfl] at H; exact H
                    clear H
                    have H := H1
                    clear H1
                    have H' := Aside0.mk H
                    clear H
                    go_wp2_with (first | (go_at_call 18; (with_reducible refine (pluvialref04_Right.calls a0 true _ A18.out).mono ?_); rintro e w' ⟨rfl, ⟨nd, rfl⟩⟩) | (go_at_call 20; (with_reducible refine (pluvialref04_In.calls kj9 a0 t139 true _ A20.out).mono ?_); rintro e w' ⟨rfl, ⟨nd, rfl⟩⟩) | (go_at_call 20; (with_reducible refine (pluvialref04_In.calls kj9 a0 (wrap64 (t139 - 1)) true _ A22.out).mono ?_); rintro e w' ⟨rfl, ⟨nd, rfl⟩⟩))
                    go_meet
                    case rel => exact ⟨_, (true), (by first | rfl | (simp; done) | (simp [*]; done)), H', ⟨by have := HJ3.out; have := HJ9.out; first | omega | exact Nat.le_refl _⟩, by repeat (first | exact Drawn0.refl _ | apply Drawn0.step)⟩
                  · replace c23 := Bool.eq_false_iff.mpr c23
                    subst c23
                    have H1 : ((pluvialref04_In.f kj9 a0 t140).bind fun t144 => (if t144 = true then ((pluvialref04_In.f kj9 a0 (wrap64 (t140 + 1))).bind fun t145 => (if t145 = true then (pluviallaw04_BoundPlaces.j2 kj9 a0 a1 a2 t133 t134 t135 t136 x11_9 true) else (pluviallaw04_BoundPlaces.j2 kj9 a0 a1 a2 t133 t134 t135 t136 x11_9 false))) else (pluviallaw04_BoundPlaces.j2 kj9 a0 a1 a2 t133 t134 t135 t136 x11_9 true))) = some r := by rw [if_neg (show ¬ (false = true) by decide)] at H; exact H
                    clear H
                    have H := H1
                    clear H1
                    replace H := Option.bind_eq_some_iff.mp H
                    obtain ⟨t144, A240, H⟩ := H
                    replace H : (if t144 = true then ((pluvialref04_In.f kj9 a0 (wrap64 (t140 + 1))).bind fun t145 => (if t145 = true then (pluviallaw04_BoundPlaces.j2 kj9 a0 a1 a2 t133 t134 t135 t136 x11_9 true) else (pluviallaw04_BoundPlaces.j2 kj9 a0 a1 a2 t133 t134 t135 t136 x11_9 false))) else (pluviallaw04_BoundPlaces.j2 kj9 a0 a1 a2 t133 t134 t135 t136 x11_9 true)) = some r := H
                    have A24 := Aside0.mk A240
                    clear A240
                    by_cases c25 : t144 = true
                    · subst c25
                      have H1 : ((pluvialref04_In.f kj9 a0 (wrap64 (t140 + 1))).bind fun t145 => (if t145 = true then (pluviallaw04_BoundPlaces.j2 kj9 a0 a1 a2 t133 t134 t135 t136 x11_9 true) else (pluviallaw04_BoundPlaces.j2 kj9 a0 a1 a2 t133 t134 t135 t136 x11_9 false))) = some r := by rw [if_pos rfl] at H; exact H
                      clear H
                      have H := H1
                      clear H1
                      replace H := Option.bind_eq_some_iff.mp H
                      obtain ⟨t145, A260, H⟩ := H
                      replace H : (if t145 = true then (pluviallaw04_BoundPlaces.j2 kj9 a0 a1 a2 t133 t134 t135 t136 x11_9 true) else (pluviallaw04_BoundPlaces.j2 kj9 a0 a1 a2 t133 t134 t135 t136 x11_9 false)) = some r := H
                      have A26 := Aside0.mk A260
                      clear A260
                      by_cases c27 : t145 = true
                      · subst c27
                        have H1 : (pluviallaw04_BoundPlaces.j2 kj9 a0 a1 a2 t133 t134 t135 t136 x11_9 true) = some r := by rw [if_pos rfl] at H; exact H
                        clear H
                        have H := H1
                        clear H1
                        have H' := Aside0.mk H
                        clear H
                        go_wp2_with (first | (go_at_call 18; (with_reducible refine (pluvialref04_Right.calls a0 true _ A18.out).mono ?_); rintro e w' ⟨rfl, ⟨nd, rfl⟩⟩) | (go_at_call 20; (with_reducible refine (pluvialref04_In.calls kj9 a0 t139 true _ A20.out).mono ?_); rintro e w' ⟨rfl, ⟨nd, rfl⟩⟩) | (go_at_call 20; (with_reducible refine (pluvialref04_In.calls kj9 a0 (wrap64 (t139 - 1)) false _ A22.out).mono ?_); rintro e w' ⟨rfl, ⟨nd, rfl⟩⟩) | (go_at_call 20; (with_reducible refine (pluvialref04_In.calls kj9 a0 t140 true _ A24.out).mono ?_); rintro e w' ⟨rfl, ⟨nd, rfl⟩⟩) | (go_at_call 20; (with_reducible refine (pluvialref04_In.calls kj9 a0 (wrap64 (t140 + 1)) true _ A26.out).mono ?_); rintro e w' ⟨rfl, ⟨nd, rfl⟩⟩))
                        go_meet
                        case rel => exact ⟨_, (true), (by first | rfl | (simp; done) | (simp [*]; done)), H', ⟨by have := HJ3.out; have := HJ9.out; first | omega | exact Nat.le_refl _⟩, by repeat (first | exact Drawn0.refl _ | apply Drawn0.step)⟩
                      · replace c27 := Bool.eq_false_iff.mpr c27
                        subst c27
                        have H1 : (pluviallaw04_BoundPlaces.j2 kj9 a0 a1 a2 t133 t134 t135 t136 x11_9 false) = some r := by rw [if_neg (show ¬ (false = true) by decide)] at H; exact H
                        clear H
                        have H := H1
                        clear H1
                        have H' := Aside0.mk H
                        clear H
                        go_wp2_with (first | (go_at_call 18; (with_reducible refine (pluvialref04_Right.calls a0 true _ A18.out).mono ?_); rintro e w' ⟨rfl, ⟨nd, rfl⟩⟩) | (go_at_call 20; (with_reducible refine (pluvialref04_In.calls kj9 a0 t139 true _ A20.out).mono ?_); rintro e w' ⟨rfl, ⟨nd, rfl⟩⟩) | (go_at_call 20; (with_reducible refine (pluvialref04_In.calls kj9 a0 (wrap64 (t139 - 1)) false _ A22.out).mono ?_); rintro e w' ⟨rfl, ⟨nd, rfl⟩⟩) | (go_at_call 20; (with_reducible refine (pluvialref04_In.calls kj9 a0 t140 true _ A24.out).mono ?_); rintro e w' ⟨rfl, ⟨nd, rfl⟩⟩) | (go_at_call 20; (with_reducible refine (pluvialref04_In.calls kj9 a0 (wrap64 (t140 + 1)) false _ A26.out).mono ?_); rintro e w' ⟨rfl, ⟨nd, rfl⟩⟩))
                        go_meet
                        case rel => exact ⟨_, (false), (by first | rfl | (simp; done) | (simp [*]; done)), H', ⟨by have := HJ3.out; have := HJ9.out; first | omega | exact Nat.le_refl _⟩, by repeat (first | exact Drawn0.refl _ | apply Drawn0.step)⟩
                    · replace c25 := Bool.eq_false_iff.mpr c25
                      subst c25
                      have H1 : (pluviallaw04_BoundPlaces.j2 kj9 a0 a1 a2 t133 t134 t135 t136 x11_9 true) = some r := by rw [if_neg (show ¬ (false = true) by decide)] at H; exact H
                      clear H
                      have H := H1
                      clear H1
                      have H' := Aside0.mk H
                      clear H
                      go_wp2_with (first | (go_at_call 18; (with_reducible refine (pluvialref04_Right.calls a0 true _ A18.out).mono ?_); rintro e w' ⟨rfl, ⟨nd, rfl⟩⟩) | (go_at_call 20; (with_reducible refine (pluvialref04_In.calls kj9 a0 t139 true _ A20.out).mono ?_); rintro e w' ⟨rfl, ⟨nd, rfl⟩⟩) | (go_at_call 20; (with_reducible refine (pluvialref04_In.calls kj9 a0 (wrap64 (t139 - 1)) false _ A22.out).mono ?_); rintro e w' ⟨rfl, ⟨nd, rfl⟩⟩) | (go_at_call 20; (with_reducible refine (pluvialref04_In.calls kj9 a0 t140 false _ A24.out).mono ?_); rintro e w' ⟨rfl, ⟨nd, rfl⟩⟩))
                      go_meet
                      case rel => exact ⟨_, (true), (by first | rfl | (simp; done) | (simp [*]; done)), H', ⟨by have := HJ3.out; have := HJ9.out; first | omega | exact Nat.le_refl _⟩, by repeat (first | exact Drawn0.refl _ | apply Drawn0.step)⟩
                · replace c21 := Bool.eq_false_iff.mpr c21
                  subst c21
                  have H1 : (pluviallaw04_BoundPlaces.j2 kj9 a0 a1 a2 t133 t134 t135 t136 x11_9 true) = some r := by rw [if_neg (show ¬ (false = true) by decide)] at H; exact H
                  clear H
                  have H := H1
                  clear H1
                  have H' := Aside0.mk H
                  clear H
                  go_wp2_with (first | (go_at_call 18; (with_reducible refine (pluvialref04_Right.calls a0 true _ A18.out).mono ?_); rintro e w' ⟨rfl, ⟨nd, rfl⟩⟩) | (go_at_call 20; (with_reducible refine (pluvialref04_In.calls kj9 a0 t139 false _ A20.out).mono ?_); rintro e w' ⟨rfl, ⟨nd, rfl⟩⟩))
                  go_meet
                  case rel => exact ⟨_, (true), (by first | rfl | (simp; done) | (simp [*]; done)), H', ⟨by have := HJ3.out; have := HJ9.out; first | omega | exact Nat.le_refl _⟩, by repeat (first | exact Drawn0.refl _ | apply Drawn0.step)⟩
              · replace c19 := Bool.eq_false_iff.mpr c19
                subst c19
                have H1 : (if t139 = 1 then (pluviallaw04_BoundPlaces.j2 kj9 a0 a1 a2 t133 t134 t135 t136 x11_9 (t140 != 0)) else (pluviallaw04_BoundPlaces.j2 kj9 a0 a1 a2 t133 t134 t135 t136 x11_9 true)) = some r := by rw [if_neg (show ¬ (false = true) by decide)] at H; exact H
                clear H
                have H := H1
                clear H1
                by_cases c28 : t139 = 1
                · rw [if_pos c28] at H
                  have c28b0 : (t139 == 1) = true := beq_iff_eq.mpr c28
                  have c28b1 : (t139 != 1) = false := bne_eq_false_iff_eq.mpr c28
                  clear c28
                  (first | rw [c28b0] | (simp only [i64_w, i32_w]; rw [c28b0]) | skip)
                  have H' := Aside0.mk H
                  clear H
                  go_wp2_with (first | (go_at_call 18; (with_reducible refine (pluvialref04_Right.calls a0 false _ A18.out).mono ?_); rintro e w' ⟨rfl, ⟨nd, rfl⟩⟩))
                  go_meet
                  case rel => exact ⟨_, ((t140 != 0)), (by first | rfl | (simp; done) | (simp [*]; done)), H', ⟨by have := HJ3.out; have := HJ9.out; first | omega | exact Nat.le_refl _⟩, by repeat (first | exact Drawn0.refl _ | apply Drawn0.step)⟩
                · rw [if_neg c28] at H
                  have c28b0 : (t139 == 1) = false := beq_eq_false_iff_ne.mpr c28
                  have c28b1 : (t139 != 1) = true := bne_iff_ne.mpr c28
                  (first | rw [c28b0] | (simp only [i64_w, i32_w]; rw [c28b0]) | skip)
                  have H' := Aside0.mk H
                  clear H
                  go_wp2_with (first | (go_at_call 18; (with_reducible refine (pluvialref04_Right.calls a0 false _ A18.out).mono ?_); rintro e w' ⟨rfl, ⟨nd, rfl⟩⟩))
                  go_meet
                  case rel => exact ⟨_, (true), (by first | rfl | (simp; done) | (simp [*]; done)), H', ⟨by have := HJ3.out; have := HJ9.out; first | omega | exact Nat.le_refl _⟩, by repeat (first | exact Drawn0.refl _ | apply Drawn0.step)⟩
            case rest =>
              clear HC17
              try clear c1
              try clear c2
              try clear p2
              try clear c3
              try clear c5
              try clear c5b0
              try clear c6
              try clear p6
              try clear c9
              try clear c12
              try clear c14
              try clear c14b0
              try clear c14b1
              try clear c19
              try clear c21
              try clear c23
              try clear c25
              try clear c27
              try clear c28
              try clear c28b0
              try clear c28b1
              try clear p2
              obtain ⟨kq, x84_16, rfl, HA, HJ16, ⟨mc16, rfl⟩⟩ := hcut
              cases kq with
              | zero => exact absurd HA.out (by simp [pluviallaw04_BoundPlaces.j2])
              | succ kj16 =>
                have H := HA.out
                clear HA
                simp only [pluviallaw04_BoundPlaces.j2] at H
                by_cases c29 : x84_16 = true
                · subst c29
                  have H1 : (some false) = some r := by rw [if_pos rfl] at H; exact H
                  clear H
                  have H := H1
                  clear H1
                  obtain rfl := Option.some.inj H
                  go_wp2
                  go_ret
                  exact ⟨by first | rfl | (simp; done) | (simp [*]; done), by repeat (first | exact Drawn0.refl _ | apply Drawn0.step)⟩
                · replace c29 := Bool.eq_false_iff.mpr c29
                  subst c29
                  have H1 : ((pluviallaw04_awake.f kj16).bind fun t146 => (if t146 = true then ((bound_Right.f a0).bind fun t147 => ((pluvialref04_Right.f a0).bind fun t148 => (if (t147 == t148) = true then ((bound_Units.f a0 a1).bind fun t149 => ((pluvialref04_Units.f kj16 a0 a1).bind fun t150 => (if t149 = t150 then ((bound_Low.f a0 a1).bind fun t151 => ((pluvialref04_Units.f kj16 a0 (wrap64 (a1 - 1))).bind fun t152 => (if t151 = t152 then ((bound_In.f a0 a1).bind fun t153 => ((pluvialref04_In.f kj16 a0 a1).bind fun t154 => (if (t153 == t154) = true then (if t133 = t135 then (if (t134 == t136) = true then ((bound_Whole.f a0 a2).bind fun t155 => (some (t155 == x11_9))) else (some false)) else (some false)) else (some false)))) else (some false)))) else (some false)))) else (some false)))) else (some false))) = some r := by rw [if_neg (show ¬ (false = true) by decide)] at H; exact H
                  clear H
                  have H := H1
                  clear H1
                  replace H := Option.bind_eq_some_iff.mp H
                  obtain ⟨t146, A300, H⟩ := H
                  replace H : (if t146 = true then ((bound_Right.f a0).bind fun t147 => ((pluvialref04_Right.f a0).bind fun t148 => (if (t147 == t148) = true then ((bound_Units.f a0 a1).bind fun t149 => ((pluvialref04_Units.f kj16 a0 a1).bind fun t150 => (if t149 = t150 then ((bound_Low.f a0 a1).bind fun t151 => ((pluvialref04_Units.f kj16 a0 (wrap64 (a1 - 1))).bind fun t152 => (if t151 = t152 then ((bound_In.f a0 a1).bind fun t153 => ((pluvialref04_In.f kj16 a0 a1).bind fun t154 => (if (t153 == t154) = true then (if t133 = t135 then (if (t134 == t136) = true then ((bound_Whole.f a0 a2).bind fun t155 => (some (t155 == x11_9))) else (some false)) else (some false)) else (some false)))) else (some false)))) else (some false)))) else (some false)))) else (some false)) = some r := H
                  have A30 := Aside0.mk A300
                  clear A300
                  by_cases c31 : t146 = true
                  · subst c31
                    have H1 : ((bound_Right.f a0).bind fun t147 => ((pluvialref04_Right.f a0).bind fun t148 => (if (t147 == t148) = true then ((bound_Units.f a0 a1).bind fun t149 => ((pluvialref04_Units.f kj16 a0 a1).bind fun t150 => (if t149 = t150 then ((bound_Low.f a0 a1).bind fun t151 => ((pluvialref04_Units.f kj16 a0 (wrap64 (a1 - 1))).bind fun t152 => (if t151 = t152 then ((bound_In.f a0 a1).bind fun t153 => ((pluvialref04_In.f kj16 a0 a1).bind fun t154 => (if (t153 == t154) = true then (if t133 = t135 then (if (t134 == t136) = true then ((bound_Whole.f a0 a2).bind fun t155 => (some (t155 == x11_9))) else (some false)) else (some false)) else (some false)))) else (some false)))) else (some false)))) else (some false)))) = some r := by rw [if_pos rfl] at H; exact H
                    clear H
                    have H := H1
                    clear H1
                    replace H := Option.bind_eq_some_iff.mp H
                    obtain ⟨t147, A320, H⟩ := H
                    replace H : ((pluvialref04_Right.f a0).bind fun t148 => (if (t147 == t148) = true then ((bound_Units.f a0 a1).bind fun t149 => ((pluvialref04_Units.f kj16 a0 a1).bind fun t150 => (if t149 = t150 then ((bound_Low.f a0 a1).bind fun t151 => ((pluvialref04_Units.f kj16 a0 (wrap64 (a1 - 1))).bind fun t152 => (if t151 = t152 then ((bound_In.f a0 a1).bind fun t153 => ((pluvialref04_In.f kj16 a0 a1).bind fun t154 => (if (t153 == t154) = true then (if t133 = t135 then (if (t134 == t136) = true then ((bound_Whole.f a0 a2).bind fun t155 => (some (t155 == x11_9))) else (some false)) else (some false)) else (some false)))) else (some false)))) else (some false)))) else (some false))) = some r := H
                    have A32 := Aside0.mk A320
                    clear A320
                    replace H := Option.bind_eq_some_iff.mp H
                    obtain ⟨t148, A330, H⟩ := H
                    replace H : (if (t147 == t148) = true then ((bound_Units.f a0 a1).bind fun t149 => ((pluvialref04_Units.f kj16 a0 a1).bind fun t150 => (if t149 = t150 then ((bound_Low.f a0 a1).bind fun t151 => ((pluvialref04_Units.f kj16 a0 (wrap64 (a1 - 1))).bind fun t152 => (if t151 = t152 then ((bound_In.f a0 a1).bind fun t153 => ((pluvialref04_In.f kj16 a0 a1).bind fun t154 => (if (t153 == t154) = true then (if t133 = t135 then (if (t134 == t136) = true then ((bound_Whole.f a0 a2).bind fun t155 => (some (t155 == x11_9))) else (some false)) else (some false)) else (some false)))) else (some false)))) else (some false)))) else (some false)) = some r := H
                    have A33 := Aside0.mk A330
                    clear A330
                    by_cases c34 : (t147 == t148) = true
                    · rw [if_pos c34] at H
                      have c34b0 : (t147 == t148) = true := c34
                      (try (have c34b1 : decide (t147 = t148) = true := by simpa using c34))
                      (try (have c34b2 : (t147 == t148) = true := by simpa using c34))
                      clear c34
                      replace H := Option.bind_eq_some_iff.mp H
                      obtain ⟨t149, A350, H⟩ := H
                      replace H : ((pluvialref04_Units.f kj16 a0 a1).bind fun t150 => (if t149 = t150 then ((bound_Low.f a0 a1).bind fun t151 => ((pluvialref04_Units.f kj16 a0 (wrap64 (a1 - 1))).bind fun t152 => (if t151 = t152 then ((bound_In.f a0 a1).bind fun t153 => ((pluvialref04_In.f kj16 a0 a1).bind fun t154 => (if (t153 == t154) = true then (if t133 = t135 then (if (t134 == t136) = true then ((bound_Whole.f a0 a2).bind fun t155 => (some (t155 == x11_9))) else (some false)) else (some false)) else (some false)))) else (some false)))) else (some false))) = some r := H
                      have A35 := Aside0.mk A350
                      clear A350
                      replace H := Option.bind_eq_some_iff.mp H
                      obtain ⟨t150, A360, H⟩ := H
                      replace H : (if t149 = t150 then ((bound_Low.f a0 a1).bind fun t151 => ((pluvialref04_Units.f kj16 a0 (wrap64 (a1 - 1))).bind fun t152 => (if t151 = t152 then ((bound_In.f a0 a1).bind fun t153 => ((pluvialref04_In.f kj16 a0 a1).bind fun t154 => (if (t153 == t154) = true then (if t133 = t135 then (if (t134 == t136) = true then ((bound_Whole.f a0 a2).bind fun t155 => (some (t155 == x11_9))) else (some false)) else (some false)) else (some false)))) else (some false)))) else (some false)) = some r := H
                      have A36 := Aside0.mk A360
                      clear A360
                      by_cases c37 : t149 = t150
                      · rw [if_pos c37] at H
                        have c37b0 : (t149 == t150) = true := beq_iff_eq.mpr c37
                        have c37b1 : (t149 != t150) = false := bne_eq_false_iff_eq.mpr c37
                        clear c37
                        replace H := Option.bind_eq_some_iff.mp H
                        obtain ⟨t151, A380, H⟩ := H
                        replace H : ((pluvialref04_Units.f kj16 a0 (wrap64 (a1 - 1))).bind fun t152 => (if t151 = t152 then ((bound_In.f a0 a1).bind fun t153 => ((pluvialref04_In.f kj16 a0 a1).bind fun t154 => (if (t153 == t154) = true then (if t133 = t135 then (if (t134 == t136) = true then ((bound_Whole.f a0 a2).bind fun t155 => (some (t155 == x11_9))) else (some false)) else (some false)) else (some false)))) else (some false))) = some r := H
                        have A38 := Aside0.mk A380
                        clear A380
                        replace H := Option.bind_eq_some_iff.mp H
                        obtain ⟨t152, A390, H⟩ := H
                        replace H : (if t151 = t152 then ((bound_In.f a0 a1).bind fun t153 => ((pluvialref04_In.f kj16 a0 a1).bind fun t154 => (if (t153 == t154) = true then (if t133 = t135 then (if (t134 == t136) = true then ((bound_Whole.f a0 a2).bind fun t155 => (some (t155 == x11_9))) else (some false)) else (some false)) else (some false)))) else (some false)) = some r := H
                        have A39 := Aside0.mk A390
                        clear A390
                        by_cases c40 : t151 = t152
                        · rw [if_pos c40] at H
                          have c40b0 : (t151 == t152) = true := beq_iff_eq.mpr c40
                          have c40b1 : (t151 != t152) = false := bne_eq_false_iff_eq.mpr c40
                          clear c40
                          replace H := Option.bind_eq_some_iff.mp H
                          obtain ⟨t153, A410, H⟩ := H
                          replace H : ((pluvialref04_In.f kj16 a0 a1).bind fun t154 => (if (t153 == t154) = true then (if t133 = t135 then (if (t134 == t136) = true then ((bound_Whole.f a0 a2).bind fun t155 => (some (t155 == x11_9))) else (some false)) else (some false)) else (some false))) = some r := H
                          have A41 := Aside0.mk A410
                          clear A410
                          replace H := Option.bind_eq_some_iff.mp H
                          obtain ⟨t154, A420, H⟩ := H
                          replace H : (if (t153 == t154) = true then (if t133 = t135 then (if (t134 == t136) = true then ((bound_Whole.f a0 a2).bind fun t155 => (some (t155 == x11_9))) else (some false)) else (some false)) else (some false)) = some r := H
                          have A42 := Aside0.mk A420
                          clear A420
                          by_cases c43 : (t153 == t154) = true
                          · rw [if_pos c43] at H
                            have c43b0 : (t153 == t154) = true := c43
                            (try (have c43b1 : decide (t153 = t154) = true := by simpa using c43))
                            (try (have c43b2 : (t153 == t154) = true := by simpa using c43))
                            clear c43
                            by_cases c44 : t133 = t135
                            · rw [if_pos c44] at H
                              have c44b0 : (t133 == t135) = true := beq_iff_eq.mpr c44
                              have c44b1 : (t133 != t135) = false := bne_eq_false_iff_eq.mpr c44
                              clear c44
                              by_cases c45 : (t134 == t136) = true
                              · rw [if_pos c45] at H
                                have c45b0 : (t134 == t136) = true := c45
                                (try (have c45b1 : decide (t134 = t136) = true := by simpa using c45))
                                (try (have c45b2 : (t134 == t136) = true := by simpa using c45))
                                clear c45
                                replace H := Option.bind_eq_some_iff.mp H
                                obtain ⟨t155, A460, H⟩ := H
                                replace H : (some (t155 == x11_9)) = some r := H
                                have A46 := Aside0.mk A460
                                clear A460
                                obtain rfl := Option.some.inj H
                                go_wp2_with (first | (go_at_call 8; (with_reducible refine (pluviallaw04_awake.calls kj16  true _ A30.out).mono ?_); rintro e w' ⟨rfl, ⟨nd, rfl⟩⟩) | (go_at_call 21; (with_reducible refine (bound_Right.calls a0 t147 _ A32.out).mono ?_); rintro e w' ⟨rfl, ⟨nd, rfl⟩⟩) | (go_at_call 18; (with_reducible refine (pluvialref04_Right.calls a0 t148 _ A33.out).mono ?_); rintro e w' ⟨rfl, ⟨nd, rfl⟩⟩) | (go_at_call 12; (with_reducible refine (bound_Units.calls a0 a1 t149 _ A35.out).mono ?_); rintro e w' ⟨rfl, ⟨nd, rfl⟩⟩) | (go_at_call 19; (with_reducible refine (pluvialref04_Units.calls kj16 a0 a1 t150 _ A36.out).mono ?_); rintro e w' ⟨rfl, ⟨nd, rfl⟩⟩) | (go_at_call 11; (with_reducible refine (bound_Low.calls a0 a1 t151 _ A38.out).mono ?_); rintro e w' ⟨rfl, ⟨nd, rfl⟩⟩) | (go_at_call 19; (with_reducible refine (pluvialref04_Units.calls kj16 a0 (wrap64 (a1 - 1)) t152 _ A39.out).mono ?_); rintro e w' ⟨rfl, ⟨nd, rfl⟩⟩) | (go_at_call 22; (with_reducible refine (bound_In.calls a0 a1 t153 _ A41.out).mono ?_); rintro e w' ⟨rfl, ⟨nd, rfl⟩⟩) | (go_at_call 20; (with_reducible refine (pluvialref04_In.calls kj16 a0 a1 t154 _ A42.out).mono ?_); rintro e w' ⟨rfl, ⟨nd, rfl⟩⟩) | (go_at_call 23; (with_reducible refine (bound_Whole.calls a0 a2 t155 _ A46.out).mono ?_); rintro e w' ⟨rfl, ⟨nd, rfl⟩⟩))
                                go_ret
                                exact ⟨by first | rfl | (simp; done) | (simp [*]; done), by repeat (first | exact Drawn0.refl _ | apply Drawn0.step)⟩
                              · rw [if_neg c45] at H
                                have c45b0 : (t134 == t136) = false := by simpa using c45
                                (try (have c45b1 : decide (t134 = t136) = false := by simpa using c45))
                                (try (have c45b2 : (t134 == t136) = false := by simpa using c45))
                                (try (have c45b3 : ¬ (t134 = t136) := by simpa using c45))
                                clear c45
                                obtain rfl := Option.some.inj H
                                go_wp2_with (first | (go_at_call 8; (with_reducible refine (pluviallaw04_awake.calls kj16  true _ A30.out).mono ?_); rintro e w' ⟨rfl, ⟨nd, rfl⟩⟩) | (go_at_call 21; (with_reducible refine (bound_Right.calls a0 t147 _ A32.out).mono ?_); rintro e w' ⟨rfl, ⟨nd, rfl⟩⟩) | (go_at_call 18; (with_reducible refine (pluvialref04_Right.calls a0 t148 _ A33.out).mono ?_); rintro e w' ⟨rfl, ⟨nd, rfl⟩⟩) | (go_at_call 12; (with_reducible refine (bound_Units.calls a0 a1 t149 _ A35.out).mono ?_); rintro e w' ⟨rfl, ⟨nd, rfl⟩⟩) | (go_at_call 19; (with_reducible refine (pluvialref04_Units.calls kj16 a0 a1 t150 _ A36.out).mono ?_); rintro e w' ⟨rfl, ⟨nd, rfl⟩⟩) | (go_at_call 11; (with_reducible refine (bound_Low.calls a0 a1 t151 _ A38.out).mono ?_); rintro e w' ⟨rfl, ⟨nd, rfl⟩⟩) | (go_at_call 19; (with_reducible refine (pluvialref04_Units.calls kj16 a0 (wrap64 (a1 - 1)) t152 _ A39.out).mono ?_); rintro e w' ⟨rfl, ⟨nd, rfl⟩⟩) | (go_at_call 22; (with_reducible refine (bound_In.calls a0 a1 t153 _ A41.out).mono ?_); rintro e w' ⟨rfl, ⟨nd, rfl⟩⟩) | (go_at_call 20; (with_reducible refine (pluvialref04_In.calls kj16 a0 a1 t154 _ A42.out).mono ?_); rintro e w' ⟨rfl, ⟨nd, rfl⟩⟩))
                                go_ret
                                exact ⟨by first | rfl | (simp; done) | (simp [*]; done), by repeat (first | exact Drawn0.refl _ | apply Drawn0.step)⟩
                            · rw [if_neg c44] at H
                              have c44b0 : (t133 == t135) = false := beq_eq_false_iff_ne.mpr c44
                              have c44b1 : (t133 != t135) = true := bne_iff_ne.mpr c44
                              obtain rfl := Option.some.inj H
                              go_wp2_with (first | (go_at_call 8; (with_reducible refine (pluviallaw04_awake.calls kj16  true _ A30.out).mono ?_); rintro e w' ⟨rfl, ⟨nd, rfl⟩⟩) | (go_at_call 21; (with_reducible refine (bound_Right.calls a0 t147 _ A32.out).mono ?_); rintro e w' ⟨rfl, ⟨nd, rfl⟩⟩) | (go_at_call 18; (with_reducible refine (pluvialref04_Right.calls a0 t148 _ A33.out).mono ?_); rintro e w' ⟨rfl, ⟨nd, rfl⟩⟩) | (go_at_call 12; (with_reducible refine (bound_Units.calls a0 a1 t149 _ A35.out).mono ?_); rintro e w' ⟨rfl, ⟨nd, rfl⟩⟩) | (go_at_call 19; (with_reducible refine (pluvialref04_Units.calls kj16 a0 a1 t150 _ A36.out).mono ?_); rintro e w' ⟨rfl, ⟨nd, rfl⟩⟩) | (go_at_call 11; (with_reducible refine (bound_Low.calls a0 a1 t151 _ A38.out).mono ?_); rintro e w' ⟨rfl, ⟨nd, rfl⟩⟩) | (go_at_call 19; (with_reducible refine (pluvialref04_Units.calls kj16 a0 (wrap64 (a1 - 1)) t152 _ A39.out).mono ?_); rintro e w' ⟨rfl, ⟨nd, rfl⟩⟩) | (go_at_call 22; (with_reducible refine (bound_In.calls a0 a1 t153 _ A41.out).mono ?_); rintro e w' ⟨rfl, ⟨nd, rfl⟩⟩) | (go_at_call 20; (with_reducible refine (pluvialref04_In.calls kj16 a0 a1 t154 _ A42.out).mono ?_); rintro e w' ⟨rfl, ⟨nd, rfl⟩⟩))
                              go_ret
                              exact ⟨by first | rfl | (simp; done) | (simp [*]; done), by repeat (first | exact Drawn0.refl _ | apply Drawn0.step)⟩
                          · rw [if_neg c43] at H
                            have c43b0 : (t153 == t154) = false := by simpa using c43
                            (try (have c43b1 : decide (t153 = t154) = false := by simpa using c43))
                            (try (have c43b2 : (t153 == t154) = false := by simpa using c43))
                            (try (have c43b3 : ¬ (t153 = t154) := by simpa using c43))
                            clear c43
                            obtain rfl := Option.some.inj H
                            go_wp2_with (first | (go_at_call 8; (with_reducible refine (pluviallaw04_awake.calls kj16  true _ A30.out).mono ?_); rintro e w' ⟨rfl, ⟨nd, rfl⟩⟩) | (go_at_call 21; (with_reducible refine (bound_Right.calls a0 t147 _ A32.out).mono ?_); rintro e w' ⟨rfl, ⟨nd, rfl⟩⟩) | (go_at_call 18; (with_reducible refine (pluvialref04_Right.calls a0 t148 _ A33.out).mono ?_); rintro e w' ⟨rfl, ⟨nd, rfl⟩⟩) | (go_at_call 12; (with_reducible refine (bound_Units.calls a0 a1 t149 _ A35.out).mono ?_); rintro e w' ⟨rfl, ⟨nd, rfl⟩⟩) | (go_at_call 19; (with_reducible refine (pluvialref04_Units.calls kj16 a0 a1 t150 _ A36.out).mono ?_); rintro e w' ⟨rfl, ⟨nd, rfl⟩⟩) | (go_at_call 11; (with_reducible refine (bound_Low.calls a0 a1 t151 _ A38.out).mono ?_); rintro e w' ⟨rfl, ⟨nd, rfl⟩⟩) | (go_at_call 19; (with_reducible refine (pluvialref04_Units.calls kj16 a0 (wrap64 (a1 - 1)) t152 _ A39.out).mono ?_); rintro e w' ⟨rfl, ⟨nd, rfl⟩⟩) | (go_at_call 22; (with_reducible refine (bound_In.calls a0 a1 t153 _ A41.out).mono ?_); rintro e w' ⟨rfl, ⟨nd, rfl⟩⟩) | (go_at_call 20; (with_reducible refine (pluvialref04_In.calls kj16 a0 a1 t154 _ A42.out).mono ?_); rintro e w' ⟨rfl, ⟨nd, rfl⟩⟩))
                            go_ret
                            exact ⟨by first | rfl | (simp; done) | (simp [*]; done), by repeat (first | exact Drawn0.refl _ | apply Drawn0.step)⟩
                        · rw [if_neg c40] at H
                          have c40b0 : (t151 == t152) = false := beq_eq_false_iff_ne.mpr c40
                          have c40b1 : (t151 != t152) = true := bne_iff_ne.mpr c40
                          obtain rfl := Option.some.inj H
                          go_wp2_with (first | (go_at_call 8; (with_reducible refine (pluviallaw04_awake.calls kj16  true _ A30.out).mono ?_); rintro e w' ⟨rfl, ⟨nd, rfl⟩⟩) | (go_at_call 21; (with_reducible refine (bound_Right.calls a0 t147 _ A32.out).mono ?_); rintro e w' ⟨rfl, ⟨nd, rfl⟩⟩) | (go_at_call 18; (with_reducible refine (pluvialref04_Right.calls a0 t148 _ A33.out).mono ?_); rintro e w' ⟨rfl, ⟨nd, rfl⟩⟩) | (go_at_call 12; (with_reducible refine (bound_Units.calls a0 a1 t149 _ A35.out).mono ?_); rintro e w' ⟨rfl, ⟨nd, rfl⟩⟩) | (go_at_call 19; (with_reducible refine (pluvialref04_Units.calls kj16 a0 a1 t150 _ A36.out).mono ?_); rintro e w' ⟨rfl, ⟨nd, rfl⟩⟩) | (go_at_call 11; (with_reducible refine (bound_Low.calls a0 a1 t151 _ A38.out).mono ?_); rintro e w' ⟨rfl, ⟨nd, rfl⟩⟩) | (go_at_call 19; (with_reducible refine (pluvialref04_Units.calls kj16 a0 (wrap64 (a1 - 1)) t152 _ A39.out).mono ?_); rintro e w' ⟨rfl, ⟨nd, rfl⟩⟩))
                          go_ret
                          exact ⟨by first | rfl | (simp; done) | (simp [*]; done), by repeat (first | exact Drawn0.refl _ | apply Drawn0.step)⟩
                      · rw [if_neg c37] at H
                        have c37b0 : (t149 == t150) = false := beq_eq_false_iff_ne.mpr c37
                        have c37b1 : (t149 != t150) = true := bne_iff_ne.mpr c37
                        obtain rfl := Option.some.inj H
                        go_wp2_with (first | (go_at_call 8; (with_reducible refine (pluviallaw04_awake.calls kj16  true _ A30.out).mono ?_); rintro e w' ⟨rfl, ⟨nd, rfl⟩⟩) | (go_at_call 21; (with_reducible refine (bound_Right.calls a0 t147 _ A32.out).mono ?_); rintro e w' ⟨rfl, ⟨nd, rfl⟩⟩) | (go_at_call 18; (with_reducible refine (pluvialref04_Right.calls a0 t148 _ A33.out).mono ?_); rintro e w' ⟨rfl, ⟨nd, rfl⟩⟩) | (go_at_call 12; (with_reducible refine (bound_Units.calls a0 a1 t149 _ A35.out).mono ?_); rintro e w' ⟨rfl, ⟨nd, rfl⟩⟩) | (go_at_call 19; (with_reducible refine (pluvialref04_Units.calls kj16 a0 a1 t150 _ A36.out).mono ?_); rintro e w' ⟨rfl, ⟨nd, rfl⟩⟩))
                        go_ret
                        exact ⟨by first | rfl | (simp; done) | (simp [*]; done), by repeat (first | exact Drawn0.refl _ | apply Drawn0.step)⟩
                    · rw [if_neg c34] at H
                      have c34b0 : (t147 == t148) = false := by simpa using c34
                      (try (have c34b1 : decide (t147 = t148) = false := by simpa using c34))
                      (try (have c34b2 : (t147 == t148) = false := by simpa using c34))
                      (try (have c34b3 : ¬ (t147 = t148) := by simpa using c34))
                      clear c34
                      obtain rfl := Option.some.inj H
                      go_wp2_with (first | (go_at_call 8; (with_reducible refine (pluviallaw04_awake.calls kj16  true _ A30.out).mono ?_); rintro e w' ⟨rfl, ⟨nd, rfl⟩⟩) | (go_at_call 21; (with_reducible refine (bound_Right.calls a0 t147 _ A32.out).mono ?_); rintro e w' ⟨rfl, ⟨nd, rfl⟩⟩) | (go_at_call 18; (with_reducible refine (pluvialref04_Right.calls a0 t148 _ A33.out).mono ?_); rintro e w' ⟨rfl, ⟨nd, rfl⟩⟩))
                      go_ret
                      exact ⟨by first | rfl | (simp; done) | (simp [*]; done), by repeat (first | exact Drawn0.refl _ | apply Drawn0.step)⟩
                  · replace c31 := Bool.eq_false_iff.mpr c31
                    subst c31
                    have H1 : (some false) = some r := by rw [if_neg (show ¬ (false = true) by decide)] at H; exact H
                    clear H
                    have H := H1
                    clear H1
                    obtain rfl := Option.some.inj H
                    go_wp2_with (first | (go_at_call 8; (with_reducible refine (pluviallaw04_awake.calls kj16  false _ A30.out).mono ?_); rintro e w' ⟨rfl, ⟨nd, rfl⟩⟩))
                    go_ret
                    exact ⟨by first | rfl | (simp; done) | (simp [*]; done), by repeat (first | exact Drawn0.refl _ | apply Drawn0.step)⟩

/-- THE ONE PURE STATEMENT of pluviallaw04_BoundPlaces: yours. -/
def pluviallaw04_BoundPlaces.Pure : Prop := ∀ (a0 : Int) (a1 : Int) (a2 : Int), (Lit.int .i64 a0).wf = true → (Lit.int .i64 a1).wf = true → (Lit.int .i64 a2).wf = true → ∃ k, pluviallaw04_BoundPlaces.f k a0 a1 a2 = some true
theorem pluviallaw04_BoundPlaces.walk (P : pluviallaw04_BoundPlaces.Pure) (a0 : Int) (a1 : Int) (a2 : Int) (w : World) (w0 : (Lit.int .i64 a0).wf = true) (w1 : (Lit.int .i64 a1).wf = true) (w2 : (Lit.int .i64 a2).wf = true) :
    Calls Try.prog 5 #[.int .i64 a0, .int .i64 a1, .int .i64 a2] w fun e w' => e = .returned (.bool true) ∧ Below w.heap.size w w' := by
  obtain ⟨k, h⟩ := P a0 a1 a2 w0 w1 w2
  refine (pluviallaw04_BoundPlaces.calls k a0 a1 a2 true w h).mono ?_
  rintro e w' ⟨rfl, hd⟩
  exact ⟨rfl, hd.below⟩

end Go.Proofs.Ytcdjcbjincecpaa.QBoundPlaces
