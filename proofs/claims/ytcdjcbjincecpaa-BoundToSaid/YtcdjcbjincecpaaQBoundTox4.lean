-- Written by a program of the session (wip/xprint.sh, wip/xpatch.py; a variant of the print) out of the translation. Lean checks it.
import Derived.Test.YtcdjcbjincecpaaQBoundTox0
import Derived.Test.YtcdjcbjincecpaaQBoundTox1
import Derived.Test.YtcdjcbjincecpaaQBoundTox2
namespace Go.Proofs.Ytcdjcbjincecpaa.QBoundTo
open Go.RowKit Go.Proofs.YtcdjcbjincecpaaW.PrintWords Go.Proofs.YtcdjcbjincecpaaW.PrintLast Go.Proofs.YtcdjcbjincecpaaW.PrintMore
attribute [local go_sem] max2_int min2_int max_two min_two max_three min_three max_four min_four   -- for this text's walks alone
set_option linter.unusedVariables false
set_option linter.unusedSimpArgs false

/-! ### pluvialref04_Has: function 15 -/
def pluvialref04_Has.f (k : Nat) (a0 : Int) (a1 : Int) (a2 : Int) (a3 : Int) (a4 : Int) (a5 : Int) : Option (Bool) := if a0 = a1 then ((pluvialref04_In.f k a2 a3).bind fun t141 => (if t141 = true then ((pluvialref04_In.f k a4 a5).bind fun t142 => (if t142 = true then ((pluvialref04_Units.f k a2 (wrap64 (a3 - 1))).bind fun t143 => ((pluvialref04_Units.f k a4 (wrap64 (a5 - 1))).bind fun t144 => (if t143 ≤ t144 then ((pluvialref04_Units.f k a4 a5).bind fun t145 => ((pluvialref04_Units.f k a2 a3).bind fun t146 => (some (decide (t145 ≤ t146))))) else (some false)))) else (some false))) else (some false))) else (some false)
theorem pluvialref04_Has.mono : ∀ a0 a1 a2 a3 a4 a5 k, LeO (pluvialref04_Has.f k a0 a1 a2 a3 a4 a5) (pluvialref04_Has.f (k + 1) a0 a1 a2 a3 a4 a5) := by
  intro a0 a1 a2 a3 a4 a5 k
  unfold pluvialref04_Has.f
  repeat' first
      | (with_reducible exact pluvialref04_In.mono _ _ _)
      | (with_reducible exact pluvialref04_Units.mono _ _ _)
      | (with_reducible exact LeO.refl _)
      | (with_reducible exact LeO.none _)
      | (with_reducible refine LeO.ite ?_ ?_)
      | (with_reducible refine LeO.bind ?_ (fun _ => ?_))
      | exact pluvialref04_In.mono _ _ _
      | exact pluvialref04_Units.mono _ _ _
      | exact LeO.none _
      | refine LeO.ite ?_ ?_
      | refine LeO.bind ?_ (fun _ => ?_)
set_option maxHeartbeats 8000000 in
set_option maxRecDepth 100000 in
theorem pluvialref04_Has.calls (k : Nat) (a0 : Int) (a1 : Int) (a2 : Int) (a3 : Int) (a4 : Int) (a5 : Int) (r : Bool) (w : World) (h : pluvialref04_Has.f k a0 a1 a2 a3 a4 a5 = some r) :
    Calls Try.prog 15 #[.int .i64 a0, .int .i64 a1, .int .i64 a2, .int .i64 a3, .int .i64 a4, .int .i64 a5] w fun e w' => e = .returned (.bool r) ∧ Drawn0 w w' := by
  have H : (if a0 = a1 then ((pluvialref04_In.f k a2 a3).bind fun t141 => (if t141 = true then ((pluvialref04_In.f k a4 a5).bind fun t142 => (if t142 = true then ((pluvialref04_Units.f k a2 (wrap64 (a3 - 1))).bind fun t143 => ((pluvialref04_Units.f k a4 (wrap64 (a5 - 1))).bind fun t144 => (if t143 ≤ t144 then ((pluvialref04_Units.f k a4 a5).bind fun t145 => ((pluvialref04_Units.f k a2 a3).bind fun t146 => (some (decide (t145 ≤ t146))))) else (some false)))) else (some false))) else (some false))) else (some false)) = some r := h
  clear h
  by_cases c7 : a0 = a1
  · rw [if_pos c7] at H
    have c7b0 : (a0 == a1) = true := beq_iff_eq.mpr c7
    have c7b1 : (a0 != a1) = false := bne_eq_false_iff_eq.mpr c7
    clear c7
    replace H := Option.bind_eq_some_iff.mp H
    obtain ⟨t141, A80, H⟩ := H
    replace H : (if t141 = true then ((pluvialref04_In.f k a4 a5).bind fun t142 => (if t142 = true then ((pluvialref04_Units.f k a2 (wrap64 (a3 - 1))).bind fun t143 => ((pluvialref04_Units.f k a4 (wrap64 (a5 - 1))).bind fun t144 => (if t143 ≤ t144 then ((pluvialref04_Units.f k a4 a5).bind fun t145 => ((pluvialref04_Units.f k a2 a3).bind fun t146 => (some (decide (t145 ≤ t146))))) else (some false)))) else (some false))) else (some false)) = some r := H
    have A8 := Aside0.mk A80
    clear A80
    by_cases c9 : t141 = true
    · subst c9
      have H1 : ((pluvialref04_In.f k a4 a5).bind fun t142 => (if t142 = true then ((pluvialref04_Units.f k a2 (wrap64 (a3 - 1))).bind fun t143 => ((pluvialref04_Units.f k a4 (wrap64 (a5 - 1))).bind fun t144 => (if t143 ≤ t144 then ((pluvialref04_Units.f k a4 a5).bind fun t145 => ((pluvialref04_Units.f k a2 a3).bind fun t146 => (some (decide (t145 ≤ t146))))) else (some false)))) else (some false))) = some r := by rw [if_pos rfl] at H; exact H
      clear H
      have H := H1
      clear H1
      replace H := Option.bind_eq_some_iff.mp H
      obtain ⟨t142, A100, H⟩ := H
      replace H : (if t142 = true then ((pluvialref04_Units.f k a2 (wrap64 (a3 - 1))).bind fun t143 => ((pluvialref04_Units.f k a4 (wrap64 (a5 - 1))).bind fun t144 => (if t143 ≤ t144 then ((pluvialref04_Units.f k a4 a5).bind fun t145 => ((pluvialref04_Units.f k a2 a3).bind fun t146 => (some (decide (t145 ≤ t146))))) else (some false)))) else (some false)) = some r := H
      have A10 := Aside0.mk A100
      clear A100
      by_cases c11 : t142 = true
      · subst c11
        have H1 : ((pluvialref04_Units.f k a2 (wrap64 (a3 - 1))).bind fun t143 => ((pluvialref04_Units.f k a4 (wrap64 (a5 - 1))).bind fun t144 => (if t143 ≤ t144 then ((pluvialref04_Units.f k a4 a5).bind fun t145 => ((pluvialref04_Units.f k a2 a3).bind fun t146 => (some (decide (t145 ≤ t146))))) else (some false)))) = some r := by rw [if_pos rfl] at H; exact H
        clear H
        have H := H1
        clear H1
        replace H := Option.bind_eq_some_iff.mp H
        obtain ⟨t143, A120, H⟩ := H
        replace H : ((pluvialref04_Units.f k a4 (wrap64 (a5 - 1))).bind fun t144 => (if t143 ≤ t144 then ((pluvialref04_Units.f k a4 a5).bind fun t145 => ((pluvialref04_Units.f k a2 a3).bind fun t146 => (some (decide (t145 ≤ t146))))) else (some false))) = some r := H
        have A12 := Aside0.mk A120
        clear A120
        replace H := Option.bind_eq_some_iff.mp H
        obtain ⟨t144, A130, H⟩ := H
        replace H : (if t143 ≤ t144 then ((pluvialref04_Units.f k a4 a5).bind fun t145 => ((pluvialref04_Units.f k a2 a3).bind fun t146 => (some (decide (t145 ≤ t146))))) else (some false)) = some r := H
        have A13 := Aside0.mk A130
        clear A130
        by_cases c14 : t143 ≤ t144
        · rw [if_pos c14] at H
          have c14b0 : decide (t143 ≤ t144) = true := decide_eq_true c14
          clear c14
          replace H := Option.bind_eq_some_iff.mp H
          obtain ⟨t145, A150, H⟩ := H
          replace H : ((pluvialref04_Units.f k a2 a3).bind fun t146 => (some (decide (t145 ≤ t146)))) = some r := H
          have A15 := Aside0.mk A150
          clear A150
          replace H := Option.bind_eq_some_iff.mp H
          obtain ⟨t146, A160, H⟩ := H
          replace H : (some (decide (t145 ≤ t146))) = some r := H
          have A16 := Aside0.mk A160
          clear A160
          obtain rfl := Option.some.inj H
          go_enter Try.func15, Try.ntmps15
          go_wp2_with (first | (go_at_call 20; (with_reducible refine (pluvialref04_In.calls k a2 a3 true _ A8.out).mono ?_); rintro e w' ⟨rfl, ⟨nd, rfl⟩⟩) | (go_at_call 20; (with_reducible refine (pluvialref04_In.calls k a4 a5 true _ A10.out).mono ?_); rintro e w' ⟨rfl, ⟨nd, rfl⟩⟩) | (go_at_call 19; (with_reducible refine (pluvialref04_Units.calls k a2 (wrap64 (a3 - 1)) t143 _ A12.out).mono ?_); rintro e w' ⟨rfl, ⟨nd, rfl⟩⟩) | (go_at_call 19; (with_reducible refine (pluvialref04_Units.calls k a4 (wrap64 (a5 - 1)) t144 _ A13.out).mono ?_); rintro e w' ⟨rfl, ⟨nd, rfl⟩⟩) | (go_at_call 19; (with_reducible refine (pluvialref04_Units.calls k a4 a5 t145 _ A15.out).mono ?_); rintro e w' ⟨rfl, ⟨nd, rfl⟩⟩) | (go_at_call 19; (with_reducible refine (pluvialref04_Units.calls k a2 a3 t146 _ A16.out).mono ?_); rintro e w' ⟨rfl, ⟨nd, rfl⟩⟩))
          go_ret
          exact ⟨by first | rfl | (simp; done) | (simp [*]; done), by repeat (first | exact Drawn0.refl _ | apply Drawn0.step)⟩
        · rw [if_neg c14] at H
          have c14b0 : decide (t143 ≤ t144) = false := decide_eq_false c14
          clear c14
          obtain rfl := Option.some.inj H
          go_enter Try.func15, Try.ntmps15
          go_wp2_with (first | (go_at_call 20; (with_reducible refine (pluvialref04_In.calls k a2 a3 true _ A8.out).mono ?_); rintro e w' ⟨rfl, ⟨nd, rfl⟩⟩) | (go_at_call 20; (with_reducible refine (pluvialref04_In.calls k a4 a5 true _ A10.out).mono ?_); rintro e w' ⟨rfl, ⟨nd, rfl⟩⟩) | (go_at_call 19; (with_reducible refine (pluvialref04_Units.calls k a2 (wrap64 (a3 - 1)) t143 _ A12.out).mono ?_); rintro e w' ⟨rfl, ⟨nd, rfl⟩⟩) | (go_at_call 19; (with_reducible refine (pluvialref04_Units.calls k a4 (wrap64 (a5 - 1)) t144 _ A13.out).mono ?_); rintro e w' ⟨rfl, ⟨nd, rfl⟩⟩))
          go_ret
          exact ⟨by first | rfl | (simp; done) | (simp [*]; done), by repeat (first | exact Drawn0.refl _ | apply Drawn0.step)⟩
      · replace c11 := Bool.eq_false_iff.mpr c11
        subst c11
        have H1 : (some false) = some r := by rw [if_neg (show ¬ (false = true) by decide)] at H; exact H
        clear H
        have H := H1
        clear H1
        obtain rfl := Option.some.inj H
        go_enter Try.func15, Try.ntmps15
        go_wp2_with (first | (go_at_call 20; (with_reducible refine (pluvialref04_In.calls k a2 a3 true _ A8.out).mono ?_); rintro e w' ⟨rfl, ⟨nd, rfl⟩⟩) | (go_at_call 20; (with_reducible refine (pluvialref04_In.calls k a4 a5 false _ A10.out).mono ?_); rintro e w' ⟨rfl, ⟨nd, rfl⟩⟩))
        go_ret
        exact ⟨by first | rfl | (simp; done) | (simp [*]; done), by repeat (first | exact Drawn0.refl _ | apply Drawn0.step)⟩
    · replace c9 := Bool.eq_false_iff.mpr c9
      subst c9
      have H1 : (some false) = some r := by rw [if_neg (show ¬ (false = true) by decide)] at H; exact H
      clear H
      have H := H1
      clear H1
      obtain rfl := Option.some.inj H
      go_enter Try.func15, Try.ntmps15
      go_wp2_with (first | (go_at_call 20; (with_reducible refine (pluvialref04_In.calls k a2 a3 false _ A8.out).mono ?_); rintro e w' ⟨rfl, ⟨nd, rfl⟩⟩))
      go_ret
      exact ⟨by first | rfl | (simp; done) | (simp [*]; done), by repeat (first | exact Drawn0.refl _ | apply Drawn0.step)⟩
  · rw [if_neg c7] at H
    have c7b0 : (a0 == a1) = false := beq_eq_false_iff_ne.mpr c7
    have c7b1 : (a0 != a1) = true := bne_iff_ne.mpr c7
    obtain rfl := Option.some.inj H
    go_enter Try.func15, Try.ntmps15
    go_wp2
    go_ret
    exact ⟨by first | rfl | (simp; done) | (simp [*]; done), by repeat (first | exact Drawn0.refl _ | apply Drawn0.step)⟩

end Go.Proofs.Ytcdjcbjincecpaa.QBoundTo
