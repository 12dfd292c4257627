-- PRINTED BY print.sh 35421559b90ae4d0a3588c463048766b98c2df88dd9212a6774a882060cdf62d: not written by this session
import Derived.Test.YtcdjcbjincecpaaPBoundStepsx0
namespace Go.Proofs.Ytcdjcbjincecpaa.PBoundSteps
open Go.RowKit Go.Proofs.YtcdjcbjincecpaaW.PrintWords Go.Proofs.YtcdjcbjincecpaaW.PrintLast Go.Proofs.YtcdjcbjincecpaaW.PrintMore
attribute [local go_sem] max2_int min2_int max_two min_two max_three min_three max_four min_four   -- for this text's walks alone
set_option linter.unusedVariables false
set_option linter.unusedSimpArgs false

/-! ### bound_Right: function 21 -/
def bound_Right.f (a0 : Int) : Option (Bool) := if a0 ≥ (-4) then (some (decide (a0 ≤ 8))) else (some false)
set_option maxHeartbeats 8000000 in
set_option maxRecDepth 100000 in
theorem bound_Right.calls (a0 : Int) (r : Bool) (w : World) (h : bound_Right.f a0 = some r) :
    Calls Try.prog 21 #[.int .i64 a0] w fun e w' => e = .returned (.bool r) ∧ Drawn0 w w' := by
  have H : (if a0 ≥ (-4) then (some (decide (a0 ≤ 8))) else (some false)) = some r := h
  clear h
  by_cases c2 : a0 ≥ (-4)
  · rw [if_pos c2] at H
    have c2b0 : decide ((-4) ≤ a0) = true := decide_eq_true c2
    clear c2
    obtain rfl := Option.some.inj H
    go_enter Try.func21, Try.ntmps21
    go_wp2
    go_ret
    exact ⟨by first | rfl | (simp; done) | (simp [*]; done), by repeat (first | exact Drawn0.refl _ | apply Drawn0.step)⟩
  · rw [if_neg c2] at H
    have c2b0 : decide ((-4) ≤ a0) = false := decide_eq_false c2
    clear c2
    obtain rfl := Option.some.inj H
    go_enter Try.func21, Try.ntmps21
    go_wp2
    go_ret
    exact ⟨by first | rfl | (simp; done) | (simp [*]; done), by repeat (first | exact Drawn0.refl _ | apply Drawn0.step)⟩

/-! ### bound_shift: function 25 -/
def bound_shift.f (a0 : Int) : Option (Int) := some (IntKind.u64.wrap (wrap64 (8 - a0)))
set_option maxHeartbeats 8000000 in
set_option maxRecDepth 100000 in
theorem bound_shift.calls (a0 : Int) (r : Int) (w : World) (h : bound_shift.f a0 = some r) :
    Calls Try.prog 25 #[.int .i64 a0] w fun e w' => e = .returned (.int .u64 r) ∧ Drawn0 w w' := by
  have H : (some (IntKind.u64.wrap (wrap64 (8 - a0)))) = some r := h
  clear h
  obtain rfl := Option.some.inj H
  go_enter Try.func25, Try.ntmps25
  go_wp2
  go_ret
  exact ⟨by first | rfl | (simp; done) | (simp [*]; done), by repeat (first | exact Drawn0.refl _ | apply Drawn0.step)⟩

/-! ### bound_Most: function 10 -/
def bound_Most.f (a0 : Int) : Option (Int) := (bound_Right.f a0).bind fun t101 => (if t101 = true then ((bound_shift.f a0).bind fun t102 => (if 0 ≤ t102 then (some (shr .i64 262144 t102)) else (none))) else (some 0))
set_option maxHeartbeats 8000000 in
set_option maxRecDepth 100000 in
theorem bound_Most.calls (a0 : Int) (r : Int) (w : World) (h : bound_Most.f a0 = some r) :
    Calls Try.prog 10 #[.int .i64 a0] w fun e w' => e = .returned (.int .i64 r) ∧ Drawn0 w w' := by
  have H : ((bound_Right.f a0).bind fun t101 => (if t101 = true then ((bound_shift.f a0).bind fun t102 => (if 0 ≤ t102 then (some (shr .i64 262144 t102)) else (none))) else (some 0))) = some r := h
  clear h
  replace H := Option.bind_eq_some_iff.mp H
  obtain ⟨t101, A20, H⟩ := H
  replace H : (if t101 = true then ((bound_shift.f a0).bind fun t102 => (if 0 ≤ t102 then (some (shr .i64 262144 t102)) else (none))) else (some 0)) = some r := H
  have A2 := Aside0.mk A20
  clear A20
  by_cases c3 : t101 = true
  · subst c3
    have H1 : ((bound_shift.f a0).bind fun t102 => (if 0 ≤ t102 then (some (shr .i64 262144 t102)) else (none))) = some r := by rw [if_pos rfl] at H; exact H
    clear H
    have H := H1
    clear H1
    replace H := Option.bind_eq_some_iff.mp H
    obtain ⟨t102, A40, H⟩ := H
    replace H : (if 0 ≤ t102 then (some (shr .i64 262144 t102)) else (none)) = some r := H
    have A4 := Aside0.mk A40
    clear A40
    by_cases c5 : 0 ≤ t102
    · rw [if_pos c5] at H
      have c5b0 := eq_true c5
      have c5b1 : decide (0 ≤ t102) = true := decide_eq_true c5
      clear c5
      obtain ⟨ji6, hji6⟩ : ∃ j_ : Int, (shr .i64 262144 t102) = j_ := ⟨_, rfl⟩
      replace H : (some ji6) = some r := by first | (rw [hji6] at H; exact H) | (simp only [hji6] at H ⊢; exact H)
      (try rw [hji6] at A2)
      (try rw [hji6] at A4)
      have hji6_ : (262144 / 2 ^ min t102.toNat 64) = ji6 := hji6
      have hji6z : t102 ≤ 64 → (262144 / 2 ^ t102.toNat) = ji6 := shr_small hji6
      obtain rfl := Option.some.inj H
      go_enter Try.func10, Try.ntmps10
      go_wp2_with (first | ((with_reducible refine gate_callee (f := 21) rfl ?_); refine goesL_ (some 4) rfl rfl Try.func21 (by kernel_rfl) rfl #[.int .i64 a0] rfl (by (try simp only [List.map_toArray, List.map_cons, List.map_nil]); first | done | rfl | (simp only [List.length_drop, List.length_take]; rfl)) ?_; (with_reducible refine (bound_Right.calls a0 true _ A2.out).mono ?_); rintro e w' ⟨rfl, ⟨nd, rfl⟩⟩; refine ⟨_, rfl, ?_⟩) | ((with_reducible refine gate_callee (f := 25) rfl ?_); refine goesL_ (some 7) rfl rfl Try.func25 (by kernel_rfl) rfl #[.int .i64 a0] rfl (by (try simp only [List.map_toArray, List.map_cons, List.map_nil]); first | done | rfl | (simp only [List.length_drop, List.length_take]; rfl)) ?_; (with_reducible refine (bound_shift.calls a0 t102 _ A4.out).mono ?_); rintro e w' ⟨rfl, ⟨nd, rfl⟩⟩; refine ⟨_, rfl, ?_⟩))
      go_ret
      exact ⟨by first | rfl | (simp; done) | (simp only [← hji6] <;> (first | rfl | simp)) | (simp [*]; done), by repeat (first | exact Drawn0.refl _ | apply Drawn0.step)⟩
    · rw [if_neg c5] at H
      exact absurd H (by simp)
  · replace c3 := Bool.eq_false_iff.mpr c3
    subst c3
    have H1 : (some 0) = some r := by rw [if_neg (show ¬ (false = true) by decide)] at H; exact H
    clear H
    have H := H1
    clear H1
    obtain rfl := Option.some.inj H
    go_enter Try.func10, Try.ntmps10
    go_wp2_with (first | ((with_reducible refine gate_callee (f := 21) rfl ?_); refine goesL_ (some 4) rfl rfl Try.func21 (by kernel_rfl) rfl #[.int .i64 a0] rfl (by (try simp only [List.map_toArray, List.map_cons, List.map_nil]); first | done | rfl | (simp only [List.length_drop, List.length_take]; rfl)) ?_; (with_reducible refine (bound_Right.calls a0 false _ A2.out).mono ?_); rintro e w' ⟨rfl, ⟨nd, rfl⟩⟩; refine ⟨_, rfl, ?_⟩))
    go_ret
    exact ⟨by first | rfl | (simp; done) | (simp [*]; done), by repeat (first | exact Drawn0.refl _ | apply Drawn0.step)⟩

/-! ### bound_Least: function 9 -/
def bound_Least.f (a0 : Int) : Option (Int) := (bound_Most.f a0).bind fun t103 => (some (wrap64 ((wrap64 (-t103)) + 1)))
set_option maxHeartbeats 8000000 in
set_option maxRecDepth 100000 in
theorem bound_Least.calls (a0 : Int) (r : Int) (w : World) (h : bound_Least.f a0 = some r) :
    Calls Try.prog 9 #[.int .i64 a0] w fun e w' => e = .returned (.int .i64 r) ∧ Drawn0 w w' := by
  have H : ((bound_Most.f a0).bind fun t103 => (some (wrap64 ((wrap64 (-t103)) + 1)))) = some r := h
  clear h
  replace H := Option.bind_eq_some_iff.mp H
  obtain ⟨t103, A20, H⟩ := H
  replace H : (some (wrap64 ((wrap64 (-t103)) + 1))) = some r := H
  have A2 := Aside0.mk A20
  clear A20
  obtain rfl := Option.some.inj H
  go_enter Try.func9, Try.ntmps9
  go_wp2_with (first | ((with_reducible refine gate_callee (f := 10) rfl ?_); refine goesL_ (some 4) rfl rfl Try.func10 (by kernel_rfl) rfl #[.int .i64 a0] rfl (by (try simp only [List.map_toArray, List.map_cons, List.map_nil]); first | done | rfl | (simp only [List.length_drop, List.length_take]; rfl)) ?_; (with_reducible refine (bound_Most.calls a0 t103 _ A2.out).mono ?_); rintro e w' ⟨rfl, ⟨nd, rfl⟩⟩; refine ⟨_, rfl, ?_⟩))
  go_ret
  exact ⟨by first | rfl | (simp; done) | (simp [*]; done), by repeat (first | exact Drawn0.refl _ | apply Drawn0.step)⟩

/-! ### bound_In: function 22 -/
def bound_In.f (a0 : Int) (a1 : Int) : Option (Bool) := (bound_Right.f a0).bind fun t104 => (if t104 = true then ((bound_Least.f a0).bind fun t105 => (if a1 ≥ t105 then ((bound_Most.f a0).bind fun t106 => (some (decide (a1 ≤ t106)))) else (some false))) else (some false))
set_option maxHeartbeats 8000000 in
set_option maxRecDepth 100000 in
theorem bound_In.calls (a0 : Int) (a1 : Int) (r : Bool) (w : World) (h : bound_In.f a0 a1 = some r) :
    Calls Try.prog 22 #[.int .i64 a0, .int .i64 a1] w fun e w' => e = .returned (.bool r) ∧ Drawn0 w w' := by
  have H : ((bound_Right.f a0).bind fun t104 => (if t104 = true then ((bound_Least.f a0).bind fun t105 => (if a1 ≥ t105 then ((bound_Most.f a0).bind fun t106 => (some (decide (a1 ≤ t106)))) else (some false))) else (some false))) = some r := h
  clear h
  replace H := Option.bind_eq_some_iff.mp H
  obtain ⟨t104, A30, H⟩ := H
  replace H : (if t104 = true then ((bound_Least.f a0).bind fun t105 => (if a1 ≥ t105 then ((bound_Most.f a0).bind fun t106 => (some (decide (a1 ≤ t106)))) else (some false))) else (some false)) = some r := H
  have A3 := Aside0.mk A30
  clear A30
  by_cases c4 : t104 = true
  · subst c4
    have H1 : ((bound_Least.f a0).bind fun t105 => (if a1 ≥ t105 then ((bound_Most.f a0).bind fun t106 => (some (decide (a1 ≤ t106)))) else (some false))) = some r := by rw [if_pos rfl] at H; exact H
    clear H
    have H := H1
    clear H1
    replace H := Option.bind_eq_some_iff.mp H
    obtain ⟨t105, A50, H⟩ := H
    replace H : (if a1 ≥ t105 then ((bound_Most.f a0).bind fun t106 => (some (decide (a1 ≤ t106)))) else (some false)) = some r := H
    have A5 := Aside0.mk A50
    clear A50
    by_cases c6 : a1 ≥ t105
    · rw [if_pos c6] at H
      have c6b0 : decide (t105 ≤ a1) = true := decide_eq_true c6
      clear c6
      replace H := Option.bind_eq_some_iff.mp H
      obtain ⟨t106, A70, H⟩ := H
      replace H : (some (decide (a1 ≤ t106))) = some r := H
      have A7 := Aside0.mk A70
      clear A70
      obtain rfl := Option.some.inj H
      go_enter Try.func22, Try.ntmps22
      go_wp2_with (first | ((with_reducible refine gate_callee (f := 21) rfl ?_); refine goesL_ (some 6) rfl rfl Try.func21 (by kernel_rfl) rfl #[.int .i64 a0] rfl (by (try simp only [List.map_toArray, List.map_cons, List.map_nil]); first | done | rfl | (simp only [List.length_drop, List.length_take]; rfl)) ?_; (with_reducible refine (bound_Right.calls a0 true _ A3.out).mono ?_); rintro e w' ⟨rfl, ⟨nd, rfl⟩⟩; refine ⟨_, rfl, ?_⟩) | (go_at_call 9; (with_reducible refine (bound_Least.calls a0 t105 _ A5.out).mono ?_); rintro e w' ⟨rfl, ⟨nd, rfl⟩⟩) | (go_at_call 10; (with_reducible refine (bound_Most.calls a0 t106 _ A7.out).mono ?_); rintro e w' ⟨rfl, ⟨nd, rfl⟩⟩))
      go_ret
      exact ⟨by first | rfl | (simp; done) | (simp [*]; done), by repeat (first | exact Drawn0.refl _ | apply Drawn0.step)⟩
    · rw [if_neg c6] at H
      have c6b0 : decide (t105 ≤ a1) = false := decide_eq_false c6
      clear c6
      obtain rfl := Option.some.inj H
      go_enter Try.func22, Try.ntmps22
      go_wp2_with (first | ((with_reducible refine gate_callee (f := 21) rfl ?_); refine goesL_ (some 6) rfl rfl Try.func21 (by kernel_rfl) rfl #[.int .i64 a0] rfl (by (try simp only [List.map_toArray, List.map_cons, List.map_nil]); first | done | rfl | (simp only [List.length_drop, List.length_take]; rfl)) ?_; (with_reducible refine (bound_Right.calls a0 true _ A3.out).mono ?_); rintro e w' ⟨rfl, ⟨nd, rfl⟩⟩; refine ⟨_, rfl, ?_⟩) | (go_at_call 9; (with_reducible refine (bound_Least.calls a0 t105 _ A5.out).mono ?_); rintro e w' ⟨rfl, ⟨nd, rfl⟩⟩))
      go_ret
      exact ⟨by first | rfl | (simp; done) | (simp [*]; done), by repeat (first | exact Drawn0.refl _ | apply Drawn0.step)⟩
  · replace c4 := Bool.eq_false_iff.mpr c4
    subst c4
    have H1 : (some false) = some r := by rw [if_neg (show ¬ (false = true) by decide)] at H; exact H
    clear H
    have H := H1
    clear H1
    obtain rfl := Option.some.inj H
    go_enter Try.func22, Try.ntmps22
    go_wp2_with (first | ((with_reducible refine gate_callee (f := 21) rfl ?_); refine goesL_ (some 6) rfl rfl Try.func21 (by kernel_rfl) rfl #[.int .i64 a0] rfl (by (try simp only [List.map_toArray, List.map_cons, List.map_nil]); first | done | rfl | (simp only [List.length_drop, List.length_take]; rfl)) ?_; (with_reducible refine (bound_Right.calls a0 false _ A3.out).mono ?_); rintro e w' ⟨rfl, ⟨nd, rfl⟩⟩; refine ⟨_, rfl, ?_⟩))
    go_ret
    exact ⟨by first | rfl | (simp; done) | (simp [*]; done), by repeat (first | exact Drawn0.refl _ | apply Drawn0.step)⟩

/-! ### num_Up: function 24 -/
def num_Up.f (a0 : Int) (a1 : Int) : Option (Int) := if 0 ≤ a1 then (some (wrap64 (-(shr .i64 (wrap64 (-a0)) a1)))) else (none)
set_option maxHeartbeats 8000000 in
set_option maxRecDepth 100000 in
theorem num_Up.calls (a0 : Int) (a1 : Int) (r : Int) (w : World) (h : num_Up.f a0 a1 = some r) :
    Calls Try.prog 24 #[.int .i64 a0, .int .u64 a1] w fun e w' => e = .returned (.int .i64 r) ∧ Drawn0 w w' := by
  have H : (if 0 ≤ a1 then (some (wrap64 (-(shr .i64 (wrap64 (-a0)) a1)))) else (none)) = some r := h
  clear h
  by_cases c3 : 0 ≤ a1
  · rw [if_pos c3] at H
    have c3b0 := eq_true c3
    have c3b1 : decide (0 ≤ a1) = true := decide_eq_true c3
    clear c3
    obtain ⟨ji4, hji4⟩ : ∃ j_ : Int, (shr .i64 (wrap64 (-a0)) a1) = j_ := ⟨_, rfl⟩
    replace H : (some (wrap64 (-(ji4)))) = some r := by first | (rw [hji4] at H; exact H) | (simp only [hji4] at H ⊢; exact H)
    have hji4_ : ((wrap64 (-a0)) / 2 ^ min a1.toNat 64) = ji4 := hji4
    have hji4z : a1 ≤ 64 → ((wrap64 (-a0)) / 2 ^ a1.toNat) = ji4 := shr_small hji4
    obtain rfl := Option.some.inj H
    go_enter Try.func24, Try.ntmps24
    go_wp2
    go_ret
    exact ⟨by first | rfl | (simp; done) | (simp only [← hji4] <;> (first | rfl | simp)) | (simp [*]; done), by repeat (first | exact Drawn0.refl _ | apply Drawn0.step)⟩
  · rw [if_neg c3] at H
    exact absurd H (by simp)

/-! ### bound_To: function 7 -/
def bound_To.j0 : Nat → Int → Int → Int → Bool → Option (Int × Int)
  | 0, _, _, _, _ => none
  | k + 1, x0, x1, x2, x8 => if x8 = true then (some (0, 20)) else ((bound_In.f x0 x2).bind fun t109 => (if t109 = true then ((num_Up.f x2 (IntKind.u64.wrap (wrap64 (x0 - x1)))).bind fun t110 => (some (t110, 0))) else (some (0, 4))))
def bound_To.f (k : Nat) (a0 : Int) (a1 : Int) (a2 : Int) : Option (Int × Int) := (bound_Right.f a0).bind fun t107 => (if t107 = true then ((bound_Right.f a1).bind fun t108 => (if t108 = true then (bound_To.j0 k a0 a1 a2 (decide (a1 > a0))) else (bound_To.j0 k a0 a1 a2 true))) else (bound_To.j0 k a0 a1 a2 true))
theorem bound_To.mono_l : ∀ k, (∀ y0 y1 y2 y3, LeO (bound_To.j0 k y0 y1 y2 y3) (bound_To.j0 (k + 1) y0 y1 y2 y3))
  | 0 => fun _ _ _ _ r h => by simp [bound_To.j0] at h
  | k + 1 => by
    have ih0 := bound_To.mono_l k
    · intro y0 y1 y2 y3
      unfold bound_To.j0
      repeat' first
      | (with_reducible exact ih0 _ _ _ _)
      | (with_reducible exact LeO.refl _)
      | (with_reducible exact LeO.none _)
      | (with_reducible refine LeO.ite ?_ ?_)
      | (with_reducible refine LeO.bind ?_ (fun _ => ?_))
      | exact ih0 _ _ _ _
      | exact LeO.none _
      | refine LeO.ite ?_ ?_
      | refine LeO.bind ?_ (fun _ => ?_)
theorem bound_To.mono : ∀ a0 a1 a2 k, LeO (bound_To.f k a0 a1 a2) (bound_To.f (k + 1) a0 a1 a2) := by
  intro a0 a1 a2 k
  have ih0 := bound_To.mono_l k
  unfold bound_To.f
  repeat' first
      | (with_reducible exact ih0 _ _ _ _)
      | (with_reducible exact LeO.refl _)
      | (with_reducible exact LeO.none _)
      | (with_reducible refine LeO.ite ?_ ?_)
      | (with_reducible refine LeO.bind ?_ (fun _ => ?_))
      | exact ih0 _ _ _ _
      | exact LeO.none _
      | refine LeO.ite ?_ ?_
      | refine LeO.bind ?_ (fun _ => ?_)
set_option maxHeartbeats 8000000 in
set_option maxRecDepth 100000 in
theorem bound_To.calls (k : Nat) (a0 : Int) (a1 : Int) (a2 : Int) (r1 : Int) (r2 : Int) (w : World) (h : bound_To.f k a0 a1 a2 = some (r1, r2)) :
    Calls Try.prog 7 #[.int .i64 a0, .int .i64 a1, .int .i64 a2] w fun e w' => e = .returned (.tuple #[.int .i64 r1, .int .i64 r2]) ∧ Drawn0 w w' := by
  have H : ((bound_Right.f a0).bind fun t107 => (if t107 = true then ((bound_Right.f a1).bind fun t108 => (if t108 = true then (bound_To.j0 k a0 a1 a2 (decide (a1 > a0))) else (bound_To.j0 k a0 a1 a2 true))) else (bound_To.j0 k a0 a1 a2 true))) = some (r1, r2) := h
  clear h
  have HC4 := Aside0.mk H
  clear H
  go_enter Try.func7, Try.ntmps7
  go_upto_region 1 with (fail)
  go_cut [8] (fun v8 wc => ∃ (kq : Nat) (x8_3 : Bool), v8 = .bool x8_3 ∧ Aside0 (bound_To.j0 kq a0 a1 a2 x8_3 = some (r1, r2)) ∧ Aside0 (kq ≤ k) ∧ Drawn0 w wc)
  case first =>
    have H := HC4.out
    clear HC4
    replace H := Option.bind_eq_some_iff.mp H
    obtain ⟨t107, A50, H⟩ := H
    replace H : (if t107 = true then ((bound_Right.f a1).bind fun t108 => (if t108 = true then (bound_To.j0 k a0 a1 a2 (decide (a1 > a0))) else (bound_To.j0 k a0 a1 a2 true))) else (bound_To.j0 k a0 a1 a2 true)) = some (r1, r2) := H
    have A5 := Aside0.mk A50
    clear A50
    by_cases c6 : t107 = true
    · subst c6
      have H1 : ((bound_Right.f a1).bind fun t108 => (if t108 = true then (bound_To.j0 k a0 a1 a2 (decide (a1 > a0))) else (bound_To.j0 k a0 a1 a2 true))) = some (r1, r2) := by rw [if_pos rfl] at H; exact H
      clear H
      have H := H1
      clear H1
      replace H := Option.bind_eq_some_iff.mp H
      obtain ⟨t108, A70, H⟩ := H
      replace H : (if t108 = true then (bound_To.j0 k a0 a1 a2 (decide (a1 > a0))) else (bound_To.j0 k a0 a1 a2 true)) = some (r1, r2) := H
      have A7 := Aside0.mk A70
      clear A70
      by_cases c8 : t108 = true
      · subst c8
        have H1 : (bound_To.j0 k a0 a1 a2 (decide (a1 > a0))) = some (r1, r2) := by rw [if_pos rfl] at H; exact H
        clear H
        have H := H1
        clear H1
        have H' := Aside0.mk H
        clear H
        go_wp2_with (first | ((with_reducible refine gate_callee (f := 21) rfl ?_); refine goesL_ (some 10) rfl rfl Try.func21 (by kernel_rfl) rfl #[.int .i64 a0] rfl (by (try simp only [List.map_toArray, List.map_cons, List.map_nil]); first | done | rfl | (simp only [List.length_drop, List.length_take]; rfl)) ?_; (with_reducible refine (bound_Right.calls a0 true _ A5.out).mono ?_); rintro e w' ⟨rfl, ⟨nd, rfl⟩⟩; refine ⟨_, rfl, ?_⟩) | (go_at_call 21; (with_reducible refine (bound_Right.calls a1 true _ A7.out).mono ?_); rintro e w' ⟨rfl, ⟨nd, rfl⟩⟩))
        go_meet
        case rel => exact ⟨_, (decide (a1 > a0)), (by first | rfl | (simp; done) | (simp [*]; done)), H', ⟨by first | omega | exact Nat.le_refl _⟩, by repeat (first | exact Drawn0.refl _ | apply Drawn0.step)⟩
      · replace c8 := Bool.eq_false_iff.mpr c8
        subst c8
        have H1 : (bound_To.j0 k a0 a1 a2 true) = some (r1, r2) := by rw [if_neg (show ¬ (false = true) by decide)] at H; exact H
        clear H
        have H := H1
        clear H1
        have H' := Aside0.mk H
        clear H
        go_wp2_with (first | ((with_reducible refine gate_callee (f := 21) rfl ?_); refine goesL_ (some 10) rfl rfl Try.func21 (by kernel_rfl) rfl #[.int .i64 a0] rfl (by (try simp only [List.map_toArray, List.map_cons, List.map_nil]); first | done | rfl | (simp only [List.length_drop, List.length_take]; rfl)) ?_; (with_reducible refine (bound_Right.calls a0 true _ A5.out).mono ?_); rintro e w' ⟨rfl, ⟨nd, rfl⟩⟩; refine ⟨_, rfl, ?_⟩) | (go_at_call 21; (with_reducible refine (bound_Right.calls a1 false _ A7.out).mono ?_); rintro e w' ⟨rfl, ⟨nd, rfl⟩⟩))
        go_meet
        case rel => exact ⟨_, (true), (by first | rfl | (simp; done) | (simp [*]; done)), H', ⟨by first | omega | exact Nat.le_refl _⟩, by repeat (first | exact Drawn0.refl _ | apply Drawn0.step)⟩
    · replace c6 := Bool.eq_false_iff.mpr c6
      subst c6
      have H1 : (bound_To.j0 k a0 a1 a2 true) = some (r1, r2) := by rw [if_neg (show ¬ (false = true) by decide)] at H; exact H
      clear H
      have H := H1
      clear H1
      have H' := Aside0.mk H
      clear H
      go_wp2_with (first | ((with_reducible refine gate_callee (f := 21) rfl ?_); refine goesL_ (some 10) rfl rfl Try.func21 (by kernel_rfl) rfl #[.int .i64 a0] rfl (by (try simp only [List.map_toArray, List.map_cons, List.map_nil]); first | done | rfl | (simp only [List.length_drop, List.length_take]; rfl)) ?_; (with_reducible refine (bound_Right.calls a0 false _ A5.out).mono ?_); rintro e w' ⟨rfl, ⟨nd, rfl⟩⟩; refine ⟨_, rfl, ?_⟩))
      go_meet
      case rel => exact ⟨_, (true), (by first | rfl | (simp; done) | (simp [*]; done)), H', ⟨by first | omega | exact Nat.le_refl _⟩, by repeat (first | exact Drawn0.refl _ | apply Drawn0.step)⟩
  case rest =>
    clear HC4
    try clear c2
    try clear p2
    try clear c6
    try clear c7
    try clear c8
    obtain ⟨kq, x8_3, rfl, HA, HJ3, ⟨mc3, rfl⟩⟩ := hcut
    cases kq with
    | zero => exact absurd HA.out (by simp [bound_To.j0])
    | succ kj3 =>
      have H := HA.out
      clear HA
      simp only [bound_To.j0] at H
      by_cases c9 : x8_3 = true
      · subst c9
        have H1 : (some (0, 20)) = some (r1, r2) := by rw [if_pos rfl] at H; exact H
        clear H
        have H := H1
        clear H1
        simp only [Option.some.injEq, Prod.mk.injEq] at H
        obtain ⟨rfl, rfl⟩ := H
        go_wp2
        go_ret2
        exact ⟨by first | rfl | (simp; done) | (simp [*]; done), by repeat (first | exact Drawn0.refl _ | apply Drawn0.step)⟩
      · replace c9 := Bool.eq_false_iff.mpr c9
        subst c9
        have H1 : ((bound_In.f a0 a2).bind fun t109 => (if t109 = true then ((num_Up.f a2 (IntKind.u64.wrap (wrap64 (a0 - a1)))).bind fun t110 => (some (t110, 0))) else (some (0, 4)))) = some (r1, r2) := by rw [if_neg (show ¬ (false = true) by decide)] at H; exact H
        clear H
        have H := H1
        clear H1
        replace H := Option.bind_eq_some_iff.mp H
        obtain ⟨t109, A100, H⟩ := H
        replace H : (if t109 = true then ((num_Up.f a2 (IntKind.u64.wrap (wrap64 (a0 - a1)))).bind fun t110 => (some (t110, 0))) else (some (0, 4))) = some (r1, r2) := H
        have A10 := Aside0.mk A100
        clear A100
        by_cases c11 : t109 = true
        · subst c11
          have H1 : ((num_Up.f a2 (IntKind.u64.wrap (wrap64 (a0 - a1)))).bind fun t110 => (some (t110, 0))) = some (r1, r2) := by rw [if_pos rfl] at H; exact H
          clear H
          have H := H1
          clear H1
          replace H := Option.bind_eq_some_iff.mp H
          obtain ⟨t110, A120, H⟩ := H
          replace H : (some (t110, 0)) = some (r1, r2) := H
          have A12 := Aside0.mk A120
          clear A120
          simp only [Option.some.injEq, Prod.mk.injEq] at H
          obtain ⟨rfl, rfl⟩ := H
          go_wp2_with (first | ((with_reducible refine gate_callee (f := 22) rfl ?_); refine goesL_ (some 25) rfl rfl Try.func22 (by kernel_rfl) rfl #[.int .i64 a0, .int .i64 a2] rfl (by (try simp only [List.map_toArray, List.map_cons, List.map_nil]); first | done | rfl | (simp only [List.length_drop, List.length_take]; rfl)) ?_; (with_reducible refine (bound_In.calls a0 a2 true _ A10.out).mono ?_); rintro e w' ⟨rfl, ⟨nd, rfl⟩⟩; refine ⟨_, rfl, ?_⟩) | ((with_reducible refine gate_callee (f := 24) rfl ?_); refine goesL_ (some 32) rfl rfl Try.func24 (by kernel_rfl) rfl #[.int .i64 a2, .int .u64 (IntKind.u64.wrap (wrap64 (a0 - a1)))] rfl (by (try simp only [List.map_toArray, List.map_cons, List.map_nil]); first | done | rfl | (simp only [List.length_drop, List.length_take]; rfl)) ?_; (with_reducible refine (num_Up.calls a2 (IntKind.u64.wrap (wrap64 (a0 - a1))) t110 _ A12.out).mono ?_); rintro e w' ⟨rfl, ⟨nd, rfl⟩⟩; refine ⟨_, rfl, ?_⟩))
          go_ret2
          exact ⟨by first | rfl | (simp; done) | (simp [*]; done), by repeat (first | exact Drawn0.refl _ | apply Drawn0.step)⟩
        · replace c11 := Bool.eq_false_iff.mpr c11
          subst c11
          have H1 : (some (0, 4)) = some (r1, r2) := by rw [if_neg (show ¬ (false = true) by decide)] at H; exact H
          clear H
          have H := H1
          clear H1
          simp only [Option.some.injEq, Prod.mk.injEq] at H
          obtain ⟨rfl, rfl⟩ := H
          go_wp2_with (first | ((with_reducible refine gate_callee (f := 22) rfl ?_); refine goesL_ (some 25) rfl rfl Try.func22 (by kernel_rfl) rfl #[.int .i64 a0, .int .i64 a2] rfl (by (try simp only [List.map_toArray, List.map_cons, List.map_nil]); first | done | rfl | (simp only [List.length_drop, List.length_take]; rfl)) ?_; (with_reducible refine (bound_In.calls a0 a2 false _ A10.out).mono ?_); rintro e w' ⟨rfl, ⟨nd, rfl⟩⟩; refine ⟨_, rfl, ?_⟩))
          go_ret2
          exact ⟨by first | rfl | (simp; done) | (simp [*]; done), by repeat (first | exact Drawn0.refl _ | apply Drawn0.step)⟩

/-! ### bound_Units: function 12 -/
def bound_Units.f (a0 : Int) (a1 : Int) : Option (Int) := (bound_Right.f a0).bind fun t111 => (if t111 = true then ((bound_shift.f a0).bind fun t112 => (if 0 ≤ t112 then (some (shl .i64 a1 t112)) else (none))) else (some 0))
set_option maxHeartbeats 8000000 in
set_option maxRecDepth 100000 in
theorem bound_Units.calls (a0 : Int) (a1 : Int) (r : Int) (w : World) (h : bound_Units.f a0 a1 = some r) :
    Calls Try.prog 12 #[.int .i64 a0, .int .i64 a1] w fun e w' => e = .returned (.int .i64 r) ∧ Drawn0 w w' := by
  have H : ((bound_Right.f a0).bind fun t111 => (if t111 = true then ((bound_shift.f a0).bind fun t112 => (if 0 ≤ t112 then (some (shl .i64 a1 t112)) else (none))) else (some 0))) = some r := h
  clear h
  replace H := Option.bind_eq_some_iff.mp H
  obtain ⟨t111, A30, H⟩ := H
  replace H : (if t111 = true then ((bound_shift.f a0).bind fun t112 => (if 0 ≤ t112 then (some (shl .i64 a1 t112)) else (none))) else (some 0)) = some r := H
  have A3 := Aside0.mk A30
  clear A30
  by_cases c4 : t111 = true
  · subst c4
    have H1 : ((bound_shift.f a0).bind fun t112 => (if 0 ≤ t112 then (some (shl .i64 a1 t112)) else (none))) = some r := by rw [if_pos rfl] at H; exact H
    clear H
    have H := H1
    clear H1
    replace H := Option.bind_eq_some_iff.mp H
    obtain ⟨t112, A50, H⟩ := H
    replace H : (if 0 ≤ t112 then (some (shl .i64 a1 t112)) else (none)) = some r := H
    have A5 := Aside0.mk A50
    clear A50
    by_cases c6 : 0 ≤ t112
    · rw [if_pos c6] at H
      have c6b0 := eq_true c6
      have c6b1 : decide (0 ≤ t112) = true := decide_eq_true c6
      clear c6
      obtain ⟨ji7, hji7⟩ : ∃ j_ : Int, (shl .i64 a1 t112) = j_ := ⟨_, rfl⟩
      replace H : (some ji7) = some r := by first | (rw [hji7] at H; exact H) | (simp only [hji7] at H ⊢; exact H)
      (try rw [hji7] at A3)
      (try rw [hji7] at A5)
      have hji7_ : (IntKind.i64.wrap (a1 * 2 ^ min t112.toNat 64)) = ji7 := hji7
      have hji7z : t112 ≤ 64 → (IntKind.i64.wrap (a1 * 2 ^ t112.toNat)) = ji7 := shl_small hji7
      have hji7y : (wrap64 (a1 * 2 ^ min t112.toNat 64)) = ji7 := (i64_w _).symm.trans hji7_
      have hji7x : t112 ≤ 64 → (wrap64 (a1 * 2 ^ t112.toNat)) = ji7 := fun h_ => (i64_w _).symm.trans (hji7z h_)
      obtain rfl := Option.some.inj H
      go_enter Try.func12, Try.ntmps12
      go_wp2_with (first | ((with_reducible refine gate_callee (f := 21) rfl ?_); refine goesL_ (some 6) rfl rfl Try.func21 (by kernel_rfl) rfl #[.int .i64 a0] rfl (by (try simp only [List.map_toArray, List.map_cons, List.map_nil]); first | done | rfl | (simp only [List.length_drop, List.length_take]; rfl)) ?_; (with_reducible refine (bound_Right.calls a0 true _ A3.out).mono ?_); rintro e w' ⟨rfl, ⟨nd, rfl⟩⟩; refine ⟨_, rfl, ?_⟩) | ((with_reducible refine gate_callee (f := 25) rfl ?_); refine goesL_ (some 10) rfl rfl Try.func25 (by kernel_rfl) rfl #[.int .i64 a0] rfl (by (try simp only [List.map_toArray, List.map_cons, List.map_nil]); first | done | rfl | (simp only [List.length_drop, List.length_take]; rfl)) ?_; (with_reducible refine (bound_shift.calls a0 t112 _ A5.out).mono ?_); rintro e w' ⟨rfl, ⟨nd, rfl⟩⟩; refine ⟨_, rfl, ?_⟩))
      go_ret
      exact ⟨by first | rfl | (simp; done) | (simp only [← hji7] <;> (first | rfl | simp)) | (simp [*]; done), by repeat (first | exact Drawn0.refl _ | apply Drawn0.step)⟩
    · rw [if_neg c6] at H
      exact absurd H (by simp)
  · replace c4 := Bool.eq_false_iff.mpr c4
    subst c4
    have H1 : (some 0) = some r := by rw [if_neg (show ¬ (false = true) by decide)] at H; exact H
    clear H
    have H := H1
    clear H1
    obtain rfl := Option.some.inj H
    go_enter Try.func12, Try.ntmps12
    go_wp2_with (first | ((with_reducible refine gate_callee (f := 21) rfl ?_); refine goesL_ (some 6) rfl rfl Try.func21 (by kernel_rfl) rfl #[.int .i64 a0] rfl (by (try simp only [List.map_toArray, List.map_cons, List.map_nil]); first | done | rfl | (simp only [List.length_drop, List.length_take]; rfl)) ?_; (with_reducible refine (bound_Right.calls a0 false _ A3.out).mono ?_); rintro e w' ⟨rfl, ⟨nd, rfl⟩⟩; refine ⟨_, rfl, ?_⟩))
    go_ret
    exact ⟨by first | rfl | (simp; done) | (simp [*]; done), by repeat (first | exact Drawn0.refl _ | apply Drawn0.step)⟩

/-! ### pluviallaw04_awake: function 8 -/
def pluviallaw04_awake.f (k : Nat)  : Option (Bool) := (bound_To.f k 1 0 3).bind fun bt113 => ((bound_To.f k 1 0 (-3)).bind fun bt115 => ((bound_Units.f 0 1).bind fun t117 => (if t117 = 256 then (if bt113.2 = 0 then (if bt115.2 = 0 then (if bt113.1 = 2 then (some (bt115.1 == (-1))) else (some false)) else (some false)) else (some false)) else (some false))))
theorem pluviallaw04_awake.mono : ∀ k, LeO (pluviallaw04_awake.f k ) (pluviallaw04_awake.f (k + 1) ) := by
  intro  k
  unfold pluviallaw04_awake.f
  repeat' first
      | (with_reducible exact bound_To.mono _ _ _ _)
      | (with_reducible exact LeO.refl _)
      | (with_reducible exact LeO.none _)
      | (with_reducible refine LeO.ite ?_ ?_)
      | (with_reducible refine LeO.bind ?_ (fun _ => ?_))
      | exact bound_To.mono _ _ _ _
      | exact LeO.none _
      | refine LeO.ite ?_ ?_
      | refine LeO.bind ?_ (fun _ => ?_)
set_option maxHeartbeats 8000000 in
set_option maxRecDepth 100000 in
theorem pluviallaw04_awake.calls (k : Nat)  (r : Bool) (w : World) (h : pluviallaw04_awake.f k  = some r) :
    Calls Try.prog 8 #[] w fun e w' => e = .returned (.bool r) ∧ Drawn0 w w' := by
  have H : ((bound_To.f k 1 0 3).bind fun bt113 => ((bound_To.f k 1 0 (-3)).bind fun bt115 => ((bound_Units.f 0 1).bind fun t117 => (if t117 = 256 then (if bt113.2 = 0 then (if bt115.2 = 0 then (if bt113.1 = 2 then (some (bt115.1 == (-1))) else (some false)) else (some false)) else (some false)) else (some false))))) = some r := h
  clear h
  replace H := Option.bind_eq_some_iff.mp H
  obtain ⟨⟨t113, t114⟩, A10, H⟩ := H
  replace H : ((bound_To.f k 1 0 (-3)).bind fun bt115 => ((bound_Units.f 0 1).bind fun t117 => (if t117 = 256 then (if t114 = 0 then (if bt115.2 = 0 then (if t113 = 2 then (some (bt115.1 == (-1))) else (some false)) else (some false)) else (some false)) else (some false)))) = some r := H
  have A1 := Aside0.mk A10
  clear A10
  replace H := Option.bind_eq_some_iff.mp H
  obtain ⟨⟨t115, t116⟩, A20, H⟩ := H
  replace H : ((bound_Units.f 0 1).bind fun t117 => (if t117 = 256 then (if t114 = 0 then (if t116 = 0 then (if t113 = 2 then (some (t115 == (-1))) else (some false)) else (some false)) else (some false)) else (some false))) = some r := H
  have A2 := Aside0.mk A20
  clear A20
  replace H := Option.bind_eq_some_iff.mp H
  obtain ⟨t117, A30, H⟩ := H
  replace H : (if t117 = 256 then (if t114 = 0 then (if t116 = 0 then (if t113 = 2 then (some (t115 == (-1))) else (some false)) else (some false)) else (some false)) else (some false)) = some r := H
  have A3 := Aside0.mk A30
  clear A30
  by_cases c4 : t117 = 256
  · rw [if_pos c4] at H
    have c4b0 : (t117 == 256) = true := beq_iff_eq.mpr c4
    have c4b1 : (t117 != 256) = false := bne_eq_false_iff_eq.mpr c4
    clear c4
    by_cases c5 : t114 = 0
    · rw [if_pos c5] at H
      have c5b0 : (t114 == 0) = true := beq_iff_eq.mpr c5
      have c5b1 : (t114 != 0) = false := bne_eq_false_iff_eq.mpr c5
      clear c5
      by_cases c6 : t116 = 0
      · rw [if_pos c6] at H
        have c6b0 : (t116 == 0) = true := beq_iff_eq.mpr c6
        have c6b1 : (t116 != 0) = false := bne_eq_false_iff_eq.mpr c6
        clear c6
        by_cases c7 : t113 = 2
        · rw [if_pos c7] at H
          have c7b0 : (t113 == 2) = true := beq_iff_eq.mpr c7
          have c7b1 : (t113 != 2) = false := bne_eq_false_iff_eq.mpr c7
          clear c7
          obtain rfl := Option.some.inj H
          go_enter Try.func8, Try.ntmps8
          go_wp2_with (first | ((with_reducible refine gate_callee (f := 7) rfl ?_); refine goesL_ (some 6) rfl rfl Try.func7 (by kernel_rfl) rfl #[.int .i64 1, .int .i64 0, .int .i64 3] rfl (by (try simp only [List.map_toArray, List.map_cons, List.map_nil]); first | done | rfl | (simp only [List.length_drop, List.length_take]; rfl)) ?_; (with_reducible refine (bound_To.calls k 1 0 3 t113 t114 _ A1.out).mono ?_); rintro e w' ⟨rfl, ⟨nd, rfl⟩⟩; refine ⟨_, rfl, ?_⟩) | ((with_reducible refine gate_callee (f := 7) rfl ?_); refine goesL_ (some 10) rfl rfl Try.func7 (by kernel_rfl) rfl #[.int .i64 1, .int .i64 0, .int .i64 (-3)] rfl (by (try simp only [List.map_toArray, List.map_cons, List.map_nil]); first | done | rfl | (simp only [List.length_drop, List.length_take]; rfl)) ?_; (with_reducible refine (bound_To.calls k 1 0 (-3) t115 t116 _ A2.out).mono ?_); rintro e w' ⟨rfl, ⟨nd, rfl⟩⟩; refine ⟨_, rfl, ?_⟩) | ((with_reducible refine gate_callee (f := 12) rfl ?_); refine goesL_ (some 13) rfl rfl Try.func12 (by kernel_rfl) rfl #[.int .i64 0, .int .i64 1] rfl (by (try simp only [List.map_toArray, List.map_cons, List.map_nil]); first | done | rfl | (simp only [List.length_drop, List.length_take]; rfl)) ?_; (with_reducible refine (bound_Units.calls 0 1 t117 _ A3.out).mono ?_); rintro e w' ⟨rfl, ⟨nd, rfl⟩⟩; refine ⟨_, rfl, ?_⟩))
          go_ret
          exact ⟨by first | rfl | (simp; done) | (simp [*]; done), by repeat (first | exact Drawn0.refl _ | apply Drawn0.step)⟩
        · rw [if_neg c7] at H
          have c7b0 : (t113 == 2) = false := beq_eq_false_iff_ne.mpr c7
          have c7b1 : (t113 != 2) = true := bne_iff_ne.mpr c7
          obtain rfl := Option.some.inj H
          go_enter Try.func8, Try.ntmps8
          go_wp2_with (first | ((with_reducible refine gate_callee (f := 7) rfl ?_); refine goesL_ (some 6) rfl rfl Try.func7 (by kernel_rfl) rfl #[.int .i64 1, .int .i64 0, .int .i64 3] rfl (by (try simp only [List.map_toArray, List.map_cons, List.map_nil]); first | done | rfl | (simp only [List.length_drop, List.length_take]; rfl)) ?_; (with_reducible refine (bound_To.calls k 1 0 3 t113 t114 _ A1.out).mono ?_); rintro e w' ⟨rfl, ⟨nd, rfl⟩⟩; refine ⟨_, rfl, ?_⟩) | ((with_reducible refine gate_callee (f := 7) rfl ?_); refine goesL_ (some 10) rfl rfl Try.func7 (by kernel_rfl) rfl #[.int .i64 1, .int .i64 0, .int .i64 (-3)] rfl (by (try simp only [List.map_toArray, List.map_cons, List.map_nil]); first | done | rfl | (simp only [List.length_drop, List.length_take]; rfl)) ?_; (with_reducible refine (bound_To.calls k 1 0 (-3) t115 t116 _ A2.out).mono ?_); rintro e w' ⟨rfl, ⟨nd, rfl⟩⟩; refine ⟨_, rfl, ?_⟩) | ((with_reducible refine gate_callee (f := 12) rfl ?_); refine goesL_ (some 13) rfl rfl Try.func12 (by kernel_rfl) rfl #[.int .i64 0, .int .i64 1] rfl (by (try simp only [List.map_toArray, List.map_cons, List.map_nil]); first | done | rfl | (simp only [List.length_drop, List.length_take]; rfl)) ?_; (with_reducible refine (bound_Units.calls 0 1 t117 _ A3.out).mono ?_); rintro e w' ⟨rfl, ⟨nd, rfl⟩⟩; refine ⟨_, rfl, ?_⟩))
          go_ret
          exact ⟨by first | rfl | (simp; done) | (simp [*]; done), by repeat (first | exact Drawn0.refl _ | apply Drawn0.step)⟩
      · rw [if_neg c6] at H
        have c6b0 : (t116 == 0) = false := beq_eq_false_iff_ne.mpr c6
        have c6b1 : (t116 != 0) = true := bne_iff_ne.mpr c6
        obtain rfl := Option.some.inj H
        go_enter Try.func8, Try.ntmps8
        go_wp2_with (first | ((with_reducible refine gate_callee (f := 7) rfl ?_); refine goesL_ (some 6) rfl rfl Try.func7 (by kernel_rfl) rfl #[.int .i64 1, .int .i64 0, .int .i64 3] rfl (by (try simp only [List.map_toArray, List.map_cons, List.map_nil]); first | done | rfl | (simp only [List.length_drop, List.length_take]; rfl)) ?_; (with_reducible refine (bound_To.calls k 1 0 3 t113 t114 _ A1.out).mono ?_); rintro e w' ⟨rfl, ⟨nd, rfl⟩⟩; refine ⟨_, rfl, ?_⟩) | ((with_reducible refine gate_callee (f := 7) rfl ?_); refine goesL_ (some 10) rfl rfl Try.func7 (by kernel_rfl) rfl #[.int .i64 1, .int .i64 0, .int .i64 (-3)] rfl (by (try simp only [List.map_toArray, List.map_cons, List.map_nil]); first | done | rfl | (simp only [List.length_drop, List.length_take]; rfl)) ?_; (with_reducible refine (bound_To.calls k 1 0 (-3) t115 t116 _ A2.out).mono ?_); rintro e w' ⟨rfl, ⟨nd, rfl⟩⟩; refine ⟨_, rfl, ?_⟩) | ((with_reducible refine gate_callee (f := 12) rfl ?_); refine goesL_ (some 13) rfl rfl Try.func12 (by kernel_rfl) rfl #[.int .i64 0, .int .i64 1] rfl (by (try simp only [List.map_toArray, List.map_cons, List.map_nil]); first | done | rfl | (simp only [List.length_drop, List.length_take]; rfl)) ?_; (with_reducible refine (bound_Units.calls 0 1 t117 _ A3.out).mono ?_); rintro e w' ⟨rfl, ⟨nd, rfl⟩⟩; refine ⟨_, rfl, ?_⟩))
        go_ret
        exact ⟨by first | rfl | (simp; done) | (simp [*]; done), by repeat (first | exact Drawn0.refl _ | apply Drawn0.step)⟩
    · rw [if_neg c5] at H
      have c5b0 : (t114 == 0) = false := beq_eq_false_iff_ne.mpr c5
      have c5b1 : (t114 != 0) = true := bne_iff_ne.mpr c5
      obtain rfl := Option.some.inj H
      go_enter Try.func8, Try.ntmps8
      go_wp2_with (first | ((with_reducible refine gate_callee (f := 7) rfl ?_); refine goesL_ (some 6) rfl rfl Try.func7 (by kernel_rfl) rfl #[.int .i64 1, .int .i64 0, .int .i64 3] rfl (by (try simp only [List.map_toArray, List.map_cons, List.map_nil]); first | done | rfl | (simp only [List.length_drop, List.length_take]; rfl)) ?_; (with_reducible refine (bound_To.calls k 1 0 3 t113 t114 _ A1.out).mono ?_); rintro e w' ⟨rfl, ⟨nd, rfl⟩⟩; refine ⟨_, rfl, ?_⟩) | ((with_reducible refine gate_callee (f := 7) rfl ?_); refine goesL_ (some 10) rfl rfl Try.func7 (by kernel_rfl) rfl #[.int .i64 1, .int .i64 0, .int .i64 (-3)] rfl (by (try simp only [List.map_toArray, List.map_cons, List.map_nil]); first | done | rfl | (simp only [List.length_drop, List.length_take]; rfl)) ?_; (with_reducible refine (bound_To.calls k 1 0 (-3) t115 t116 _ A2.out).mono ?_); rintro e w' ⟨rfl, ⟨nd, rfl⟩⟩; refine ⟨_, rfl, ?_⟩) | ((with_reducible refine gate_callee (f := 12) rfl ?_); refine goesL_ (some 13) rfl rfl Try.func12 (by kernel_rfl) rfl #[.int .i64 0, .int .i64 1] rfl (by (try simp only [List.map_toArray, List.map_cons, List.map_nil]); first | done | rfl | (simp only [List.length_drop, List.length_take]; rfl)) ?_; (with_reducible refine (bound_Units.calls 0 1 t117 _ A3.out).mono ?_); rintro e w' ⟨rfl, ⟨nd, rfl⟩⟩; refine ⟨_, rfl, ?_⟩))
      go_ret
      exact ⟨by first | rfl | (simp; done) | (simp [*]; done), by repeat (first | exact Drawn0.refl _ | apply Drawn0.step)⟩
  · rw [if_neg c4] at H
    have c4b0 : (t117 == 256) = false := beq_eq_false_iff_ne.mpr c4
    have c4b1 : (t117 != 256) = true := bne_iff_ne.mpr c4
    obtain rfl := Option.some.inj H
    go_enter Try.func8, Try.ntmps8
    go_wp2_with (first | ((with_reducible refine gate_callee (f := 7) rfl ?_); refine goesL_ (some 6) rfl rfl Try.func7 (by kernel_rfl) rfl #[.int .i64 1, .int .i64 0, .int .i64 3] rfl (by (try simp only [List.map_toArray, List.map_cons, List.map_nil]); first | done | rfl | (simp only [List.length_drop, List.length_take]; rfl)) ?_; (with_reducible refine (bound_To.calls k 1 0 3 t113 t114 _ A1.out).mono ?_); rintro e w' ⟨rfl, ⟨nd, rfl⟩⟩; refine ⟨_, rfl, ?_⟩) | ((with_reducible refine gate_callee (f := 7) rfl ?_); refine goesL_ (some 10) rfl rfl Try.func7 (by kernel_rfl) rfl #[.int .i64 1, .int .i64 0, .int .i64 (-3)] rfl (by (try simp only [List.map_toArray, List.map_cons, List.map_nil]); first | done | rfl | (simp only [List.length_drop, List.length_take]; rfl)) ?_; (with_reducible refine (bound_To.calls k 1 0 (-3) t115 t116 _ A2.out).mono ?_); rintro e w' ⟨rfl, ⟨nd, rfl⟩⟩; refine ⟨_, rfl, ?_⟩) | ((with_reducible refine gate_callee (f := 12) rfl ?_); refine goesL_ (some 13) rfl rfl Try.func12 (by kernel_rfl) rfl #[.int .i64 0, .int .i64 1] rfl (by (try simp only [List.map_toArray, List.map_cons, List.map_nil]); first | done | rfl | (simp only [List.length_drop, List.length_take]; rfl)) ?_; (with_reducible refine (bound_Units.calls 0 1 t117 _ A3.out).mono ?_); rintro e w' ⟨rfl, ⟨nd, rfl⟩⟩; refine ⟨_, rfl, ?_⟩))
    go_ret
    exact ⟨by first | rfl | (simp; done) | (simp [*]; done), by repeat (first | exact Drawn0.refl _ | apply Drawn0.step)⟩

/-! ### bound_Low: function 11 -/
def bound_Low.f (a0 : Int) (a1 : Int) : Option (Int) := (bound_Units.f a0 (wrap64 (a1 - 1))).bind fun t118 => (some t118)
set_option maxHeartbeats 8000000 in
set_option maxRecDepth 100000 in
theorem bound_Low.calls (a0 : Int) (a1 : Int) (r : Int) (w : World) (h : bound_Low.f a0 a1 = some r) :
    Calls Try.prog 11 #[.int .i64 a0, .int .i64 a1] w fun e w' => e = .returned (.int .i64 r) ∧ Drawn0 w w' := by
  have H : ((bound_Units.f a0 (wrap64 (a1 - 1))).bind fun t118 => (some t118)) = some r := h
  clear h
  replace H := Option.bind_eq_some_iff.mp H
  obtain ⟨t118, A30, H⟩ := H
  replace H : (some t118) = some r := H
  have A3 := Aside0.mk A30
  clear A30
  obtain rfl := Option.some.inj H
  go_enter Try.func11, Try.ntmps11
  go_wp2_with (first | ((with_reducible refine gate_callee (f := 12) rfl ?_); refine goesL_ (some 8) rfl rfl Try.func12 (by kernel_rfl) rfl #[.int .i64 a0, .int .i64 (wrap64 (a1 - 1))] rfl (by (try simp only [List.map_toArray, List.map_cons, List.map_nil]); first | done | rfl | (simp only [List.length_drop, List.length_take]; rfl)) ?_; (with_reducible refine (bound_Units.calls a0 (wrap64 (a1 - 1)) t118 _ A3.out).mono ?_); rintro e w' ⟨rfl, ⟨nd, rfl⟩⟩; refine ⟨_, rfl, ?_⟩))
  go_ret
  exact ⟨by first | rfl | (simp; done) | (simp [*]; done), by repeat (first | exact Drawn0.refl _ | apply Drawn0.step)⟩

/-! ### pluviallaw04_BoundSteps: function 3 -/
def pluviallaw04_BoundSteps.j0 : Nat → Int → Int → Int → Int → Int → Bool → Option (Bool)
  | 0, _, _, _, _, _, _ => none
  | k + 1, x9, x10, x11, x13, x15, x52 => if x52 = true then ((pluviallaw04_awake.f k).bind fun t123 => (some t123)) else ((bound_To.f k x10 x11 x15).bind fun bt124 => (if bt124.2 = 0 then (if 0 ≤ (IntKind.u64.wrap (wrap64 (x9 - x11))) then ((bound_Least.f x9).bind fun t127 => ((bound_To.f k x9 x11 (mx (wrap64 ((wrap64 ((wrap64 (x13 - 1)) * (shl .i64 1 (IntKind.u64.wrap (wrap64 (x9 - x11)))))) + 1)) t127)).bind fun bt128 => ((bound_Most.f x9).bind fun t130 => ((bound_To.f k x9 x11 (mn (wrap64 ((wrap64 ((wrap64 ((wrap64 ((wrap64 (x13 - 1)) * (shl .i64 1 (IntKind.u64.wrap (wrap64 (x9 - x11)))))) + 1)) + (shl .i64 1 (IntKind.u64.wrap (wrap64 (x9 - x11)))))) - 1)) t130)).bind fun bt131 => ((pluviallaw04_awake.f k).bind fun t133 => (if t133 = true then (if x13 = bt124.1 then (if bt128.1 = x13 then (if bt131.1 = x13 then ((bound_Low.f x9 (wrap64 ((wrap64 ((wrap64 (x13 - 1)) * (shl .i64 1 (IntKind.u64.wrap (wrap64 (x9 - x11)))))) + 1))).bind fun t134 => ((bound_Low.f x11 x13).bind fun t135 => (if t134 = t135 then ((bound_Units.f x9 (wrap64 ((wrap64 ((wrap64 ((wrap64 ((wrap64 (x13 - 1)) * (shl .i64 1 (IntKind.u64.wrap (wrap64 (x9 - x11)))))) + 1)) + (shl .i64 1 (IntKind.u64.wrap (wrap64 (x9 - x11)))))) - 1))).bind fun t136 => ((bound_Units.f x11 x13).bind fun t137 => (some (t136 == t137)))) else (some false)))) else (some false)) else (some false)) else (some false)) else (some false))))))) else (none)) else ((pluviallaw04_awake.f k).bind fun t126 => (if t126 = true then (some (decide (x10 < x11))) else (some false)))))
def pluviallaw04_BoundSteps.f (k : Nat) (a0 : Int) (a1 : Int) (a2 : Int) (a3 : Int) : Option (Bool) := (bound_To.f k (wrap64 (a0)) (wrap64 (a2)) (wrap64 (a3))).bind fun bt119 => ((bound_To.f k (wrap64 (a0)) (wrap64 (a1)) (wrap64 (a3))).bind fun bt121 => (if bt119.2 = 0 then (pluviallaw04_BoundSteps.j0 k (wrap64 (a0)) (wrap64 (a1)) (wrap64 (a2)) bt119.1 bt121.1 (bt121.2 != 0)) else (pluviallaw04_BoundSteps.j0 k (wrap64 (a0)) (wrap64 (a1)) (wrap64 (a2)) bt119.1 bt121.1 true)))
theorem pluviallaw04_BoundSteps.mono_l : ∀ k, (∀ y0 y1 y2 y3 y4 y5, LeO (pluviallaw04_BoundSteps.j0 k y0 y1 y2 y3 y4 y5) (pluviallaw04_BoundSteps.j0 (k + 1) y0 y1 y2 y3 y4 y5))
  | 0 => fun _ _ _ _ _ _ r h => by simp [pluviallaw04_BoundSteps.j0] at h
  | k + 1 => by
    have ih0 := pluviallaw04_BoundSteps.mono_l k
    · intro y0 y1 y2 y3 y4 y5
      unfold pluviallaw04_BoundSteps.j0
      repeat' first
      | (with_reducible exact ih0 _ _ _ _ _ _)
      | (with_reducible exact bound_To.mono _ _ _ _)
      | (with_reducible exact pluviallaw04_awake.mono _)
      | (with_reducible exact LeO.refl _)
      | (with_reducible exact LeO.none _)
      | (with_reducible refine LeO.ite ?_ ?_)
      | (with_reducible refine LeO.bind ?_ (fun _ => ?_))
      | exact ih0 _ _ _ _ _ _
      | exact bound_To.mono _ _ _ _
      | exact pluviallaw04_awake.mono _
      | exact LeO.none _
      | refine LeO.ite ?_ ?_
      | refine LeO.bind ?_ (fun _ => ?_)
theorem pluviallaw04_BoundSteps.mono : ∀ a0 a1 a2 a3 k, LeO (pluviallaw04_BoundSteps.f k a0 a1 a2 a3) (pluviallaw04_BoundSteps.f (k + 1) a0 a1 a2 a3) := by
  intro a0 a1 a2 a3 k
  have ih0 := pluviallaw04_BoundSteps.mono_l k
  unfold pluviallaw04_BoundSteps.f
  repeat' first
      | (with_reducible exact ih0 _ _ _ _ _ _)
      | (with_reducible exact bound_To.mono _ _ _ _)
      | (with_reducible exact pluviallaw04_awake.mono _)
      | (with_reducible exact LeO.refl _)
      | (with_reducible exact LeO.none _)
      | (with_reducible refine LeO.ite ?_ ?_)
      | (with_reducible refine LeO.bind ?_ (fun _ => ?_))
      | exact ih0 _ _ _ _ _ _
      | exact bound_To.mono _ _ _ _
      | exact pluviallaw04_awake.mono _
      | exact LeO.none _
      | refine LeO.ite ?_ ?_
      | refine LeO.bind ?_ (fun _ => ?_)
set_option maxHeartbeats 8000000 in
set_option maxRecDepth 100000 in
theorem pluviallaw04_BoundSteps.calls (k : Nat) (a0 : Int) (a1 : Int) (a2 : Int) (a3 : Int) (r : Bool) (w : World) (h : pluviallaw04_BoundSteps.f k a0 a1 a2 a3 = some r) :
    Calls Try.prog 3 #[.int .i8 a0, .int .i8 a1, .int .i8 a2, .int .i32 a3] w fun e w' => e = .returned (.bool r) ∧ Below w.heap.size w w' := by
  have HB := Aside0.mk (Below.refl w.heap.size w)
  have H : ((bound_To.f k (wrap64 (a0)) (wrap64 (a2)) (wrap64 (a3))).bind fun bt119 => ((bound_To.f k (wrap64 (a0)) (wrap64 (a1)) (wrap64 (a3))).bind fun bt121 => (if bt119.2 = 0 then (pluviallaw04_BoundSteps.j0 k (wrap64 (a0)) (wrap64 (a1)) (wrap64 (a2)) bt119.1 bt121.1 (bt121.2 != 0)) else (pluviallaw04_BoundSteps.j0 k (wrap64 (a0)) (wrap64 (a1)) (wrap64 (a2)) bt119.1 bt121.1 true)))) = some r := h
  clear h
  replace H := Option.bind_eq_some_iff.mp H
  obtain ⟨⟨t119, t120⟩, A50, H⟩ := H
  replace H : ((bound_To.f k (wrap64 (a0)) (wrap64 (a1)) (wrap64 (a3))).bind fun bt121 => (if t120 = 0 then (pluviallaw04_BoundSteps.j0 k (wrap64 (a0)) (wrap64 (a1)) (wrap64 (a2)) t119 bt121.1 (bt121.2 != 0)) else (pluviallaw04_BoundSteps.j0 k (wrap64 (a0)) (wrap64 (a1)) (wrap64 (a2)) t119 bt121.1 true))) = some r := H
  have A5 := Aside0.mk A50
  clear A50
  replace H := Option.bind_eq_some_iff.mp H
  obtain ⟨⟨t121, t122⟩, A60, H⟩ := H
  replace H : (if t120 = 0 then (pluviallaw04_BoundSteps.j0 k (wrap64 (a0)) (wrap64 (a1)) (wrap64 (a2)) t119 t121 (t122 != 0)) else (pluviallaw04_BoundSteps.j0 k (wrap64 (a0)) (wrap64 (a1)) (wrap64 (a2)) t119 t121 true)) = some r := H
  have A6 := Aside0.mk A60
  clear A60
  have HC7 := Aside0.mk H
  clear H
  go_enter Try.func3, Try.ntmps3
  go_upto_region 4 with (first | ((with_reducible refine gate_callee (f := 7) rfl ?_); refine goesL_ (some 37) rfl rfl Try.func7 (by kernel_rfl) rfl #[.int .i64 (wrap64 (a0)), .int .i64 (wrap64 (a2)), .int .i64 (wrap64 (a3))] rfl (by (try simp only [List.map_toArray, List.map_cons, List.map_nil]); first | done | rfl | (simp only [List.length_drop, List.length_take]; rfl)) ?_; (with_reducible refine (bound_To.calls k (wrap64 (a0)) (wrap64 (a2)) (wrap64 (a3)) t119 t120 _ A5.out).mono ?_); rintro e w' ⟨rfl, ⟨nd, rfl⟩⟩; refine ⟨_, rfl, ?_⟩) | ((with_reducible refine gate_callee (f := 7) rfl ?_); refine goesL_ (some 44) rfl rfl Try.func7 (by kernel_rfl) rfl #[.int .i64 (wrap64 (a0)), .int .i64 (wrap64 (a1)), .int .i64 (wrap64 (a3))] rfl (by (try simp only [List.map_toArray, List.map_cons, List.map_nil]); first | done | rfl | (simp only [List.length_drop, List.length_take]; rfl)) ?_; (with_reducible refine (bound_To.calls k (wrap64 (a0)) (wrap64 (a1)) (wrap64 (a3)) t121 t122 _ A6.out).mono ?_); rintro e w' ⟨rfl, ⟨nd, rfl⟩⟩; refine ⟨_, rfl, ?_⟩))
  (try simp only [Act.put, List.setIfInBounds_toArray, List.set_cons_zero, List.set_cons_succ])
  go_cut [52] (fun v52 wc => ∃ (kq : Nat) (x52_6 : Bool), v52 = .bool x52_6 ∧ Aside0 (pluviallaw04_BoundSteps.j0 kq (wrap64 (a0)) (wrap64 (a1)) (wrap64 (a2)) t119 t121 x52_6 = some r) ∧ Aside0 (kq ≤ k) ∧ Aside0 (Below w.heap.size w wc))
  case first =>
    have H := HC7.out
    clear HC7
    by_cases c8 : t120 = 0
    · rw [if_pos c8] at H
      have c8b0 : (t120 == 0) = true := beq_iff_eq.mpr c8
      have c8b1 : (t120 != 0) = false := bne_eq_false_iff_eq.mpr c8
      clear c8
      (first | rw [c8b0] | (simp only [i64_w, i32_w]; rw [c8b0]) | skip)
      have H' := Aside0.mk H
      clear H
      go_wp2
      go_meet
      case rel => exact ⟨_, ((t122 != 0)), (by first | rfl | (simp; done) | (simp [*]; done)), H', ⟨by first | omega | exact Nat.le_refl _⟩, ⟨by repeat (first | (with_reducible first | exact HB.out | apply below_alloc | apply pw_below_drewN | apply below_drew1) | exact HB.out)⟩⟩
    · rw [if_neg c8] at H
      have c8b0 : (t120 == 0) = false := beq_eq_false_iff_ne.mpr c8
      have c8b1 : (t120 != 0) = true := bne_iff_ne.mpr c8
      (first | rw [c8b0] | (simp only [i64_w, i32_w]; rw [c8b0]) | skip)
      have H' := Aside0.mk H
      clear H
      go_wp2
      go_meet
      case rel => exact ⟨_, (true), (by first | rfl | (simp; done) | (simp [*]; done)), H', ⟨by first | omega | exact Nat.le_refl _⟩, ⟨by repeat (first | (with_reducible first | exact HB.out | apply below_alloc | apply pw_below_drewN | apply below_drew1) | exact HB.out)⟩⟩
  case rest =>
    clear HC7
    try clear p2
    try clear c3
    try clear p6
    try clear c7
    try clear c8
    try clear c8b0
    try clear c8b1
    obtain ⟨kq, x52_6, rfl, HA, HJ6, HB⟩ := hcut
    cases kq with
    | zero => exact absurd HA.out (by simp [pluviallaw04_BoundSteps.j0])
    | succ kj6 =>
      have H := HA.out
      clear HA
      simp only [pluviallaw04_BoundSteps.j0] at H
      by_cases c9 : x52_6 = true
      · subst c9
        have H1 : ((pluviallaw04_awake.f kj6).bind fun t123 => (some t123)) = some r := by rw [if_pos rfl] at H; exact H
        clear H
        have H := H1
        clear H1
        replace H := Option.bind_eq_some_iff.mp H
        obtain ⟨t123, A100, H⟩ := H
        replace H : (some t123) = some r := H
        have A10 := Aside0.mk A100
        clear A100
        obtain rfl := Option.some.inj H
        go_wp2_with (first | ((with_reducible refine gate_callee (f := 8) rfl ?_); refine goesL_ (some 53) rfl rfl Try.func8 (by kernel_rfl) rfl #[] rfl (by (try simp only [List.map_toArray, List.map_cons, List.map_nil]); first | done | rfl | (simp only [List.length_drop, List.length_take]; rfl)) ?_; (with_reducible refine (pluviallaw04_awake.calls kj6  t123 _ A10.out).mono ?_); rintro e w' ⟨rfl, ⟨nd, rfl⟩⟩; refine ⟨_, rfl, ?_⟩))
        go_ret
        exact ⟨by first | rfl | (simp [errW_none, errW_some] <;> rfl) | (simp [*, errW_none, errW_some] <;> rfl), by repeat (first | (with_reducible first | exact HB.out | apply below_alloc | apply pw_below_drewN | apply below_drew1) | exact HB.out)⟩
      · replace c9 := Bool.eq_false_iff.mpr c9
        subst c9
        have H1 : ((bound_To.f kj6 (wrap64 (a1)) (wrap64 (a2)) t121).bind fun bt124 => (if bt124.2 = 0 then (if 0 ≤ (IntKind.u64.wrap (wrap64 ((wrap64 (a0)) - (wrap64 (a2))))) then ((bound_Least.f (wrap64 (a0))).bind fun t127 => ((bound_To.f kj6 (wrap64 (a0)) (wrap64 (a2)) (mx (wrap64 ((wrap64 ((wrap64 (t119 - 1)) * (shl .i64 1 (IntKind.u64.wrap (wrap64 ((wrap64 (a0)) - (wrap64 (a2)))))))) + 1)) t127)).bind fun bt128 => ((bound_Most.f (wrap64 (a0))).bind fun t130 => ((bound_To.f kj6 (wrap64 (a0)) (wrap64 (a2)) (mn (wrap64 ((wrap64 ((wrap64 ((wrap64 ((wrap64 (t119 - 1)) * (shl .i64 1 (IntKind.u64.wrap (wrap64 ((wrap64 (a0)) - (wrap64 (a2)))))))) + 1)) + (shl .i64 1 (IntKind.u64.wrap (wrap64 ((wrap64 (a0)) - (wrap64 (a2)))))))) - 1)) t130)).bind fun bt131 => ((pluviallaw04_awake.f kj6).bind fun t133 => (if t133 = true then (if t119 = bt124.1 then (if bt128.1 = t119 then (if bt131.1 = t119 then ((bound_Low.f (wrap64 (a0)) (wrap64 ((wrap64 ((wrap64 (t119 - 1)) * (shl .i64 1 (IntKind.u64.wrap (wrap64 ((wrap64 (a0)) - (wrap64 (a2)))))))) + 1))).bind fun t134 => ((bound_Low.f (wrap64 (a2)) t119).bind fun t135 => (if t134 = t135 then ((bound_Units.f (wrap64 (a0)) (wrap64 ((wrap64 ((wrap64 ((wrap64 ((wrap64 (t119 - 1)) * (shl .i64 1 (IntKind.u64.wrap (wrap64 ((wrap64 (a0)) - (wrap64 (a2)))))))) + 1)) + (shl .i64 1 (IntKind.u64.wrap (wrap64 ((wrap64 (a0)) - (wrap64 (a2)))))))) - 1))).bind fun t136 => ((bound_Units.f (wrap64 (a2)) t119).bind fun t137 => (some (t136 == t137)))) else (some false)))) else (some false)) else (some false)) else (some false)) else (some false))))))) else (none)) else ((pluviallaw04_awake.f kj6).bind fun t126 => (if t126 = true then (some (decide ((wrap64 (a1)) < (wrap64 (a2))))) else (some false))))) = some r := by rw [if_neg (show ¬ (false = true) by decide)] at H; exact H
        clear H
        have H := H1
        clear H1
        replace H := Option.bind_eq_some_iff.mp H
        obtain ⟨⟨t124, t125⟩, A110, H⟩ := H
        replace H : (if t125 = 0 then (if 0 ≤ (IntKind.u64.wrap (wrap64 ((wrap64 (a0)) - (wrap64 (a2))))) then ((bound_Least.f (wrap64 (a0))).bind fun t127 => ((bound_To.f kj6 (wrap64 (a0)) (wrap64 (a2)) (mx (wrap64 ((wrap64 ((wrap64 (t119 - 1)) * (shl .i64 1 (IntKind.u64.wrap (wrap64 ((wrap64 (a0)) - (wrap64 (a2)))))))) + 1)) t127)).bind fun bt128 => ((bound_Most.f (wrap64 (a0))).bind fun t130 => ((bound_To.f kj6 (wrap64 (a0)) (wrap64 (a2)) (mn (wrap64 ((wrap64 ((wrap64 ((wrap64 ((wrap64 (t119 - 1)) * (shl .i64 1 (IntKind.u64.wrap (wrap64 ((wrap64 (a0)) - (wrap64 (a2)))))))) + 1)) + (shl .i64 1 (IntKind.u64.wrap (wrap64 ((wrap64 (a0)) - (wrap64 (a2)))))))) - 1)) t130)).bind fun bt131 => ((pluviallaw04_awake.f kj6).bind fun t133 => (if t133 = true then (if t119 = t124 then (if bt128.1 = t119 then (if bt131.1 = t119 then ((bound_Low.f (wrap64 (a0)) (wrap64 ((wrap64 ((wrap64 (t119 - 1)) * (shl .i64 1 (IntKind.u64.wrap (wrap64 ((wrap64 (a0)) - (wrap64 (a2)))))))) + 1))).bind fun t134 => ((bound_Low.f (wrap64 (a2)) t119).bind fun t135 => (if t134 = t135 then ((bound_Units.f (wrap64 (a0)) (wrap64 ((wrap64 ((wrap64 ((wrap64 ((wrap64 (t119 - 1)) * (shl .i64 1 (IntKind.u64.wrap (wrap64 ((wrap64 (a0)) - (wrap64 (a2)))))))) + 1)) + (shl .i64 1 (IntKind.u64.wrap (wrap64 ((wrap64 (a0)) - (wrap64 (a2)))))))) - 1))).bind fun t136 => ((bound_Units.f (wrap64 (a2)) t119).bind fun t137 => (some (t136 == t137)))) else (some false)))) else (some false)) else (some false)) else (some false)) else (some false))))))) else (none)) else ((pluviallaw04_awake.f kj6).bind fun t126 => (if t126 = true then (some (decide ((wrap64 (a1)) < (wrap64 (a2))))) else (some false)))) = some r := H
        have A11 := Aside0.mk A110
        clear A110
        by_cases c12 : t125 = 0
        · rw [if_pos c12] at H
          have c12b0 : (t125 == 0) = true := beq_iff_eq.mpr c12
          have c12b1 : (t125 != 0) = false := bne_eq_false_iff_eq.mpr c12
          clear c12
          obtain ⟨ji13, hji13⟩ : ∃ j_ : Int, (IntKind.u64.wrap (wrap64 ((wrap64 (a0)) - (wrap64 (a2))))) = j_ := ⟨_, rfl⟩
          replace H : (if 0 ≤ (ji13) then ((bound_Least.f (wrap64 (a0))).bind fun t127 => ((bound_To.f kj6 (wrap64 (a0)) (wrap64 (a2)) (mx (wrap64 ((wrap64 ((wrap64 (t119 - 1)) * (shl .i64 1 (ji13)))) + 1)) t127)).bind fun bt128 => ((bound_Most.f (wrap64 (a0))).bind fun t130 => ((bound_To.f kj6 (wrap64 (a0)) (wrap64 (a2)) (mn (wrap64 ((wrap64 ((wrap64 ((wrap64 ((wrap64 (t119 - 1)) * (shl .i64 1 (ji13)))) + 1)) + (shl .i64 1 (ji13)))) - 1)) t130)).bind fun bt131 => ((pluviallaw04_awake.f kj6).bind fun t133 => (if t133 = true then (if t119 = t124 then (if bt128.1 = t119 then (if bt131.1 = t119 then ((bound_Low.f (wrap64 (a0)) (wrap64 ((wrap64 ((wrap64 (t119 - 1)) * (shl .i64 1 (ji13)))) + 1))).bind fun t134 => ((bound_Low.f (wrap64 (a2)) t119).bind fun t135 => (if t134 = t135 then ((bound_Units.f (wrap64 (a0)) (wrap64 ((wrap64 ((wrap64 ((wrap64 ((wrap64 (t119 - 1)) * (shl .i64 1 (ji13)))) + 1)) + (shl .i64 1 (ji13)))) - 1))).bind fun t136 => ((bound_Units.f (wrap64 (a2)) t119).bind fun t137 => (some (t136 == t137)))) else (some false)))) else (some false)) else (some false)) else (some false)) else (some false))))))) else (none)) = some r := by first | (rw [hji13] at H; exact H) | (simp only [hji13] at H ⊢; exact H)
          (try rw [hji13] at A11)
          by_cases c14 : 0 ≤ (ji13)
          · rw [if_pos c14] at H
            have c14b0 := eq_true c14
            have c14b1 : decide (0 ≤ (ji13)) = true := decide_eq_true c14
            clear c14
            obtain ⟨ji15, hji15⟩ : ∃ j_ : Int, (shl .i64 1 (ji13)) = j_ := ⟨_, rfl⟩
            replace H : ((bound_Least.f (wrap64 (a0))).bind fun t127 => ((bound_To.f kj6 (wrap64 (a0)) (wrap64 (a2)) (mx (wrap64 ((wrap64 ((wrap64 (t119 - 1)) * (ji15))) + 1)) t127)).bind fun bt128 => ((bound_Most.f (wrap64 (a0))).bind fun t130 => ((bound_To.f kj6 (wrap64 (a0)) (wrap64 (a2)) (mn (wrap64 ((wrap64 ((wrap64 ((wrap64 ((wrap64 (t119 - 1)) * (ji15))) + 1)) + (ji15))) - 1)) t130)).bind fun bt131 => ((pluviallaw04_awake.f kj6).bind fun t133 => (if t133 = true then (if t119 = t124 then (if bt128.1 = t119 then (if bt131.1 = t119 then ((bound_Low.f (wrap64 (a0)) (wrap64 ((wrap64 ((wrap64 (t119 - 1)) * (ji15))) + 1))).bind fun t134 => ((bound_Low.f (wrap64 (a2)) t119).bind fun t135 => (if t134 = t135 then ((bound_Units.f (wrap64 (a0)) (wrap64 ((wrap64 ((wrap64 ((wrap64 ((wrap64 (t119 - 1)) * (ji15))) + 1)) + (ji15))) - 1))).bind fun t136 => ((bound_Units.f (wrap64 (a2)) t119).bind fun t137 => (some (t136 == t137)))) else (some false)))) else (some false)) else (some false)) else (some false)) else (some false))))))) = some r := by first | (rw [hji15] at H; exact H) | (simp only [hji15] at H ⊢; exact H)
            (try rw [hji15] at A11)
            have hji15_ : (IntKind.i64.wrap (1 * 2 ^ min (ji13).toNat 64)) = ji15 := hji15
            have hji15z : (ji13) ≤ 64 → (IntKind.i64.wrap (1 * 2 ^ (ji13).toNat)) = ji15 := shl_small hji15
            have hji15u : (IntKind.i64.wrap (2 ^ min (ji13).toNat 64)) = ji15 := by have h_ := hji15_; rw [Int.one_mul] at h_; exact h_
            have hji15v : (ji13) ≤ 64 → (IntKind.i64.wrap (2 ^ (ji13).toNat)) = ji15 := fun hle_ => by have h_ := hji15z hle_; rw [Int.one_mul] at h_; exact h_
            have hji15y : (wrap64 (1 * 2 ^ min (ji13).toNat 64)) = ji15 := (i64_w _).symm.trans hji15_
            have hji15x : (ji13) ≤ 64 → (wrap64 (1 * 2 ^ (ji13).toNat)) = ji15 := fun h_ => (i64_w _).symm.trans (hji15z h_)
            replace H := Option.bind_eq_some_iff.mp H
            obtain ⟨t127, A160, H⟩ := H
            replace H : ((bound_To.f kj6 (wrap64 (a0)) (wrap64 (a2)) (mx (wrap64 ((wrap64 ((wrap64 (t119 - 1)) * (ji15))) + 1)) t127)).bind fun bt128 => ((bound_Most.f (wrap64 (a0))).bind fun t130 => ((bound_To.f kj6 (wrap64 (a0)) (wrap64 (a2)) (mn (wrap64 ((wrap64 ((wrap64 ((wrap64 ((wrap64 (t119 - 1)) * (ji15))) + 1)) + (ji15))) - 1)) t130)).bind fun bt131 => ((pluviallaw04_awake.f kj6).bind fun t133 => (if t133 = true then (if t119 = t124 then (if bt128.1 = t119 then (if bt131.1 = t119 then ((bound_Low.f (wrap64 (a0)) (wrap64 ((wrap64 ((wrap64 (t119 - 1)) * (ji15))) + 1))).bind fun t134 => ((bound_Low.f (wrap64 (a2)) t119).bind fun t135 => (if t134 = t135 then ((bound_Units.f (wrap64 (a0)) (wrap64 ((wrap64 ((wrap64 ((wrap64 ((wrap64 (t119 - 1)) * (ji15))) + 1)) + (ji15))) - 1))).bind fun t136 => ((bound_Units.f (wrap64 (a2)) t119).bind fun t137 => (some (t136 == t137)))) else (some false)))) else (some false)) else (some false)) else (some false)) else (some false)))))) = some r := H
            have A16 := Aside0.mk A160
            clear A160
            obtain ⟨ji17, hji17⟩ : ∃ j_ : Int, (mx (wrap64 ((wrap64 ((wrap64 (t119 - 1)) * (ji15))) + 1)) t127) = j_ := ⟨_, rfl⟩
            replace H : ((bound_To.f kj6 (wrap64 (a0)) (wrap64 (a2)) (ji17)).bind fun bt128 => ((bound_Most.f (wrap64 (a0))).bind fun t130 => ((bound_To.f kj6 (wrap64 (a0)) (wrap64 (a2)) (mn (wrap64 ((wrap64 ((wrap64 ((wrap64 ((wrap64 (t119 - 1)) * (ji15))) + 1)) + (ji15))) - 1)) t130)).bind fun bt131 => ((pluviallaw04_awake.f kj6).bind fun t133 => (if t133 = true then (if t119 = t124 then (if bt128.1 = t119 then (if bt131.1 = t119 then ((bound_Low.f (wrap64 (a0)) (wrap64 ((wrap64 ((wrap64 (t119 - 1)) * (ji15))) + 1))).bind fun t134 => ((bound_Low.f (wrap64 (a2)) t119).bind fun t135 => (if t134 = t135 then ((bound_Units.f (wrap64 (a0)) (wrap64 ((wrap64 ((wrap64 ((wrap64 ((wrap64 (t119 - 1)) * (ji15))) + 1)) + (ji15))) - 1))).bind fun t136 => ((bound_Units.f (wrap64 (a2)) t119).bind fun t137 => (some (t136 == t137)))) else (some false)))) else (some false)) else (some false)) else (some false)) else (some false)))))) = some r := by first | (rw [hji17] at H; exact H) | (simp only [hji17] at H ⊢; exact H)
            (try rw [hji17] at A11)
            (try rw [hji17] at A16)
            have hji17_ : (if (wrap64 ((wrap64 ((wrap64 (t119 - 1)) * (ji15))) + 1)) < t127 then t127 else (wrap64 ((wrap64 ((wrap64 (t119 - 1)) * (ji15))) + 1))) = ji17 := hji17
            replace H := Option.bind_eq_some_iff.mp H
            obtain ⟨⟨t128, t129⟩, A180, H⟩ := H
            replace H : ((bound_Most.f (wrap64 (a0))).bind fun t130 => ((bound_To.f kj6 (wrap64 (a0)) (wrap64 (a2)) (mn (wrap64 ((wrap64 ((wrap64 ((wrap64 ((wrap64 (t119 - 1)) * (ji15))) + 1)) + (ji15))) - 1)) t130)).bind fun bt131 => ((pluviallaw04_awake.f kj6).bind fun t133 => (if t133 = true then (if t119 = t124 then (if t128 = t119 then (if bt131.1 = t119 then ((bound_Low.f (wrap64 (a0)) (wrap64 ((wrap64 ((wrap64 (t119 - 1)) * (ji15))) + 1))).bind fun t134 => ((bound_Low.f (wrap64 (a2)) t119).bind fun t135 => (if t134 = t135 then ((bound_Units.f (wrap64 (a0)) (wrap64 ((wrap64 ((wrap64 ((wrap64 ((wrap64 (t119 - 1)) * (ji15))) + 1)) + (ji15))) - 1))).bind fun t136 => ((bound_Units.f (wrap64 (a2)) t119).bind fun t137 => (some (t136 == t137)))) else (some false)))) else (some false)) else (some false)) else (some false)) else (some false))))) = some r := H
            have A18 := Aside0.mk A180
            clear A180
            replace H := Option.bind_eq_some_iff.mp H
            obtain ⟨t130, A190, H⟩ := H
            replace H : ((bound_To.f kj6 (wrap64 (a0)) (wrap64 (a2)) (mn (wrap64 ((wrap64 ((wrap64 ((wrap64 ((wrap64 (t119 - 1)) * (ji15))) + 1)) + (ji15))) - 1)) t130)).bind fun bt131 => ((pluviallaw04_awake.f kj6).bind fun t133 => (if t133 = true then (if t119 = t124 then (if t128 = t119 then (if bt131.1 = t119 then ((bound_Low.f (wrap64 (a0)) (wrap64 ((wrap64 ((wrap64 (t119 - 1)) * (ji15))) + 1))).bind fun t134 => ((bound_Low.f (wrap64 (a2)) t119).bind fun t135 => (if t134 = t135 then ((bound_Units.f (wrap64 (a0)) (wrap64 ((wrap64 ((wrap64 ((wrap64 ((wrap64 (t119 - 1)) * (ji15))) + 1)) + (ji15))) - 1))).bind fun t136 => ((bound_Units.f (wrap64 (a2)) t119).bind fun t137 => (some (t136 == t137)))) else (some false)))) else (some false)) else (some false)) else (some false)) else (some false)))) = some r := H
            have A19 := Aside0.mk A190
            clear A190
            obtain ⟨ji20, hji20⟩ : ∃ j_ : Int, (mn (wrap64 ((wrap64 ((wrap64 ((wrap64 ((wrap64 (t119 - 1)) * (ji15))) + 1)) + (ji15))) - 1)) t130) = j_ := ⟨_, rfl⟩
            replace H : ((bound_To.f kj6 (wrap64 (a0)) (wrap64 (a2)) (ji20)).bind fun bt131 => ((pluviallaw04_awake.f kj6).bind fun t133 => (if t133 = true then (if t119 = t124 then (if t128 = t119 then (if bt131.1 = t119 then ((bound_Low.f (wrap64 (a0)) (wrap64 ((wrap64 ((wrap64 (t119 - 1)) * (ji15))) + 1))).bind fun t134 => ((bound_Low.f (wrap64 (a2)) t119).bind fun t135 => (if t134 = t135 then ((bound_Units.f (wrap64 (a0)) (wrap64 ((wrap64 ((wrap64 ((wrap64 ((wrap64 (t119 - 1)) * (ji15))) + 1)) + (ji15))) - 1))).bind fun t136 => ((bound_Units.f (wrap64 (a2)) t119).bind fun t137 => (some (t136 == t137)))) else (some false)))) else (some false)) else (some false)) else (some false)) else (some false)))) = some r := by first | (rw [hji20] at H; exact H) | (simp only [hji20] at H ⊢; exact H)
            (try rw [hji20] at A11)
            (try rw [hji20] at A16)
            (try rw [hji20] at A18)
            (try rw [hji20] at A19)
            have hji20_ : (if t130 < (wrap64 ((wrap64 ((wrap64 ((wrap64 ((wrap64 (t119 - 1)) * (ji15))) + 1)) + (ji15))) - 1)) then t130 else (wrap64 ((wrap64 ((wrap64 ((wrap64 ((wrap64 (t119 - 1)) * (ji15))) + 1)) + (ji15))) - 1))) = ji20 := hji20
            replace H := Option.bind_eq_some_iff.mp H
            obtain ⟨⟨t131, t132⟩, A210, H⟩ := H
            replace H : ((pluviallaw04_awake.f kj6).bind fun t133 => (if t133 = true then (if t119 = t124 then (if t128 = t119 then (if t131 = t119 then ((bound_Low.f (wrap64 (a0)) (wrap64 ((wrap64 ((wrap64 (t119 - 1)) * (ji15))) + 1))).bind fun t134 => ((bound_Low.f (wrap64 (a2)) t119).bind fun t135 => (if t134 = t135 then ((bound_Units.f (wrap64 (a0)) (wrap64 ((wrap64 ((wrap64 ((wrap64 ((wrap64 (t119 - 1)) * (ji15))) + 1)) + (ji15))) - 1))).bind fun t136 => ((bound_Units.f (wrap64 (a2)) t119).bind fun t137 => (some (t136 == t137)))) else (some false)))) else (some false)) else (some false)) else (some false)) else (some false))) = some r := H
            have A21 := Aside0.mk A210
            clear A210
            replace H := Option.bind_eq_some_iff.mp H
            obtain ⟨t133, A220, H⟩ := H
            replace H : (if t133 = true then (if t119 = t124 then (if t128 = t119 then (if t131 = t119 then ((bound_Low.f (wrap64 (a0)) (wrap64 ((wrap64 ((wrap64 (t119 - 1)) * (ji15))) + 1))).bind fun t134 => ((bound_Low.f (wrap64 (a2)) t119).bind fun t135 => (if t134 = t135 then ((bound_Units.f (wrap64 (a0)) (wrap64 ((wrap64 ((wrap64 ((wrap64 ((wrap64 (t119 - 1)) * (ji15))) + 1)) + (ji15))) - 1))).bind fun t136 => ((bound_Units.f (wrap64 (a2)) t119).bind fun t137 => (some (t136 == t137)))) else (some false)))) else (some false)) else (some false)) else (some false)) else (some false)) = some r := H
            have A22 := Aside0.mk A220
            clear A220
            by_cases c23 : t133 = true
            · subst c23
              have H1 : (if t119 = t124 then (if t128 = t119 then (if t131 = t119 then ((bound_Low.f (wrap64 (a0)) (wrap64 ((wrap64 ((wrap64 (t119 - 1)) * (ji15))) + 1))).bind fun t134 => ((bound_Low.f (wrap64 (a2)) t119).bind fun t135 => (if t134 = t135 then ((bound_Units.f (wrap64 (a0)) (wrap64 ((wrap64 ((wrap64 ((wrap64 ((wrap64 (t119 - 1)) * (ji15))) + 1)) + (ji15))) - 1))).bind fun t136 => ((bound_Units.f (wrap64 (a2)) t119).bind fun t137 => (some (t136 == t137)))) else (some false)))) else (some false)) else (some false)) else (some false)) = some r := by rw [if_pos rfl] at H; exact H
              clear H
              have H := H1
              clear H1
              by_cases c24 : t119 = t124
              · rw [if_pos c24] at H
                have c24b0 : (t119 == t124) = true := beq_iff_eq.mpr c24
                have c24b1 : (t119 != t124) = false := bne_eq_false_iff_eq.mpr c24
                clear c24
                by_cases c25 : t128 = t119
                · rw [if_pos c25] at H
                  have c25b0 : (t128 == t119) = true := beq_iff_eq.mpr c25
                  have c25b1 : (t128 != t119) = false := bne_eq_false_iff_eq.mpr c25
                  clear c25
                  by_cases c26 : t131 = t119
                  · rw [if_pos c26] at H
                    have c26b0 : (t131 == t119) = true := beq_iff_eq.mpr c26
                    have c26b1 : (t131 != t119) = false := bne_eq_false_iff_eq.mpr c26
                    clear c26
                    replace H := Option.bind_eq_some_iff.mp H
                    obtain ⟨t134, A270, H⟩ := H
                    replace H : ((bound_Low.f (wrap64 (a2)) t119).bind fun t135 => (if t134 = t135 then ((bound_Units.f (wrap64 (a0)) (wrap64 ((wrap64 ((wrap64 ((wrap64 ((wrap64 (t119 - 1)) * (ji15))) + 1)) + (ji15))) - 1))).bind fun t136 => ((bound_Units.f (wrap64 (a2)) t119).bind fun t137 => (some (t136 == t137)))) else (some false))) = some r := H
                    have A27 := Aside0.mk A270
                    clear A270
                    replace H := Option.bind_eq_some_iff.mp H
                    obtain ⟨t135, A280, H⟩ := H
                    replace H : (if t134 = t135 then ((bound_Units.f (wrap64 (a0)) (wrap64 ((wrap64 ((wrap64 ((wrap64 ((wrap64 (t119 - 1)) * (ji15))) + 1)) + (ji15))) - 1))).bind fun t136 => ((bound_Units.f (wrap64 (a2)) t119).bind fun t137 => (some (t136 == t137)))) else (some false)) = some r := H
                    have A28 := Aside0.mk A280
                    clear A280
                    by_cases c29 : t134 = t135
                    · rw [if_pos c29] at H
                      have c29b0 : (t134 == t135) = true := beq_iff_eq.mpr c29
                      have c29b1 : (t134 != t135) = false := bne_eq_false_iff_eq.mpr c29
                      clear c29
                      replace H := Option.bind_eq_some_iff.mp H
                      obtain ⟨t136, A300, H⟩ := H
                      replace H : ((bound_Units.f (wrap64 (a2)) t119).bind fun t137 => (some (t136 == t137))) = some r := H
                      have A30 := Aside0.mk A300
                      clear A300
                      replace H := Option.bind_eq_some_iff.mp H
                      obtain ⟨t137, A310, H⟩ := H
                      replace H : (some (t136 == t137)) = some r := H
                      have A31 := Aside0.mk A310
                      clear A310
                      obtain rfl := Option.some.inj H
                      go_wp2_with (first | ((with_reducible refine gate_callee (f := 7) rfl ?_); refine goesL_ (some 58) rfl rfl Try.func7 (by kernel_rfl) rfl #[.int .i64 (wrap64 (a1)), .int .i64 (wrap64 (a2)), .int .i64 t121] rfl (by (try simp only [List.map_toArray, List.map_cons, List.map_nil]); first | done | rfl | (simp only [List.length_drop, List.length_take]; rfl)) ?_; (with_reducible refine (bound_To.calls kj6 (wrap64 (a1)) (wrap64 (a2)) t121 t124 t125 _ A11.out).mono ?_); rintro e w' ⟨rfl, ⟨nd, rfl⟩⟩; refine ⟨_, rfl, ?_⟩) | ((with_reducible refine gate_callee (f := 9) rfl ?_); refine goesL_ (some 84) rfl rfl Try.func9 (by kernel_rfl) rfl #[.int .i64 (wrap64 (a0))] rfl (by (try simp only [List.map_toArray, List.map_cons, List.map_nil]); first | done | rfl | (simp only [List.length_drop, List.length_take]; rfl)) ?_; (with_reducible refine (bound_Least.calls (wrap64 (a0)) t127 _ A16.out).mono ?_); rintro e w' ⟨rfl, ⟨nd, rfl⟩⟩; refine ⟨_, rfl, ?_⟩) | ((with_reducible refine gate_callee (f := 7) rfl ?_); refine goesL_ (some 86) rfl rfl Try.func7 (by kernel_rfl) rfl #[.int .i64 (wrap64 (a0)), .int .i64 (wrap64 (a2)), .int .i64 ji17] rfl (by (try simp only [List.map_toArray, List.map_cons, List.map_nil]); first | done | (simp only [hji17]; rfl) | rfl | (simp only [List.length_drop, List.length_take]; rfl)) ?_; (with_reducible refine (bound_To.calls kj6 (wrap64 (a0)) (wrap64 (a2)) ji17 t128 t129 _ A18.out).mono ?_); rintro e w' ⟨rfl, ⟨nd, rfl⟩⟩; refine ⟨_, rfl, ?_⟩) | ((with_reducible refine gate_callee (f := 10) rfl ?_); refine goesL_ (some 97) rfl rfl Try.func10 (by kernel_rfl) rfl #[.int .i64 (wrap64 (a0))] rfl (by (try simp only [List.map_toArray, List.map_cons, List.map_nil]); first | done | rfl | (simp only [List.length_drop, List.length_take]; rfl)) ?_; (with_reducible refine (bound_Most.calls (wrap64 (a0)) t130 _ A19.out).mono ?_); rintro e w' ⟨rfl, ⟨nd, rfl⟩⟩; refine ⟨_, rfl, ?_⟩) | ((with_reducible refine gate_callee (f := 7) rfl ?_); refine goesL_ (some 99) rfl rfl Try.func7 (by kernel_rfl) rfl #[.int .i64 (wrap64 (a0)), .int .i64 (wrap64 (a2)), .int .i64 ji20] rfl (by (try simp only [List.map_toArray, List.map_cons, List.map_nil]); first | done | (simp only [hji20]; rfl) | rfl | (simp only [List.length_drop, List.length_take]; rfl)) ?_; (with_reducible refine (bound_To.calls kj6 (wrap64 (a0)) (wrap64 (a2)) ji20 t131 t132 _ A21.out).mono ?_); rintro e w' ⟨rfl, ⟨nd, rfl⟩⟩; refine ⟨_, rfl, ?_⟩) | ((with_reducible refine gate_callee (f := 8) rfl ?_); refine goesL_ (some 102) rfl rfl Try.func8 (by kernel_rfl) rfl #[] rfl (by (try simp only [List.map_toArray, List.map_cons, List.map_nil]); first | done | rfl | (simp only [List.length_drop, List.length_take]; rfl)) ?_; (with_reducible refine (pluviallaw04_awake.calls kj6  true _ A22.out).mono ?_); rintro e w' ⟨rfl, ⟨nd, rfl⟩⟩; refine ⟨_, rfl, ?_⟩) | (go_at_call 11; (with_reducible refine (bound_Low.calls (wrap64 (a0)) (wrap64 ((wrap64 ((wrap64 (t119 - 1)) * (ji15))) + 1)) t134 _ A27.out).mono ?_); rintro e w' ⟨rfl, ⟨nd, rfl⟩⟩) | (go_at_call 11; (with_reducible refine (bound_Low.calls (wrap64 (a2)) t119 t135 _ A28.out).mono ?_); rintro e w' ⟨rfl, ⟨nd, rfl⟩⟩) | (go_at_call 12; (with_reducible refine (bound_Units.calls (wrap64 (a0)) (wrap64 ((wrap64 ((wrap64 ((wrap64 ((wrap64 (t119 - 1)) * (ji15))) + 1)) + (ji15))) - 1)) t136 _ A30.out).mono ?_); rintro e w' ⟨rfl, ⟨nd, rfl⟩⟩) | (go_at_call 12; (with_reducible refine (bound_Units.calls (wrap64 (a2)) t119 t137 _ A31.out).mono ?_); rintro e w' ⟨rfl, ⟨nd, rfl⟩⟩))
                      go_ret
                      exact ⟨by first | rfl | (simp [errW_none, errW_some] <;> rfl) | (simp only [← hji13, ← hji15, ← hji17, ← hji20]; first | rfl | (simp [errW_none, errW_some] <;> rfl)) | (simp [*, errW_none, errW_some] <;> rfl), by repeat (first | (with_reducible first | exact HB.out | apply below_alloc | apply pw_below_drewN | apply below_drew1) | exact HB.out)⟩
                    · rw [if_neg c29] at H
                      have c29b0 : (t134 == t135) = false := beq_eq_false_iff_ne.mpr c29
                      have c29b1 : (t134 != t135) = true := bne_iff_ne.mpr c29
                      obtain rfl := Option.some.inj H
                      go_wp2_with (first | ((with_reducible refine gate_callee (f := 7) rfl ?_); refine goesL_ (some 58) rfl rfl Try.func7 (by kernel_rfl) rfl #[.int .i64 (wrap64 (a1)), .int .i64 (wrap64 (a2)), .int .i64 t121] rfl (by (try simp only [List.map_toArray, List.map_cons, List.map_nil]); first | done | rfl | (simp only [List.length_drop, List.length_take]; rfl)) ?_; (with_reducible refine (bound_To.calls kj6 (wrap64 (a1)) (wrap64 (a2)) t121 t124 t125 _ A11.out).mono ?_); rintro e w' ⟨rfl, ⟨nd, rfl⟩⟩; refine ⟨_, rfl, ?_⟩) | ((with_reducible refine gate_callee (f := 9) rfl ?_); refine goesL_ (some 84) rfl rfl Try.func9 (by kernel_rfl) rfl #[.int .i64 (wrap64 (a0))] rfl (by (try simp only [List.map_toArray, List.map_cons, List.map_nil]); first | done | rfl | (simp only [List.length_drop, List.length_take]; rfl)) ?_; (with_reducible refine (bound_Least.calls (wrap64 (a0)) t127 _ A16.out).mono ?_); rintro e w' ⟨rfl, ⟨nd, rfl⟩⟩; refine ⟨_, rfl, ?_⟩) | ((with_reducible refine gate_callee (f := 7) rfl ?_); refine goesL_ (some 86) rfl rfl Try.func7 (by kernel_rfl) rfl #[.int .i64 (wrap64 (a0)), .int .i64 (wrap64 (a2)), .int .i64 ji17] rfl (by (try simp only [List.map_toArray, List.map_cons, List.map_nil]); first | done | (simp only [hji17]; rfl) | rfl | (simp only [List.length_drop, List.length_take]; rfl)) ?_; (with_reducible refine (bound_To.calls kj6 (wrap64 (a0)) (wrap64 (a2)) ji17 t128 t129 _ A18.out).mono ?_); rintro e w' ⟨rfl, ⟨nd, rfl⟩⟩; refine ⟨_, rfl, ?_⟩) | ((with_reducible refine gate_callee (f := 10) rfl ?_); refine goesL_ (some 97) rfl rfl Try.func10 (by kernel_rfl) rfl #[.int .i64 (wrap64 (a0))] rfl (by (try simp only [List.map_toArray, List.map_cons, List.map_nil]); first | done | rfl | (simp only [List.length_drop, List.length_take]; rfl)) ?_; (with_reducible refine (bound_Most.calls (wrap64 (a0)) t130 _ A19.out).mono ?_); rintro e w' ⟨rfl, ⟨nd, rfl⟩⟩; refine ⟨_, rfl, ?_⟩) | ((with_reducible refine gate_callee (f := 7) rfl ?_); refine goesL_ (some 99) rfl rfl Try.func7 (by kernel_rfl) rfl #[.int .i64 (wrap64 (a0)), .int .i64 (wrap64 (a2)), .int .i64 ji20] rfl (by (try simp only [List.map_toArray, List.map_cons, List.map_nil]); first | done | (simp only [hji20]; rfl) | rfl | (simp only [List.length_drop, List.length_take]; rfl)) ?_; (with_reducible refine (bound_To.calls kj6 (wrap64 (a0)) (wrap64 (a2)) ji20 t131 t132 _ A21.out).mono ?_); rintro e w' ⟨rfl, ⟨nd, rfl⟩⟩; refine ⟨_, rfl, ?_⟩) | ((with_reducible refine gate_callee (f := 8) rfl ?_); refine goesL_ (some 102) rfl rfl Try.func8 (by kernel_rfl) rfl #[] rfl (by (try simp only [List.map_toArray, List.map_cons, List.map_nil]); first | done | rfl | (simp only [List.length_drop, List.length_take]; rfl)) ?_; (with_reducible refine (pluviallaw04_awake.calls kj6  true _ A22.out).mono ?_); rintro e w' ⟨rfl, ⟨nd, rfl⟩⟩; refine ⟨_, rfl, ?_⟩) | (go_at_call 11; (with_reducible refine (bound_Low.calls (wrap64 (a0)) (wrap64 ((wrap64 ((wrap64 (t119 - 1)) * (ji15))) + 1)) t134 _ A27.out).mono ?_); rintro e w' ⟨rfl, ⟨nd, rfl⟩⟩) | (go_at_call 11; (with_reducible refine (bound_Low.calls (wrap64 (a2)) t119 t135 _ A28.out).mono ?_); rintro e w' ⟨rfl, ⟨nd, rfl⟩⟩))
                      go_ret
                      exact ⟨by first | rfl | (simp [errW_none, errW_some] <;> rfl) | (simp only [← hji13, ← hji15, ← hji17, ← hji20]; first | rfl | (simp [errW_none, errW_some] <;> rfl)) | (simp [*, errW_none, errW_some] <;> rfl), by repeat (first | (with_reducible first | exact HB.out | apply below_alloc | apply pw_below_drewN | apply below_drew1) | exact HB.out)⟩
                  · rw [if_neg c26] at H
                    have c26b0 : (t131 == t119) = false := beq_eq_false_iff_ne.mpr c26
                    have c26b1 : (t131 != t119) = true := bne_iff_ne.mpr c26
                    obtain rfl := Option.some.inj H
                    go_wp2_with (first | ((with_reducible refine gate_callee (f := 7) rfl ?_); refine goesL_ (some 58) rfl rfl Try.func7 (by kernel_rfl) rfl #[.int .i64 (wrap64 (a1)), .int .i64 (wrap64 (a2)), .int .i64 t121] rfl (by (try simp only [List.map_toArray, List.map_cons, List.map_nil]); first | done | rfl | (simp only [List.length_drop, List.length_take]; rfl)) ?_; (with_reducible refine (bound_To.calls kj6 (wrap64 (a1)) (wrap64 (a2)) t121 t124 t125 _ A11.out).mono ?_); rintro e w' ⟨rfl, ⟨nd, rfl⟩⟩; refine ⟨_, rfl, ?_⟩) | ((with_reducible refine gate_callee (f := 9) rfl ?_); refine goesL_ (some 84) rfl rfl Try.func9 (by kernel_rfl) rfl #[.int .i64 (wrap64 (a0))] rfl (by (try simp only [List.map_toArray, List.map_cons, List.map_nil]); first | done | rfl | (simp only [List.length_drop, List.length_take]; rfl)) ?_; (with_reducible refine (bound_Least.calls (wrap64 (a0)) t127 _ A16.out).mono ?_); rintro e w' ⟨rfl, ⟨nd, rfl⟩⟩; refine ⟨_, rfl, ?_⟩) | ((with_reducible refine gate_callee (f := 7) rfl ?_); refine goesL_ (some 86) rfl rfl Try.func7 (by kernel_rfl) rfl #[.int .i64 (wrap64 (a0)), .int .i64 (wrap64 (a2)), .int .i64 ji17] rfl (by (try simp only [List.map_toArray, List.map_cons, List.map_nil]); first | done | (simp only [hji17]; rfl) | rfl | (simp only [List.length_drop, List.length_take]; rfl)) ?_; (with_reducible refine (bound_To.calls kj6 (wrap64 (a0)) (wrap64 (a2)) ji17 t128 t129 _ A18.out).mono ?_); rintro e w' ⟨rfl, ⟨nd, rfl⟩⟩; refine ⟨_, rfl, ?_⟩) | ((with_reducible refine gate_callee (f := 10) rfl ?_); refine goesL_ (some 97) rfl rfl Try.func10 (by kernel_rfl) rfl #[.int .i64 (wrap64 (a0))] rfl (by (try simp only [List.map_toArray, List.map_cons, List.map_nil]); first | done | rfl | (simp only [List.length_drop, List.length_take]; rfl)) ?_; (with_reducible refine (bound_Most.calls (wrap64 (a0)) t130 _ A19.out).mono ?_); rintro e w' ⟨rfl, ⟨nd, rfl⟩⟩; refine ⟨_, rfl, ?_⟩) | ((with_reducible refine gate_callee (f := 7) rfl ?_); refine goesL_ (some 99) rfl rfl Try.func7 (by kernel_rfl) rfl #[.int .i64 (wrap64 (a0)), .int .i64 (wrap64 (a2)), .int .i64 ji20] rfl (by (try simp only [List.map_toArray, List.map_cons, List.map_nil]); first | done | (simp only [hji20]; rfl) | rfl | (simp only [List.length_drop, List.length_take]; rfl)) ?_; (with_reducible refine (bound_To.calls kj6 (wrap64 (a0)) (wrap64 (a2)) ji20 t131 t132 _ A21.out).mono ?_); rintro e w' ⟨rfl, ⟨nd, rfl⟩⟩; refine ⟨_, rfl, ?_⟩) | ((with_reducible refine gate_callee (f := 8) rfl ?_); refine goesL_ (some 102) rfl rfl Try.func8 (by kernel_rfl) rfl #[] rfl (by (try simp only [List.map_toArray, List.map_cons, List.map_nil]); first | done | rfl | (simp only [List.length_drop, List.length_take]; rfl)) ?_; (with_reducible refine (pluviallaw04_awake.calls kj6  true _ A22.out).mono ?_); rintro e w' ⟨rfl, ⟨nd, rfl⟩⟩; refine ⟨_, rfl, ?_⟩))
                    go_ret
                    exact ⟨by first | rfl | (simp [errW_none, errW_some] <;> rfl) | (simp only [← hji13, ← hji15, ← hji17, ← hji20]; first | rfl | (simp [errW_none, errW_some] <;> rfl)) | (simp [*, errW_none, errW_some] <;> rfl), by repeat (first | (with_reducible first | exact HB.out | apply below_alloc | apply pw_below_drewN | apply below_drew1) | exact HB.out)⟩
                · rw [if_neg c25] at H
                  have c25b0 : (t128 == t119) = false := beq_eq_false_iff_ne.mpr c25
                  have c25b1 : (t128 != t119) = true := bne_iff_ne.mpr c25
                  obtain rfl := Option.some.inj H
                  go_wp2_with (first | ((with_reducible refine gate_callee (f := 7) rfl ?_); refine goesL_ (some 58) rfl rfl Try.func7 (by kernel_rfl) rfl #[.int .i64 (wrap64 (a1)), .int .i64 (wrap64 (a2)), .int .i64 t121] rfl (by (try simp only [List.map_toArray, List.map_cons, List.map_nil]); first | done | rfl | (simp only [List.length_drop, List.length_take]; rfl)) ?_; (with_reducible refine (bound_To.calls kj6 (wrap64 (a1)) (wrap64 (a2)) t121 t124 t125 _ A11.out).mono ?_); rintro e w' ⟨rfl, ⟨nd, rfl⟩⟩; refine ⟨_, rfl, ?_⟩) | ((with_reducible refine gate_callee (f := 9) rfl ?_); refine goesL_ (some 84) rfl rfl Try.func9 (by kernel_rfl) rfl #[.int .i64 (wrap64 (a0))] rfl (by (try simp only [List.map_toArray, List.map_cons, List.map_nil]); first | done | rfl | (simp only [List.length_drop, List.length_take]; rfl)) ?_; (with_reducible refine (bound_Least.calls (wrap64 (a0)) t127 _ A16.out).mono ?_); rintro e w' ⟨rfl, ⟨nd, rfl⟩⟩; refine ⟨_, rfl, ?_⟩) | ((with_reducible refine gate_callee (f := 7) rfl ?_); refine goesL_ (some 86) rfl rfl Try.func7 (by kernel_rfl) rfl #[.int .i64 (wrap64 (a0)), .int .i64 (wrap64 (a2)), .int .i64 ji17] rfl (by (try simp only [List.map_toArray, List.map_cons, List.map_nil]); first | done | (simp only [hji17]; rfl) | rfl | (simp only [List.length_drop, List.length_take]; rfl)) ?_; (with_reducible refine (bound_To.calls kj6 (wrap64 (a0)) (wrap64 (a2)) ji17 t128 t129 _ A18.out).mono ?_); rintro e w' ⟨rfl, ⟨nd, rfl⟩⟩; refine ⟨_, rfl, ?_⟩) | ((with_reducible refine gate_callee (f := 10) rfl ?_); refine goesL_ (some 97) rfl rfl Try.func10 (by kernel_rfl) rfl #[.int .i64 (wrap64 (a0))] rfl (by (try simp only [List.map_toArray, List.map_cons, List.map_nil]); first | done | rfl | (simp only [List.length_drop, List.length_take]; rfl)) ?_; (with_reducible refine (bound_Most.calls (wrap64 (a0)) t130 _ A19.out).mono ?_); rintro e w' ⟨rfl, ⟨nd, rfl⟩⟩; refine ⟨_, rfl, ?_⟩) | ((with_reducible refine gate_callee (f := 7) rfl ?_); refine goesL_ (some 99) rfl rfl Try.func7 (by kernel_rfl) rfl #[.int .i64 (wrap64 (a0)), .int .i64 (wrap64 (a2)), .int .i64 ji20] rfl (by (try simp only [List.map_toArray, List.map_cons, List.map_nil]); first | done | (simp only [hji20]; rfl) | rfl | (simp only [List.length_drop, List.length_take]; rfl)) ?_; (with_reducible refine (bound_To.calls kj6 (wrap64 (a0)) (wrap64 (a2)) ji20 t131 t132 _ A21.out).mono ?_); rintro e w' ⟨rfl, ⟨nd, rfl⟩⟩; refine ⟨_, rfl, ?_⟩) | ((with_reducible refine gate_callee (f := 8) rfl ?_); refine goesL_ (some 102) rfl rfl Try.func8 (by kernel_rfl) rfl #[] rfl (by (try simp only [List.map_toArray, List.map_cons, List.map_nil]); first | done | rfl | (simp only [List.length_drop, List.length_take]; rfl)) ?_; (with_reducible refine (pluviallaw04_awake.calls kj6  true _ A22.out).mono ?_); rintro e w' ⟨rfl, ⟨nd, rfl⟩⟩; refine ⟨_, rfl, ?_⟩))
                  go_ret
                  exact ⟨by first | rfl | (simp [errW_none, errW_some] <;> rfl) | (simp only [← hji13, ← hji15, ← hji17, ← hji20]; first | rfl | (simp [errW_none, errW_some] <;> rfl)) | (simp [*, errW_none, errW_some] <;> rfl), by repeat (first | (with_reducible first | exact HB.out | apply below_alloc | apply pw_below_drewN | apply below_drew1) | exact HB.out)⟩
              · rw [if_neg c24] at H
                have c24b0 : (t119 == t124) = false := beq_eq_false_iff_ne.mpr c24
                have c24b1 : (t119 != t124) = true := bne_iff_ne.mpr c24
                obtain rfl := Option.some.inj H
                go_wp2_with (first | ((with_reducible refine gate_callee (f := 7) rfl ?_); refine goesL_ (some 58) rfl rfl Try.func7 (by kernel_rfl) rfl #[.int .i64 (wrap64 (a1)), .int .i64 (wrap64 (a2)), .int .i64 t121] rfl (by (try simp only [List.map_toArray, List.map_cons, List.map_nil]); first | done | rfl | (simp only [List.length_drop, List.length_take]; rfl)) ?_; (with_reducible refine (bound_To.calls kj6 (wrap64 (a1)) (wrap64 (a2)) t121 t124 t125 _ A11.out).mono ?_); rintro e w' ⟨rfl, ⟨nd, rfl⟩⟩; refine ⟨_, rfl, ?_⟩) | ((with_reducible refine gate_callee (f := 9) rfl ?_); refine goesL_ (some 84) rfl rfl Try.func9 (by kernel_rfl) rfl #[.int .i64 (wrap64 (a0))] rfl (by (try simp only [List.map_toArray, List.map_cons, List.map_nil]); first | done | rfl | (simp only [List.length_drop, List.length_take]; rfl)) ?_; (with_reducible refine (bound_Least.calls (wrap64 (a0)) t127 _ A16.out).mono ?_); rintro e w' ⟨rfl, ⟨nd, rfl⟩⟩; refine ⟨_, rfl, ?_⟩) | ((with_reducible refine gate_callee (f := 7) rfl ?_); refine goesL_ (some 86) rfl rfl Try.func7 (by kernel_rfl) rfl #[.int .i64 (wrap64 (a0)), .int .i64 (wrap64 (a2)), .int .i64 ji17] rfl (by (try simp only [List.map_toArray, List.map_cons, List.map_nil]); first | done | (simp only [hji17]; rfl) | rfl | (simp only [List.length_drop, List.length_take]; rfl)) ?_; (with_reducible refine (bound_To.calls kj6 (wrap64 (a0)) (wrap64 (a2)) ji17 t128 t129 _ A18.out).mono ?_); rintro e w' ⟨rfl, ⟨nd, rfl⟩⟩; refine ⟨_, rfl, ?_⟩) | ((with_reducible refine gate_callee (f := 10) rfl ?_); refine goesL_ (some 97) rfl rfl Try.func10 (by kernel_rfl) rfl #[.int .i64 (wrap64 (a0))] rfl (by (try simp only [List.map_toArray, List.map_cons, List.map_nil]); first | done | rfl | (simp only [List.length_drop, List.length_take]; rfl)) ?_; (with_reducible refine (bound_Most.calls (wrap64 (a0)) t130 _ A19.out).mono ?_); rintro e w' ⟨rfl, ⟨nd, rfl⟩⟩; refine ⟨_, rfl, ?_⟩) | ((with_reducible refine gate_callee (f := 7) rfl ?_); refine goesL_ (some 99) rfl rfl Try.func7 (by kernel_rfl) rfl #[.int .i64 (wrap64 (a0)), .int .i64 (wrap64 (a2)), .int .i64 ji20] rfl (by (try simp only [List.map_toArray, List.map_cons, List.map_nil]); first | done | (simp only [hji20]; rfl) | rfl | (simp only [List.length_drop, List.length_take]; rfl)) ?_; (with_reducible refine (bound_To.calls kj6 (wrap64 (a0)) (wrap64 (a2)) ji20 t131 t132 _ A21.out).mono ?_); rintro e w' ⟨rfl, ⟨nd, rfl⟩⟩; refine ⟨_, rfl, ?_⟩) | ((with_reducible refine gate_callee (f := 8) rfl ?_); refine goesL_ (some 102) rfl rfl Try.func8 (by kernel_rfl) rfl #[] rfl (by (try simp only [List.map_toArray, List.map_cons, List.map_nil]); first | done | rfl | (simp only [List.length_drop, List.length_take]; rfl)) ?_; (with_reducible refine (pluviallaw04_awake.calls kj6  true _ A22.out).mono ?_); rintro e w' ⟨rfl, ⟨nd, rfl⟩⟩; refine ⟨_, rfl, ?_⟩))
                go_ret
                exact ⟨by first | rfl | (simp [errW_none, errW_some] <;> rfl) | (simp only [← hji13, ← hji15, ← hji17, ← hji20]; first | rfl | (simp [errW_none, errW_some] <;> rfl)) | (simp [*, errW_none, errW_some] <;> rfl), by repeat (first | (with_reducible first | exact HB.out | apply below_alloc | apply pw_below_drewN | apply below_drew1) | exact HB.out)⟩
            · replace c23 := Bool.eq_false_iff.mpr c23
              subst c23
              have H1 : (some false) = some r := by rw [if_neg (show ¬ (false = true) by decide)] at H; exact H
              clear H
              have H := H1
              clear H1
              obtain rfl := Option.some.inj H
              go_wp2_with (first | ((with_reducible refine gate_callee (f := 7) rfl ?_); refine goesL_ (some 58) rfl rfl Try.func7 (by kernel_rfl) rfl #[.int .i64 (wrap64 (a1)), .int .i64 (wrap64 (a2)), .int .i64 t121] rfl (by (try simp only [List.map_toArray, List.map_cons, List.map_nil]); first | done | rfl | (simp only [List.length_drop, List.length_take]; rfl)) ?_; (with_reducible refine (bound_To.calls kj6 (wrap64 (a1)) (wrap64 (a2)) t121 t124 t125 _ A11.out).mono ?_); rintro e w' ⟨rfl, ⟨nd, rfl⟩⟩; refine ⟨_, rfl, ?_⟩) | ((with_reducible refine gate_callee (f := 9) rfl ?_); refine goesL_ (some 84) rfl rfl Try.func9 (by kernel_rfl) rfl #[.int .i64 (wrap64 (a0))] rfl (by (try simp only [List.map_toArray, List.map_cons, List.map_nil]); first | done | rfl | (simp only [List.length_drop, List.length_take]; rfl)) ?_; (with_reducible refine (bound_Least.calls (wrap64 (a0)) t127 _ A16.out).mono ?_); rintro e w' ⟨rfl, ⟨nd, rfl⟩⟩; refine ⟨_, rfl, ?_⟩) | ((with_reducible refine gate_callee (f := 7) rfl ?_); refine goesL_ (some 86) rfl rfl Try.func7 (by kernel_rfl) rfl #[.int .i64 (wrap64 (a0)), .int .i64 (wrap64 (a2)), .int .i64 ji17] rfl (by (try simp only [List.map_toArray, List.map_cons, List.map_nil]); first | done | (simp only [hji17]; rfl) | rfl | (simp only [List.length_drop, List.length_take]; rfl)) ?_; (with_reducible refine (bound_To.calls kj6 (wrap64 (a0)) (wrap64 (a2)) ji17 t128 t129 _ A18.out).mono ?_); rintro e w' ⟨rfl, ⟨nd, rfl⟩⟩; refine ⟨_, rfl, ?_⟩) | ((with_reducible refine gate_callee (f := 10) rfl ?_); refine goesL_ (some 97) rfl rfl Try.func10 (by kernel_rfl) rfl #[.int .i64 (wrap64 (a0))] rfl (by (try simp only [List.map_toArray, List.map_cons, List.map_nil]); first | done | rfl | (simp only [List.length_drop, List.length_take]; rfl)) ?_; (with_reducible refine (bound_Most.calls (wrap64 (a0)) t130 _ A19.out).mono ?_); rintro e w' ⟨rfl, ⟨nd, rfl⟩⟩; refine ⟨_, rfl, ?_⟩) | ((with_reducible refine gate_callee (f := 7) rfl ?_); refine goesL_ (some 99) rfl rfl Try.func7 (by kernel_rfl) rfl #[.int .i64 (wrap64 (a0)), .int .i64 (wrap64 (a2)), .int .i64 ji20] rfl (by (try simp only [List.map_toArray, List.map_cons, List.map_nil]); first | done | (simp only [hji20]; rfl) | rfl | (simp only [List.length_drop, List.length_take]; rfl)) ?_; (with_reducible refine (bound_To.calls kj6 (wrap64 (a0)) (wrap64 (a2)) ji20 t131 t132 _ A21.out).mono ?_); rintro e w' ⟨rfl, ⟨nd, rfl⟩⟩; refine ⟨_, rfl, ?_⟩) | ((with_reducible refine gate_callee (f := 8) rfl ?_); refine goesL_ (some 102) rfl rfl Try.func8 (by kernel_rfl) rfl #[] rfl (by (try simp only [List.map_toArray, List.map_cons, List.map_nil]); first | done | rfl | (simp only [List.length_drop, List.length_take]; rfl)) ?_; (with_reducible refine (pluviallaw04_awake.calls kj6  false _ A22.out).mono ?_); rintro e w' ⟨rfl, ⟨nd, rfl⟩⟩; refine ⟨_, rfl, ?_⟩))
              go_ret
              exact ⟨by first | rfl | (simp [errW_none, errW_some] <;> rfl) | (simp only [← hji13, ← hji15, ← hji17, ← hji20]; first | rfl | (simp [errW_none, errW_some] <;> rfl)) | (simp [*, errW_none, errW_some] <;> rfl), by repeat (first | (with_reducible first | exact HB.out | apply below_alloc | apply pw_below_drewN | apply below_drew1) | exact HB.out)⟩
          · rw [if_neg c14] at H
            exact absurd H (by simp)
        · rw [if_neg c12] at H
          have c12b0 : (t125 == 0) = false := beq_eq_false_iff_ne.mpr c12
          have c12b1 : (t125 != 0) = true := bne_iff_ne.mpr c12
          replace H := Option.bind_eq_some_iff.mp H
          obtain ⟨t126, A320, H⟩ := H
          replace H : (if t126 = true then (some (decide ((wrap64 (a1)) < (wrap64 (a2))))) else (some false)) = some r := H
          have A32 := Aside0.mk A320
          clear A320
          by_cases c33 : t126 = true
          · subst c33
            have H1 : (some (decide ((wrap64 (a1)) < (wrap64 (a2))))) = some r := by rw [if_pos rfl] at H; exact H
            clear H
            have H := H1
            clear H1
            obtain rfl := Option.some.inj H
            go_wp2_with (first | ((with_reducible refine gate_callee (f := 7) rfl ?_); refine goesL_ (some 58) rfl rfl Try.func7 (by kernel_rfl) rfl #[.int .i64 (wrap64 (a1)), .int .i64 (wrap64 (a2)), .int .i64 t121] rfl (by (try simp only [List.map_toArray, List.map_cons, List.map_nil]); first | done | rfl | (simp only [List.length_drop, List.length_take]; rfl)) ?_; (with_reducible refine (bound_To.calls kj6 (wrap64 (a1)) (wrap64 (a2)) t121 t124 t125 _ A11.out).mono ?_); rintro e w' ⟨rfl, ⟨nd, rfl⟩⟩; refine ⟨_, rfl, ?_⟩) | ((with_reducible refine gate_callee (f := 8) rfl ?_); refine goesL_ (some 63) rfl rfl Try.func8 (by kernel_rfl) rfl #[] rfl (by (try simp only [List.map_toArray, List.map_cons, List.map_nil]); first | done | rfl | (simp only [List.length_drop, List.length_take]; rfl)) ?_; (with_reducible refine (pluviallaw04_awake.calls kj6  true _ A32.out).mono ?_); rintro e w' ⟨rfl, ⟨nd, rfl⟩⟩; refine ⟨_, rfl, ?_⟩))
            go_ret
            exact ⟨by first | rfl | (simp [errW_none, errW_some] <;> rfl) | (simp [*, errW_none, errW_some] <;> rfl), by repeat (first | (with_reducible first | exact HB.out | apply below_alloc | apply pw_below_drewN | apply below_drew1) | exact HB.out)⟩
          · replace c33 := Bool.eq_false_iff.mpr c33
            subst c33
            have H1 : (some false) = some r := by rw [if_neg (show ¬ (false = true) by decide)] at H; exact H
            clear H
            have H := H1
            clear H1
            obtain rfl := Option.some.inj H
            go_wp2_with (first | ((with_reducible refine gate_callee (f := 7) rfl ?_); refine goesL_ (some 58) rfl rfl Try.func7 (by kernel_rfl) rfl #[.int .i64 (wrap64 (a1)), .int .i64 (wrap64 (a2)), .int .i64 t121] rfl (by (try simp only [List.map_toArray, List.map_cons, List.map_nil]); first | done | rfl | (simp only [List.length_drop, List.length_take]; rfl)) ?_; (with_reducible refine (bound_To.calls kj6 (wrap64 (a1)) (wrap64 (a2)) t121 t124 t125 _ A11.out).mono ?_); rintro e w' ⟨rfl, ⟨nd, rfl⟩⟩; refine ⟨_, rfl, ?_⟩) | ((with_reducible refine gate_callee (f := 8) rfl ?_); refine goesL_ (some 63) rfl rfl Try.func8 (by kernel_rfl) rfl #[] rfl (by (try simp only [List.map_toArray, List.map_cons, List.map_nil]); first | done | rfl | (simp only [List.length_drop, List.length_take]; rfl)) ?_; (with_reducible refine (pluviallaw04_awake.calls kj6  false _ A32.out).mono ?_); rintro e w' ⟨rfl, ⟨nd, rfl⟩⟩; refine ⟨_, rfl, ?_⟩))
            go_ret
            exact ⟨by first | rfl | (simp [errW_none, errW_some] <;> rfl) | (simp [*, errW_none, errW_some] <;> rfl), by repeat (first | (with_reducible first | exact HB.out | apply below_alloc | apply pw_below_drewN | apply below_drew1) | exact HB.out)⟩

/-- THE ONE PURE STATEMENT of pluviallaw04_BoundSteps: yours. -/
def pluviallaw04_BoundSteps.Pure : Prop := ∀ (a0 : Int) (a1 : Int) (a2 : Int) (a3 : Int), (Lit.int .i8 a0).wf = true → (Lit.int .i8 a1).wf = true → (Lit.int .i8 a2).wf = true → (Lit.int .i32 a3).wf = true → ∃ k, pluviallaw04_BoundSteps.f k a0 a1 a2 a3 = some true
theorem pluviallaw04_BoundSteps.walk (P : pluviallaw04_BoundSteps.Pure) (a0 : Int) (a1 : Int) (a2 : Int) (a3 : Int) (w : World) (w0 : (Lit.int .i8 a0).wf = true) (w1 : (Lit.int .i8 a1).wf = true) (w2 : (Lit.int .i8 a2).wf = true) (w3 : (Lit.int .i32 a3).wf = true) :
    Calls Try.prog 3 #[.int .i8 a0, .int .i8 a1, .int .i8 a2, .int .i32 a3] w fun e w' => e = .returned (.bool true) ∧ Below w.heap.size w w' := by
  obtain ⟨k, h⟩ := P a0 a1 a2 a3 w0 w1 w2 w3
  refine (pluviallaw04_BoundSteps.calls k a0 a1 a2 a3 true w h).mono ?_
  rintro e w' ⟨rfl, hd⟩
  exact ⟨rfl, hd⟩

end Go.Proofs.Ytcdjcbjincecpaa.PBoundSteps
