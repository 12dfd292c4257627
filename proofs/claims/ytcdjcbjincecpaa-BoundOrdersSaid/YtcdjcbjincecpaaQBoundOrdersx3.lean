-- Written by a program of the session (wip/xprint.sh, wip/xpatch.py; a variant of the print) out of the translation. Lean checks it.
import Derived.Test.YtcdjcbjincecpaaQBoundOrdersx0
import Derived.Test.YtcdjcbjincecpaaQBoundOrdersx1
import Derived.Test.YtcdjcbjincecpaaQBoundOrdersx2
namespace Go.Proofs.Ytcdjcbjincecpaa.QBoundOrders
open Go.RowKit Go.Proofs.YtcdjcbjincecpaaW.PrintWords Go.Proofs.YtcdjcbjincecpaaW.PrintLast Go.Proofs.YtcdjcbjincecpaaW.PrintMore
attribute [local go_sem] max2_int min2_int max_two min_two max_three min_three max_four min_four   -- for this text's walks alone
set_option linter.unusedVariables false
set_option linter.unusedSimpArgs false

/-! ### bound_Of: function 16 -/
def bound_Of.j0 : Nat → Int → Int → Bool → Option (Int × Bool)
  | 0, _, _, _ => none
  | k + 1, x0, x1, x16 => if x16 = true then (some (0, false)) else ((bound_shift.f x0).bind fun t128 => ((num_Up.f x1 t128).bind fun t129 => (some (t129, true))))
def bound_Of.f (k : Nat) (a0 : Int) (a1 : Int) : Option (Int × Bool) := (bound_Right.f a0).bind fun t127 => (if t127 = true then (if a1 ≤ (-262144) then (bound_Of.j0 k a0 a1 true) else (bound_Of.j0 k a0 a1 (decide (a1 > 262144)))) else (bound_Of.j0 k a0 a1 true))
theorem bound_Of.mono_l : ∀ k, (∀ y0 y1 y2, LeO (bound_Of.j0 k y0 y1 y2) (bound_Of.j0 (k + 1) y0 y1 y2))
  | 0 => fun _ _ _ r h => by simp [bound_Of.j0] at h
  | k + 1 => by
    have ih0 := bound_Of.mono_l k
    · intro y0 y1 y2
      unfold bound_Of.j0
      repeat' first
      | (with_reducible exact ih0 _ _ _)
      | (with_reducible exact LeO.refl _)
      | (with_reducible exact LeO.none _)
      | (with_reducible refine LeO.ite ?_ ?_)
      | (with_reducible refine LeO.bind ?_ (fun _ => ?_))
      | exact ih0 _ _ _
      | exact LeO.none _
      | refine LeO.ite ?_ ?_
      | refine LeO.bind ?_ (fun _ => ?_)
theorem bound_Of.mono : ∀ a0 a1 k, LeO (bound_Of.f k a0 a1) (bound_Of.f (k + 1) a0 a1) := by
  intro a0 a1 k
  have ih0 := bound_Of.mono_l k
  unfold bound_Of.f
  repeat' first
      | (with_reducible exact ih0 _ _ _)
      | (with_reducible exact LeO.refl _)
      | (with_reducible exact LeO.none _)
      | (with_reducible refine LeO.ite ?_ ?_)
      | (with_reducible refine LeO.bind ?_ (fun _ => ?_))
      | exact ih0 _ _ _
      | exact LeO.none _
      | refine LeO.ite ?_ ?_
      | refine LeO.bind ?_ (fun _ => ?_)
set_option maxHeartbeats 8000000 in
set_option maxRecDepth 100000 in
theorem bound_Of.calls (k : Nat) (a0 : Int) (a1 : Int) (r1 : Int) (r2 : Bool) (w : World) (h : bound_Of.f k a0 a1 = some (r1, r2)) :
    Calls Try.prog 16 #[.int .i64 a0, .int .i64 a1] w fun e w' => e = .returned (.tuple #[.int .i64 r1, .bool r2]) ∧ Drawn0 w w' := by
  have H : ((bound_Right.f a0).bind fun t127 => (if t127 = true then (if a1 ≤ (-262144) then (bound_Of.j0 k a0 a1 true) else (bound_Of.j0 k a0 a1 (decide (a1 > 262144)))) else (bound_Of.j0 k a0 a1 true))) = some (r1, r2) := h
  clear h
  have HC3 := Aside0.mk H
  clear H
  go_enter Try.func16, Try.ntmps16
  go_upto_region 1 with (fail)
  go_cut [16] (fun v16 wc => ∃ (kq : Nat) (x16_2 : Bool), v16 = .bool x16_2 ∧ Aside0 (bound_Of.j0 kq a0 a1 x16_2 = some (r1, r2)) ∧ Aside0 (kq ≤ k) ∧ Drawn0 w wc)
  case first =>
    have H := HC3.out
    clear HC3
    replace H := Option.bind_eq_some_iff.mp H
    obtain ⟨t127, A40, H⟩ := H
    replace H : (if t127 = true then (if a1 ≤ (-262144) then (bound_Of.j0 k a0 a1 true) else (bound_Of.j0 k a0 a1 (decide (a1 > 262144)))) else (bound_Of.j0 k a0 a1 true)) = some (r1, r2) := H
    have A4 := Aside0.mk A40
    clear A40
    by_cases c5 : t127 = true
    · subst c5
      have H1 : (if a1 ≤ (-262144) then (bound_Of.j0 k a0 a1 true) else (bound_Of.j0 k a0 a1 (decide (a1 > 262144)))) = some (r1, r2) := by rw [if_pos rfl] at H; exact H
      clear H
      have H := H1
      clear H1
      by_cases c6 : a1 ≤ (-262144)
      · rw [if_pos c6] at H
        have c6b0 : decide (a1 ≤ (-262144)) = true := decide_eq_true c6
        clear c6
        (first | rw [c6b0] | (simp only [i64_w, i32_w]; rw [c6b0]) | skip)
        have H' := Aside0.mk H
        clear H
        go_wp2_with (first | ((with_reducible refine gate_callee (f := 21) rfl ?_); refine goesL_ (some 7) rfl rfl Try.func21 (by kernel_rfl) rfl #[.int .i64 a0] rfl (by (try simp only [List.map_toArray, List.map_cons, List.map_nil]); first | done | rfl | (simp only [List.length_drop, List.length_take]; rfl)) ?_; (with_reducible refine (bound_Right.calls a0 true _ A4.out).mono ?_); rintro e w' ⟨rfl, ⟨nd, rfl⟩⟩; refine ⟨_, rfl, ?_⟩))
        go_meet
        case rel => exact ⟨_, (true), (by first | rfl | (simp; done) | (simp [*]; done)), H', ⟨by first | omega | exact Nat.le_refl _⟩, by repeat (first | exact Drawn0.refl _ | apply Drawn0.step)⟩
      · rw [if_neg c6] at H
        have c6b0 : decide (a1 ≤ (-262144)) = false := decide_eq_false c6
        clear c6
        (first | rw [c6b0] | (simp only [i64_w, i32_w]; rw [c6b0]) | skip)
        have H' := Aside0.mk H
        clear H
        go_wp2_with (first | ((with_reducible refine gate_callee (f := 21) rfl ?_); refine goesL_ (some 7) rfl rfl Try.func21 (by kernel_rfl) rfl #[.int .i64 a0] rfl (by (try simp only [List.map_toArray, List.map_cons, List.map_nil]); first | done | rfl | (simp only [List.length_drop, List.length_take]; rfl)) ?_; (with_reducible refine (bound_Right.calls a0 true _ A4.out).mono ?_); rintro e w' ⟨rfl, ⟨nd, rfl⟩⟩; refine ⟨_, rfl, ?_⟩))
        go_meet
        case rel => exact ⟨_, (decide (a1 > 262144)), (by first | rfl | (simp; done) | (simp [*]; done)), H', ⟨by first | omega | exact Nat.le_refl _⟩, by repeat (first | exact Drawn0.refl _ | apply Drawn0.step)⟩
    · replace c5 := Bool.eq_false_iff.mpr c5
      subst c5
      have H1 : (bound_Of.j0 k a0 a1 true) = some (r1, r2) := by rw [if_neg (show ¬ (false = true) by decide)] at H; exact H
      clear H
      have H := H1
      clear H1
      have H' := Aside0.mk H
      clear H
      go_wp2_with (first | ((with_reducible refine gate_callee (f := 21) rfl ?_); refine goesL_ (some 7) rfl rfl Try.func21 (by kernel_rfl) rfl #[.int .i64 a0] rfl (by (try simp only [List.map_toArray, List.map_cons, List.map_nil]); first | done | rfl | (simp only [List.length_drop, List.length_take]; rfl)) ?_; (with_reducible refine (bound_Right.calls a0 false _ A4.out).mono ?_); rintro e w' ⟨rfl, ⟨nd, rfl⟩⟩; refine ⟨_, rfl, ?_⟩))
      go_meet
      case rel => exact ⟨_, (true), (by first | rfl | (simp; done) | (simp [*]; done)), H', ⟨by first | omega | exact Nat.le_refl _⟩, by repeat (first | exact Drawn0.refl _ | apply Drawn0.step)⟩
  case rest =>
    clear HC3
    try clear c1
    try clear c2
    try clear p2
    try clear c5
    try clear c6
    try clear c6b0
    obtain ⟨kq, x16_2, rfl, HA, HJ2, ⟨mc2, rfl⟩⟩ := hcut
    cases kq with
    | zero => exact absurd HA.out (by simp [bound_Of.j0])
    | succ kj2 =>
      have H := HA.out
      clear HA
      simp only [bound_Of.j0] at H
      by_cases c7 : x16_2 = true
      · subst c7
        have H1 : (some (0, false)) = some (r1, r2) := by rw [if_pos rfl] at H; exact H
        clear H
        have H := H1
        clear H1
        simp only [Option.some.injEq, Prod.mk.injEq] at H
        obtain ⟨rfl, rfl⟩ := H
        go_wp2
        go_ret2
        exact ⟨by first | rfl | (simp; done) | (simp [*]; done), by repeat (first | exact Drawn0.refl _ | apply Drawn0.step)⟩
      · replace c7 := Bool.eq_false_iff.mpr c7
        subst c7
        have H1 : ((bound_shift.f a0).bind fun t128 => ((num_Up.f a1 t128).bind fun t129 => (some (t129, true)))) = some (r1, r2) := by rw [if_neg (show ¬ (false = true) by decide)] at H; exact H
        clear H
        have H := H1
        clear H1
        replace H := Option.bind_eq_some_iff.mp H
        obtain ⟨t128, A80, H⟩ := H
        replace H : ((num_Up.f a1 t128).bind fun t129 => (some (t129, true))) = some (r1, r2) := H
        have A8 := Aside0.mk A80
        clear A80
        replace H := Option.bind_eq_some_iff.mp H
        obtain ⟨t129, A90, H⟩ := H
        replace H : (some (t129, true)) = some (r1, r2) := H
        have A9 := Aside0.mk A90
        clear A90
        simp only [Option.some.injEq, Prod.mk.injEq] at H
        obtain ⟨rfl, rfl⟩ := H
        go_wp2_with (first | ((with_reducible refine gate_callee (f := 25) rfl ?_); refine goesL_ (some 19) rfl rfl Try.func25 (by kernel_rfl) rfl #[.int .i64 a0] rfl (by (try simp only [List.map_toArray, List.map_cons, List.map_nil]); first | done | rfl | (simp only [List.length_drop, List.length_take]; rfl)) ?_; (with_reducible refine (bound_shift.calls a0 t128 _ A8.out).mono ?_); rintro e w' ⟨rfl, ⟨nd, rfl⟩⟩; refine ⟨_, rfl, ?_⟩) | ((with_reducible refine gate_callee (f := 24) rfl ?_); refine goesL_ (some 20) rfl rfl Try.func24 (by kernel_rfl) rfl #[.int .i64 a1, .int .u64 t128] rfl (by (try simp only [List.map_toArray, List.map_cons, List.map_nil]); first | done | rfl | (simp only [List.length_drop, List.length_take]; rfl)) ?_; (with_reducible refine (num_Up.calls a1 t128 t129 _ A9.out).mono ?_); rintro e w' ⟨rfl, ⟨nd, rfl⟩⟩; refine ⟨_, rfl, ?_⟩))
        go_ret2
        exact ⟨by first | rfl | (simp; done) | (simp [*]; done), by repeat (first | exact Drawn0.refl _ | apply Drawn0.step)⟩

/-! ### bound_Whole: function 23 -/
def bound_Whole.f (a0 : Int) (a1 : Int) : Option (Bool) := (bound_Right.f a0).bind fun t130 => (if t130 = true then ((bound_shift.f a0).bind fun t131 => (if 0 ≤ t131 then (some ((Go.bits .and .i64 a1 (wrap64 ((shl .i64 1 t131) - 1))) == 0)) else (none))) else (some false))
set_option maxHeartbeats 8000000 in
set_option maxRecDepth 100000 in
theorem bound_Whole.calls (a0 : Int) (a1 : Int) (r : Bool) (w : World) (h : bound_Whole.f a0 a1 = some r) :
    Calls Try.prog 23 #[.int .i64 a0, .int .i64 a1] w fun e w' => e = .returned (.bool r) ∧ Drawn0 w w' := by
  have H : ((bound_Right.f a0).bind fun t130 => (if t130 = true then ((bound_shift.f a0).bind fun t131 => (if 0 ≤ t131 then (some ((Go.bits .and .i64 a1 (wrap64 ((shl .i64 1 t131) - 1))) == 0)) else (none))) else (some false))) = some r := h
  clear h
  replace H := Option.bind_eq_some_iff.mp H
  obtain ⟨t130, A30, H⟩ := H
  replace H : (if t130 = true then ((bound_shift.f a0).bind fun t131 => (if 0 ≤ t131 then (some ((Go.bits .and .i64 a1 (wrap64 ((shl .i64 1 t131) - 1))) == 0)) else (none))) else (some false)) = some r := H
  have A3 := Aside0.mk A30
  clear A30
  by_cases c4 : t130 = true
  · subst c4
    have H1 : ((bound_shift.f a0).bind fun t131 => (if 0 ≤ t131 then (some ((Go.bits .and .i64 a1 (wrap64 ((shl .i64 1 t131) - 1))) == 0)) else (none))) = some r := by rw [if_pos rfl] at H; exact H
    clear H
    have H := H1
    clear H1
    replace H := Option.bind_eq_some_iff.mp H
    obtain ⟨t131, A50, H⟩ := H
    replace H : (if 0 ≤ t131 then (some ((Go.bits .and .i64 a1 (wrap64 ((shl .i64 1 t131) - 1))) == 0)) else (none)) = some r := H
    have A5 := Aside0.mk A50
    clear A50
    by_cases c6 : 0 ≤ t131
    · rw [if_pos c6] at H
      have c6b0 := eq_true c6
      have c6b1 : decide (0 ≤ t131) = true := decide_eq_true c6
      clear c6
      obtain ⟨ji7, hji7⟩ : ∃ j_ : Int, (shl .i64 1 t131) = j_ := ⟨_, rfl⟩
      replace H : (some ((Go.bits .and .i64 a1 (wrap64 ((ji7) - 1))) == 0)) = some r := by first | (rw [hji7] at H; exact H) | (simp only [hji7] at H ⊢; exact H)
      (try rw [hji7] at A3)
      (try rw [hji7] at A5)
      have hji7_ : (IntKind.i64.wrap (1 * 2 ^ min t131.toNat 64)) = ji7 := hji7
      have hji7z : t131 ≤ 64 → (IntKind.i64.wrap (1 * 2 ^ t131.toNat)) = ji7 := shl_small hji7
      have hji7u : (IntKind.i64.wrap (2 ^ min t131.toNat 64)) = ji7 := by have h_ := hji7_; rw [Int.one_mul] at h_; exact h_
      have hji7v : t131 ≤ 64 → (IntKind.i64.wrap (2 ^ t131.toNat)) = ji7 := fun hle_ => by have h_ := hji7z hle_; rw [Int.one_mul] at h_; exact h_
      have hji7y : (wrap64 (1 * 2 ^ min t131.toNat 64)) = ji7 := (i64_w _).symm.trans hji7_
      have hji7x : t131 ≤ 64 → (wrap64 (1 * 2 ^ t131.toNat)) = ji7 := fun h_ => (i64_w _).symm.trans (hji7z h_)
      obtain rfl := Option.some.inj H
      go_enter Try.func23, Try.ntmps23
      go_wp2_with (first | ((with_reducible refine gate_callee (f := 21) rfl ?_); refine goesL_ (some 6) rfl rfl Try.func21 (by kernel_rfl) rfl #[.int .i64 a0] rfl (by (try simp only [List.map_toArray, List.map_cons, List.map_nil]); first | done | rfl | (simp only [List.length_drop, List.length_take]; rfl)) ?_; (with_reducible refine (bound_Right.calls a0 true _ A3.out).mono ?_); rintro e w' ⟨rfl, ⟨nd, rfl⟩⟩; refine ⟨_, rfl, ?_⟩) | (go_at_call 25; (with_reducible refine (bound_shift.calls a0 t131 _ A5.out).mono ?_); rintro e w' ⟨rfl, ⟨nd, rfl⟩⟩))
      go_ret
      exact ⟨by first | rfl | (simp; done) | (simp only [← hji7] <;> (first | rfl | simp)) | (simp [*]; done), by repeat (first | exact Drawn0.refl _ | apply Drawn0.step)⟩
    · rw [if_neg c6] at H
      exact absurd H (by simp)
  · replace c4 := Bool.eq_false_iff.mpr c4
    subst c4
    have H1 : (some false) = some r := by rw [if_neg (show ¬ (false = true) by decide)] at H; exact H
    clear H
    have H := H1
    clear H1
    obtain rfl := Option.some.inj H
    go_enter Try.func23, Try.ntmps23
    go_wp2_with (first | ((with_reducible refine gate_callee (f := 21) rfl ?_); refine goesL_ (some 6) rfl rfl Try.func21 (by kernel_rfl) rfl #[.int .i64 a0] rfl (by (try simp only [List.map_toArray, List.map_cons, List.map_nil]); first | done | rfl | (simp only [List.length_drop, List.length_take]; rfl)) ?_; (with_reducible refine (bound_Right.calls a0 false _ A3.out).mono ?_); rintro e w' ⟨rfl, ⟨nd, rfl⟩⟩; refine ⟨_, rfl, ?_⟩))
    go_ret
    exact ⟨by first | rfl | (simp; done) | (simp [*]; done), by repeat (first | exact Drawn0.refl _ | apply Drawn0.step)⟩

/-! ### pluviallaw04_BoundOrders: function 6 -/
mutual
def pluviallaw04_BoundOrders.j0 : Nat → Int → Int → Int → Int → Bool → Option (Bool)
  | 0, _, _, _, _, _ => none
  | k + 1, x7, x8, x9, x10, x71 => if x71 = true then (some false) else ((bound_Of.f k x8 x9).bind fun bt140 => (if bt140.2 = true then (pluviallaw04_BoundOrders.j1 k x7 x8 x9 x10 bt140.1 (decide (x8 > x7))) else (pluviallaw04_BoundOrders.j1 k x7 x8 x9 x10 bt140.1 true)))
def pluviallaw04_BoundOrders.j1 : Nat → Int → Int → Int → Int → Int → Bool → Option (Bool)
  | 0, _, _, _, _, _, _ => none
  | k + 1, x7, x8, x9, x10, x12, x84 => if x84 = true then ((pluviallaw04_awake.f k).bind fun t142 => (some t142)) else ((bound_To.f k x7 x8 x10).bind fun bt143 => ((pluviallaw04_awake.f k).bind fun t145 => (if t145 = true then (if bt143.2 = 0 then (if bt143.1 = x12 then ((bound_Has.f 0 x8 x12 0 x7 x10).bind fun t146 => (if t146 = true then ((bound_Whole.f x8 x9).bind fun t147 => (if t147 = true then ((bound_Whole.f x7 x9).bind fun t148 => (some t148)) else (some true))) else (some false))) else (some false)) else (some false)) else (some false))))
end
def pluviallaw04_BoundOrders.f (k : Nat) (a0 : Int) (a1 : Int) (a2 : Int) : Option (Bool) := (bound_Of.f k (wrap64 (a0)) (wrap64 (a2))).bind fun bt132 => (if bt132.2 = true then ((bound_Low.f (wrap64 (a0)) bt132.1).bind fun t136 => (if t136 ≥ (wrap64 (a2)) then (pluviallaw04_BoundOrders.j0 k (wrap64 (a0)) (wrap64 (a1)) (wrap64 (a2)) bt132.1 true) else ((bound_Units.f (wrap64 (a0)) bt132.1).bind fun t137 => (if t137 < (wrap64 (a2)) then (pluviallaw04_BoundOrders.j0 k (wrap64 (a0)) (wrap64 (a1)) (wrap64 (a2)) bt132.1 true) else ((bound_Low.f (wrap64 (a0)) (wrap64 (bt132.1 + 1))).bind fun t138 => (if t138 = t137 then ((bound_In.f (wrap64 (a0)) bt132.1).bind fun t139 => (pluviallaw04_BoundOrders.j0 k (wrap64 (a0)) (wrap64 (a1)) (wrap64 (a2)) bt132.1 (!t139))) else (pluviallaw04_BoundOrders.j0 k (wrap64 (a0)) (wrap64 (a1)) (wrap64 (a2)) bt132.1 true))))))) else ((pluviallaw04_awake.f k).bind fun t134 => (if t134 = true then ((bound_Right.f (wrap64 (a0))).bind fun t135 => (if t135 = true then (if (wrap64 (a2)) ≤ (-262144) then (some true) else (some (decide ((wrap64 (a2)) > 262144)))) else (some true))) else (some false))))
theorem pluviallaw04_BoundOrders.mono_l : ∀ k, (∀ y0 y1 y2 y3 y4, LeO (pluviallaw04_BoundOrders.j0 k y0 y1 y2 y3 y4) (pluviallaw04_BoundOrders.j0 (k + 1) y0 y1 y2 y3 y4)) ∧ (∀ y0 y1 y2 y3 y4 y5, LeO (pluviallaw04_BoundOrders.j1 k y0 y1 y2 y3 y4 y5) (pluviallaw04_BoundOrders.j1 (k + 1) y0 y1 y2 y3 y4 y5))
  | 0 => ⟨fun _ _ _ _ _ r h => by simp [pluviallaw04_BoundOrders.j0] at h, fun _ _ _ _ _ _ r h => by simp [pluviallaw04_BoundOrders.j1] at h⟩
  | k + 1 => by
    obtain ⟨ih0, ih1⟩ := pluviallaw04_BoundOrders.mono_l k
    refine ⟨?_, ?_⟩
    · intro y0 y1 y2 y3 y4
      unfold pluviallaw04_BoundOrders.j0
      repeat' first
      | (with_reducible exact ih0 _ _ _ _ _)
      | (with_reducible exact ih1 _ _ _ _ _ _)
      | (with_reducible exact bound_Of.mono _ _ _)
      | (with_reducible exact bound_To.mono _ _ _ _)
      | (with_reducible exact pluviallaw04_awake.mono _)
      | (with_reducible exact LeO.refl _)
      | (with_reducible exact LeO.none _)
      | (with_reducible refine LeO.ite ?_ ?_)
      | (with_reducible refine LeO.bind ?_ (fun _ => ?_))
      | exact ih0 _ _ _ _ _
      | exact ih1 _ _ _ _ _ _
      | exact bound_Of.mono _ _ _
      | exact bound_To.mono _ _ _ _
      | exact pluviallaw04_awake.mono _
      | exact LeO.none _
      | refine LeO.ite ?_ ?_
      | refine LeO.bind ?_ (fun _ => ?_)
    · intro y0 y1 y2 y3 y4 y5
      unfold pluviallaw04_BoundOrders.j1
      repeat' first
      | (with_reducible exact ih0 _ _ _ _ _)
      | (with_reducible exact ih1 _ _ _ _ _ _)
      | (with_reducible exact bound_Of.mono _ _ _)
      | (with_reducible exact bound_To.mono _ _ _ _)
      | (with_reducible exact pluviallaw04_awake.mono _)
      | (with_reducible exact LeO.refl _)
      | (with_reducible exact LeO.none _)
      | (with_reducible refine LeO.ite ?_ ?_)
      | (with_reducible refine LeO.bind ?_ (fun _ => ?_))
      | exact ih0 _ _ _ _ _
      | exact ih1 _ _ _ _ _ _
      | exact bound_Of.mono _ _ _
      | exact bound_To.mono _ _ _ _
      | exact pluviallaw04_awake.mono _
      | exact LeO.none _
      | refine LeO.ite ?_ ?_
      | refine LeO.bind ?_ (fun _ => ?_)
theorem pluviallaw04_BoundOrders.mono : ∀ a0 a1 a2 k, LeO (pluviallaw04_BoundOrders.f k a0 a1 a2) (pluviallaw04_BoundOrders.f (k + 1) a0 a1 a2) := by
  intro a0 a1 a2 k
  obtain ⟨ih0, ih1⟩ := pluviallaw04_BoundOrders.mono_l k
  unfold pluviallaw04_BoundOrders.f
  repeat' first
      | (with_reducible exact ih0 _ _ _ _ _)
      | (with_reducible exact ih1 _ _ _ _ _ _)
      | (with_reducible exact bound_Of.mono _ _ _)
      | (with_reducible exact bound_To.mono _ _ _ _)
      | (with_reducible exact pluviallaw04_awake.mono _)
      | (with_reducible exact LeO.refl _)
      | (with_reducible exact LeO.none _)
      | (with_reducible refine LeO.ite ?_ ?_)
      | (with_reducible refine LeO.bind ?_ (fun _ => ?_))
      | exact ih0 _ _ _ _ _
      | exact ih1 _ _ _ _ _ _
      | exact bound_Of.mono _ _ _
      | exact bound_To.mono _ _ _ _
      | exact pluviallaw04_awake.mono _
      | exact LeO.none _
      | refine LeO.ite ?_ ?_
      | refine LeO.bind ?_ (fun _ => ?_)
set_option maxHeartbeats 8000000 in
set_option maxRecDepth 100000 in
theorem pluviallaw04_BoundOrders.calls (k : Nat) (a0 : Int) (a1 : Int) (a2 : Int) (r : Bool) (w : World) (h : pluviallaw04_BoundOrders.f k a0 a1 a2 = some r) :
    Calls Try.prog 6 #[.int .i8 a0, .int .i8 a1, .int .i32 a2] w fun e w' => e = .returned (.bool r) ∧ Below w.heap.size w w' := by
  have hu32 := Try.underlying32
  have HB := Aside0.mk (Below.refl w.heap.size w)
  have H : ((bound_Of.f k (wrap64 (a0)) (wrap64 (a2))).bind fun bt132 => (if bt132.2 = true then ((bound_Low.f (wrap64 (a0)) bt132.1).bind fun t136 => (if t136 ≥ (wrap64 (a2)) then (pluviallaw04_BoundOrders.j0 k (wrap64 (a0)) (wrap64 (a1)) (wrap64 (a2)) bt132.1 true) else ((bound_Units.f (wrap64 (a0)) bt132.1).bind fun t137 => (if t137 < (wrap64 (a2)) then (pluviallaw04_BoundOrders.j0 k (wrap64 (a0)) (wrap64 (a1)) (wrap64 (a2)) bt132.1 true) else ((bound_Low.f (wrap64 (a0)) (wrap64 (bt132.1 + 1))).bind fun t138 => (if t138 = t137 then ((bound_In.f (wrap64 (a0)) bt132.1).bind fun t139 => (pluviallaw04_BoundOrders.j0 k (wrap64 (a0)) (wrap64 (a1)) (wrap64 (a2)) bt132.1 (!t139))) else (pluviallaw04_BoundOrders.j0 k (wrap64 (a0)) (wrap64 (a1)) (wrap64 (a2)) bt132.1 true))))))) else ((pluviallaw04_awake.f k).bind fun t134 => (if t134 = true then ((bound_Right.f (wrap64 (a0))).bind fun t135 => (if t135 = true then (if (wrap64 (a2)) ≤ (-262144) then (some true) else (some (decide ((wrap64 (a2)) > 262144)))) else (some true))) else (some false))))) = some r := h
  clear h
  replace H := Option.bind_eq_some_iff.mp H
  obtain ⟨⟨t132, t133⟩, A40, H⟩ := H
  replace H : (if t133 = true then ((bound_Low.f (wrap64 (a0)) t132).bind fun t136 => (if t136 ≥ (wrap64 (a2)) then (pluviallaw04_BoundOrders.j0 k (wrap64 (a0)) (wrap64 (a1)) (wrap64 (a2)) t132 true) else ((bound_Units.f (wrap64 (a0)) t132).bind fun t137 => (if t137 < (wrap64 (a2)) then (pluviallaw04_BoundOrders.j0 k (wrap64 (a0)) (wrap64 (a1)) (wrap64 (a2)) t132 true) else ((bound_Low.f (wrap64 (a0)) (wrap64 (t132 + 1))).bind fun t138 => (if t138 = t137 then ((bound_In.f (wrap64 (a0)) t132).bind fun t139 => (pluviallaw04_BoundOrders.j0 k (wrap64 (a0)) (wrap64 (a1)) (wrap64 (a2)) t132 (!t139))) else (pluviallaw04_BoundOrders.j0 k (wrap64 (a0)) (wrap64 (a1)) (wrap64 (a2)) t132 true))))))) else ((pluviallaw04_awake.f k).bind fun t134 => (if t134 = true then ((bound_Right.f (wrap64 (a0))).bind fun t135 => (if t135 = true then (if (wrap64 (a2)) ≤ (-262144) then (some true) else (some (decide ((wrap64 (a2)) > 262144)))) else (some true))) else (some false)))) = some r := H
  have A4 := Aside0.mk A40
  clear A40
  by_cases c5 : t133 = true
  · subst c5
    have H1 : ((bound_Low.f (wrap64 (a0)) t132).bind fun t136 => (if t136 ≥ (wrap64 (a2)) then (pluviallaw04_BoundOrders.j0 k (wrap64 (a0)) (wrap64 (a1)) (wrap64 (a2)) t132 true) else ((bound_Units.f (wrap64 (a0)) t132).bind fun t137 => (if t137 < (wrap64 (a2)) then (pluviallaw04_BoundOrders.j0 k (wrap64 (a0)) (wrap64 (a1)) (wrap64 (a2)) t132 true) else ((bound_Low.f (wrap64 (a0)) (wrap64 (t132 + 1))).bind fun t138 => (if t138 = t137 then ((bound_In.f (wrap64 (a0)) t132).bind fun t139 => (pluviallaw04_BoundOrders.j0 k (wrap64 (a0)) (wrap64 (a1)) (wrap64 (a2)) t132 (!t139))) else (pluviallaw04_BoundOrders.j0 k (wrap64 (a0)) (wrap64 (a1)) (wrap64 (a2)) t132 true))))))) = some r := by rw [if_pos rfl] at H; exact H
    clear H
    have H := H1
    clear H1
    have HC6 := Aside0.mk H
    clear H
    go_enter Try.func6, Try.ntmps6
    go_upto_region 5 with (first | ((with_reducible refine gate_callee (f := 16) rfl ?_); refine goesL_ (some 25) rfl rfl Try.func16 (by kernel_rfl) rfl #[.int .i64 (wrap64 (a0)), .int .i64 (wrap64 (a2))] rfl (by (try simp only [List.map_toArray, List.map_cons, List.map_nil]); first | done | rfl | (simp only [List.length_drop, List.length_take]; rfl)) ?_; (with_reducible refine (bound_Of.calls k (wrap64 (a0)) (wrap64 (a2)) t132 true _ A4.out).mono ?_); rintro e w' ⟨rfl, ⟨nd, rfl⟩⟩; refine ⟨_, rfl, ?_⟩))
    (try simp only [Act.put, List.setIfInBounds_toArray, List.set_cons_zero, List.set_cons_succ])
    go_cut [71] (fun v71 wc => ∃ (kq : Nat) (x71_5 : Bool), v71 = .bool x71_5 ∧ Aside0 (pluviallaw04_BoundOrders.j0 kq (wrap64 (a0)) (wrap64 (a1)) (wrap64 (a2)) t132 x71_5 = some r) ∧ Aside0 (kq ≤ k) ∧ Aside0 (Below w.heap.size w wc))
    case first =>
      have H := HC6.out
      clear HC6
      replace H := Option.bind_eq_some_iff.mp H
      obtain ⟨t136, A70, H⟩ := H
      replace H : (if t136 ≥ (wrap64 (a2)) then (pluviallaw04_BoundOrders.j0 k (wrap64 (a0)) (wrap64 (a1)) (wrap64 (a2)) t132 true) else ((bound_Units.f (wrap64 (a0)) t132).bind fun t137 => (if t137 < (wrap64 (a2)) then (pluviallaw04_BoundOrders.j0 k (wrap64 (a0)) (wrap64 (a1)) (wrap64 (a2)) t132 true) else ((bound_Low.f (wrap64 (a0)) (wrap64 (t132 + 1))).bind fun t138 => (if t138 = t137 then ((bound_In.f (wrap64 (a0)) t132).bind fun t139 => (pluviallaw04_BoundOrders.j0 k (wrap64 (a0)) (wrap64 (a1)) (wrap64 (a2)) t132 (!t139))) else (pluviallaw04_BoundOrders.j0 k (wrap64 (a0)) (wrap64 (a1)) (wrap64 (a2)) t132 true)))))) = some r := H
      have A7 := Aside0.mk A70
      clear A70
      by_cases c8 : t136 ≥ (wrap64 (a2))
      · rw [if_pos c8] at H
        have c8b0 : decide ((wrap64 (a2)) ≤ t136) = true := decide_eq_true c8
        clear c8
        (first | rw [c8b0] | (simp only [i64_w, i32_w]; rw [c8b0]) | skip)
        have H' := Aside0.mk H
        clear H
        go_wp2_with (first | ((with_reducible refine gate_callee (f := 11) rfl ?_); refine goesL_ (some 46) rfl rfl Try.func11 (by kernel_rfl) rfl #[.int .i64 (wrap64 (a0)), .int .i64 t132] rfl (by (try simp only [List.map_toArray, List.map_cons, List.map_nil]); first | done | rfl | (simp only [List.length_drop, List.length_take]; rfl)) ?_; (with_reducible refine (bound_Low.calls (wrap64 (a0)) t132 t136 _ A7.out).mono ?_); rintro e w' ⟨rfl, ⟨nd, rfl⟩⟩; refine ⟨_, rfl, ?_⟩))
        go_meet
        case rel => exact ⟨_, (true), (by first | rfl | (simp; done) | (simp [*]; done)), H', ⟨by first | omega | exact Nat.le_refl _⟩, ⟨by repeat (first | (with_reducible first | exact HB.out | apply below_alloc | apply pw_below_drewN | apply below_drew1) | exact HB.out)⟩⟩
      · rw [if_neg c8] at H
        have c8b0 : decide ((wrap64 (a2)) ≤ t136) = false := decide_eq_false c8
        clear c8
        (first | rw [c8b0] | (simp only [i64_w, i32_w]; rw [c8b0]) | skip)
        replace H := Option.bind_eq_some_iff.mp H
        obtain ⟨t137, A90, H⟩ := H
        replace H : (if t137 < (wrap64 (a2)) then (pluviallaw04_BoundOrders.j0 k (wrap64 (a0)) (wrap64 (a1)) (wrap64 (a2)) t132 true) else ((bound_Low.f (wrap64 (a0)) (wrap64 (t132 + 1))).bind fun t138 => (if t138 = t137 then ((bound_In.f (wrap64 (a0)) t132).bind fun t139 => (pluviallaw04_BoundOrders.j0 k (wrap64 (a0)) (wrap64 (a1)) (wrap64 (a2)) t132 (!t139))) else (pluviallaw04_BoundOrders.j0 k (wrap64 (a0)) (wrap64 (a1)) (wrap64 (a2)) t132 true)))) = some r := H
        have A9 := Aside0.mk A90
        clear A90
        by_cases c10 : t137 < (wrap64 (a2))
        · rw [if_pos c10] at H
          have c10b0 : decide (t137 < (wrap64 (a2))) = true := decide_eq_true c10
          clear c10
          have H' := Aside0.mk H
          clear H
          go_wp2_with (first | ((with_reducible refine gate_callee (f := 11) rfl ?_); refine goesL_ (some 46) rfl rfl Try.func11 (by kernel_rfl) rfl #[.int .i64 (wrap64 (a0)), .int .i64 t132] rfl (by (try simp only [List.map_toArray, List.map_cons, List.map_nil]); first | done | rfl | (simp only [List.length_drop, List.length_take]; rfl)) ?_; (with_reducible refine (bound_Low.calls (wrap64 (a0)) t132 t136 _ A7.out).mono ?_); rintro e w' ⟨rfl, ⟨nd, rfl⟩⟩; refine ⟨_, rfl, ?_⟩) | (go_at_call 12; (with_reducible refine (bound_Units.calls (wrap64 (a0)) t132 t137 _ A9.out).mono ?_); rintro e w' ⟨rfl, ⟨nd, rfl⟩⟩))
          go_meet
          case rel => exact ⟨_, (true), (by first | rfl | (simp; done) | (simp [*]; done)), H', ⟨by first | omega | exact Nat.le_refl _⟩, ⟨by repeat (first | (with_reducible first | exact HB.out | apply below_alloc | apply pw_below_drewN | apply below_drew1) | exact HB.out)⟩⟩
        · rw [if_neg c10] at H
          have c10b0 : decide (t137 < (wrap64 (a2))) = false := decide_eq_false c10
          clear c10
          replace H := Option.bind_eq_some_iff.mp H
          obtain ⟨t138, A110, H⟩ := H
          replace H : (if t138 = t137 then ((bound_In.f (wrap64 (a0)) t132).bind fun t139 => (pluviallaw04_BoundOrders.j0 k (wrap64 (a0)) (wrap64 (a1)) (wrap64 (a2)) t132 (!t139))) else (pluviallaw04_BoundOrders.j0 k (wrap64 (a0)) (wrap64 (a1)) (wrap64 (a2)) t132 true)) = some r := H
          have A11 := Aside0.mk A110
          clear A110
          by_cases c12 : t138 = t137
          · rw [if_pos c12] at H
            have c12b0 : (t138 == t137) = true := beq_iff_eq.mpr c12
            have c12b1 : (t138 != t137) = false := bne_eq_false_iff_eq.mpr c12
            clear c12
            replace H := Option.bind_eq_some_iff.mp H
            obtain ⟨t139, A130, H⟩ := H
            replace H : (pluviallaw04_BoundOrders.j0 k (wrap64 (a0)) (wrap64 (a1)) (wrap64 (a2)) t132 (!t139)) = some r := H
            have A13 := Aside0.mk A130
            clear A130
            have H' := Aside0.mk H
            clear H
            go_wp2_with (first | ((with_reducible refine gate_callee (f := 11) rfl ?_); refine goesL_ (some 46) rfl rfl Try.func11 (by kernel_rfl) rfl #[.int .i64 (wrap64 (a0)), .int .i64 t132] rfl (by (try simp only [List.map_toArray, List.map_cons, List.map_nil]); first | done | rfl | (simp only [List.length_drop, List.length_take]; rfl)) ?_; (with_reducible refine (bound_Low.calls (wrap64 (a0)) t132 t136 _ A7.out).mono ?_); rintro e w' ⟨rfl, ⟨nd, rfl⟩⟩; refine ⟨_, rfl, ?_⟩) | (go_at_call 12; (with_reducible refine (bound_Units.calls (wrap64 (a0)) t132 t137 _ A9.out).mono ?_); rintro e w' ⟨rfl, ⟨nd, rfl⟩⟩) | (go_at_call 11; (with_reducible refine (bound_Low.calls (wrap64 (a0)) (wrap64 (t132 + 1)) t138 _ A11.out).mono ?_); rintro e w' ⟨rfl, ⟨nd, rfl⟩⟩) | (go_at_call 22; (with_reducible refine (bound_In.calls (wrap64 (a0)) t132 t139 _ A13.out).mono ?_); rintro e w' ⟨rfl, ⟨nd, rfl⟩⟩))
            go_meet
            case rel => exact ⟨_, (!t139), (by first | rfl | (simp; done) | (simp [*]; done)), H', ⟨by first | omega | exact Nat.le_refl _⟩, ⟨by repeat (first | (with_reducible first | exact HB.out | apply below_alloc | apply pw_below_drewN | apply below_drew1) | exact HB.out)⟩⟩
          · rw [if_neg c12] at H
            have c12b0 : (t138 == t137) = false := beq_eq_false_iff_ne.mpr c12
            have c12b1 : (t138 != t137) = true := bne_iff_ne.mpr c12
            have H' := Aside0.mk H
            clear H
            go_wp2_with (first | ((with_reducible refine gate_callee (f := 11) rfl ?_); refine goesL_ (some 46) rfl rfl Try.func11 (by kernel_rfl) rfl #[.int .i64 (wrap64 (a0)), .int .i64 t132] rfl (by (try simp only [List.map_toArray, List.map_cons, List.map_nil]); first | done | rfl | (simp only [List.length_drop, List.length_take]; rfl)) ?_; (with_reducible refine (bound_Low.calls (wrap64 (a0)) t132 t136 _ A7.out).mono ?_); rintro e w' ⟨rfl, ⟨nd, rfl⟩⟩; refine ⟨_, rfl, ?_⟩) | (go_at_call 12; (with_reducible refine (bound_Units.calls (wrap64 (a0)) t132 t137 _ A9.out).mono ?_); rintro e w' ⟨rfl, ⟨nd, rfl⟩⟩) | (go_at_call 11; (with_reducible refine (bound_Low.calls (wrap64 (a0)) (wrap64 (t132 + 1)) t138 _ A11.out).mono ?_); rintro e w' ⟨rfl, ⟨nd, rfl⟩⟩))
            go_meet
            case rel => exact ⟨_, (true), (by first | rfl | (simp; done) | (simp [*]; done)), H', ⟨by first | omega | exact Nat.le_refl _⟩, ⟨by repeat (first | (with_reducible first | exact HB.out | apply below_alloc | apply pw_below_drewN | apply below_drew1) | exact HB.out)⟩⟩
    case rest =>
      clear HC6
      try clear c1
      try clear p2
      try clear c5
      try clear c6
      try clear p6
      try clear c8
      try clear c8b0
      try clear c10
      try clear c10b0
      try clear c11
      try clear c12
      try clear c12b0
      try clear c12b1
      obtain ⟨kq, x71_5, rfl, HA, HJ5, HB⟩ := hcut
      cases kq with
      | zero => exact absurd HA.out (by simp [pluviallaw04_BoundOrders.j0])
      | succ kj5 =>
        have H := HA.out
        clear HA
        simp only [pluviallaw04_BoundOrders.j0] at H
        by_cases c14 : x71_5 = true
        · subst c14
          have H1 : (some false) = some r := by rw [if_pos rfl] at H; exact H
          clear H
          have H := H1
          clear H1
          obtain rfl := Option.some.inj H
          go_wp2
          go_ret
          exact ⟨by first | rfl | (simp [errW_none, errW_some] <;> rfl) | (simp [*, errW_none, errW_some] <;> rfl), by repeat (first | (with_reducible first | exact HB.out | apply below_alloc | apply pw_below_drewN | apply below_drew1) | exact HB.out)⟩
        · replace c14 := Bool.eq_false_iff.mpr c14
          subst c14
          have H1 : ((bound_Of.f kj5 (wrap64 (a1)) (wrap64 (a2))).bind fun bt140 => (if bt140.2 = true then (pluviallaw04_BoundOrders.j1 kj5 (wrap64 (a0)) (wrap64 (a1)) (wrap64 (a2)) t132 bt140.1 (decide ((wrap64 (a1)) > (wrap64 (a0))))) else (pluviallaw04_BoundOrders.j1 kj5 (wrap64 (a0)) (wrap64 (a1)) (wrap64 (a2)) t132 bt140.1 true))) = some r := by rw [if_neg (show ¬ (false = true) by decide)] at H; exact H
          clear H
          have H := H1
          clear H1
          replace H := Option.bind_eq_some_iff.mp H
          obtain ⟨⟨t140, t141⟩, A150, H⟩ := H
          replace H : (if t141 = true then (pluviallaw04_BoundOrders.j1 kj5 (wrap64 (a0)) (wrap64 (a1)) (wrap64 (a2)) t132 t140 (decide ((wrap64 (a1)) > (wrap64 (a0))))) else (pluviallaw04_BoundOrders.j1 kj5 (wrap64 (a0)) (wrap64 (a1)) (wrap64 (a2)) t132 t140 true)) = some r := H
          have A15 := Aside0.mk A150
          clear A150
          have HC16 := Aside0.mk H
          clear H
          go_upto_region 8 with (first | ((with_reducible refine gate_callee (f := 16) rfl ?_); refine goesL_ (some 75) rfl rfl Try.func16 (by kernel_rfl) rfl #[.int .i64 (wrap64 (a1)), .int .i64 (wrap64 (a2))] rfl (by (try simp only [List.map_toArray, List.map_cons, List.map_nil]); first | done | rfl | (simp only [List.length_drop, List.length_take]; rfl)) ?_; (with_reducible refine (bound_Of.calls kj5 (wrap64 (a1)) (wrap64 (a2)) t140 t141 _ A15.out).mono ?_); rintro e w' ⟨rfl, ⟨nd, rfl⟩⟩; refine ⟨_, rfl, ?_⟩))
          (try simp only [Act.put, List.setIfInBounds_toArray, List.set_cons_zero, List.set_cons_succ])
          go_cut [84] (fun v84 wc => ∃ (kq : Nat) (x84_15 : Bool), v84 = .bool x84_15 ∧ Aside0 (pluviallaw04_BoundOrders.j1 kq (wrap64 (a0)) (wrap64 (a1)) (wrap64 (a2)) t132 t140 x84_15 = some r) ∧ Aside0 (kq ≤ kj5) ∧ Aside0 (Below w.heap.size w wc))
          case first =>
            have H := HC16.out
            clear HC16
            by_cases c17 : t141 = true
            · subst c17
              have H1 : (pluviallaw04_BoundOrders.j1 kj5 (wrap64 (a0)) (wrap64 (a1)) (wrap64 (a2)) t132 t140 (decide ((wrap64 (a1)) > (wrap64 (a0))))) = some r := by rw [if_pos rfl] at H; exact H
              clear H
              have H := H1
              clear H1
              have H' := Aside0.mk H
              clear H
              go_wp2
              go_meet
              case rel => exact ⟨_, (decide ((wrap64 (a1)) > (wrap64 (a0)))), (by first | rfl | (simp; done) | (simp [*]; done)), H', ⟨by have := HJ5.out; first | omega | exact Nat.le_refl _⟩, ⟨by repeat (first | (with_reducible first | exact HB.out | apply below_alloc | apply pw_below_drewN | apply below_drew1) | exact HB.out)⟩⟩
            · replace c17 := Bool.eq_false_iff.mpr c17
              subst c17
              have H1 : (pluviallaw04_BoundOrders.j1 kj5 (wrap64 (a0)) (wrap64 (a1)) (wrap64 (a2)) t132 t140 true) = some r := by rw [if_neg (show ¬ (false = true) by decide)] at H; exact H
              clear H
              have H := H1
              clear H1
              have H' := Aside0.mk H
              clear H
              go_wp2
              go_meet
              case rel => exact ⟨_, (true), (by first | rfl | (simp; done) | (simp [*]; done)), H', ⟨by have := HJ5.out; first | omega | exact Nat.le_refl _⟩, ⟨by repeat (first | (with_reducible first | exact HB.out | apply below_alloc | apply pw_below_drewN | apply below_drew1) | exact HB.out)⟩⟩
          case rest =>
            clear HC16
            try clear c1
            try clear p2
            try clear c5
            try clear c6
            try clear p6
            try clear c8
            try clear c8b0
            try clear c10
            try clear c10b0
            try clear c11
            try clear c12
            try clear c12b0
            try clear c12b1
            try clear c14
            try clear c16
            try clear c17
            try clear p2
            try clear p6
            obtain ⟨kq, x84_15, rfl, HA, HJ15, HB⟩ := hcut
            cases kq with
            | zero => exact absurd HA.out (by simp [pluviallaw04_BoundOrders.j1])
            | succ kj15 =>
              have H := HA.out
              clear HA
              simp only [pluviallaw04_BoundOrders.j1] at H
              by_cases c18 : x84_15 = true
              · subst c18
                have H1 : ((pluviallaw04_awake.f kj15).bind fun t142 => (some t142)) = some r := by rw [if_pos rfl] at H; exact H
                clear H
                have H := H1
                clear H1
                replace H := Option.bind_eq_some_iff.mp H
                obtain ⟨t142, A190, H⟩ := H
                replace H : (some t142) = some r := H
                have A19 := Aside0.mk A190
                clear A190
                obtain rfl := Option.some.inj H
                go_wp2_with (first | ((with_reducible refine gate_callee (f := 8) rfl ?_); refine goesL_ (some 85) rfl rfl Try.func8 (by kernel_rfl) rfl #[] rfl (by (try simp only [List.map_toArray, List.map_cons, List.map_nil]); first | done | rfl | (simp only [List.length_drop, List.length_take]; rfl)) ?_; (with_reducible refine (pluviallaw04_awake.calls kj15  t142 _ A19.out).mono ?_); rintro e w' ⟨rfl, ⟨nd, rfl⟩⟩; refine ⟨_, rfl, ?_⟩))
                go_ret
                exact ⟨by first | rfl | (simp [errW_none, errW_some] <;> rfl) | (simp [*, errW_none, errW_some] <;> rfl), by repeat (first | (with_reducible first | exact HB.out | apply below_alloc | apply pw_below_drewN | apply below_drew1) | exact HB.out)⟩
              · replace c18 := Bool.eq_false_iff.mpr c18
                subst c18
                have H1 : ((bound_To.f kj15 (wrap64 (a0)) (wrap64 (a1)) t132).bind fun bt143 => ((pluviallaw04_awake.f kj15).bind fun t145 => (if t145 = true then (if bt143.2 = 0 then (if bt143.1 = t140 then ((bound_Has.f 0 (wrap64 (a1)) t140 0 (wrap64 (a0)) t132).bind fun t146 => (if t146 = true then ((bound_Whole.f (wrap64 (a1)) (wrap64 (a2))).bind fun t147 => (if t147 = true then ((bound_Whole.f (wrap64 (a0)) (wrap64 (a2))).bind fun t148 => (some t148)) else (some true))) else (some false))) else (some false)) else (some false)) else (some false)))) = some r := by rw [if_neg (show ¬ (false = true) by decide)] at H; exact H
                clear H
                have H := H1
                clear H1
                replace H := Option.bind_eq_some_iff.mp H
                obtain ⟨⟨t143, t144⟩, A200, H⟩ := H
                replace H : ((pluviallaw04_awake.f kj15).bind fun t145 => (if t145 = true then (if t144 = 0 then (if t143 = t140 then ((bound_Has.f 0 (wrap64 (a1)) t140 0 (wrap64 (a0)) t132).bind fun t146 => (if t146 = true then ((bound_Whole.f (wrap64 (a1)) (wrap64 (a2))).bind fun t147 => (if t147 = true then ((bound_Whole.f (wrap64 (a0)) (wrap64 (a2))).bind fun t148 => (some t148)) else (some true))) else (some false))) else (some false)) else (some false)) else (some false))) = some r := H
                have A20 := Aside0.mk A200
                clear A200
                replace H := Option.bind_eq_some_iff.mp H
                obtain ⟨t145, A210, H⟩ := H
                replace H : (if t145 = true then (if t144 = 0 then (if t143 = t140 then ((bound_Has.f 0 (wrap64 (a1)) t140 0 (wrap64 (a0)) t132).bind fun t146 => (if t146 = true then ((bound_Whole.f (wrap64 (a1)) (wrap64 (a2))).bind fun t147 => (if t147 = true then ((bound_Whole.f (wrap64 (a0)) (wrap64 (a2))).bind fun t148 => (some t148)) else (some true))) else (some false))) else (some false)) else (some false)) else (some false)) = some r := H
                have A21 := Aside0.mk A210
                clear A210
                by_cases c22 : t145 = true
                · subst c22
                  have H1 : (if t144 = 0 then (if t143 = t140 then ((bound_Has.f 0 (wrap64 (a1)) t140 0 (wrap64 (a0)) t132).bind fun t146 => (if t146 = true then ((bound_Whole.f (wrap64 (a1)) (wrap64 (a2))).bind fun t147 => (if t147 = true then ((bound_Whole.f (wrap64 (a0)) (wrap64 (a2))).bind fun t148 => (some t148)) else (some true))) else (some false))) else (some false)) else (some false)) = some r := by rw [if_pos rfl] at H; exact H
                  clear H
                  have H := H1
                  clear H1
                  by_cases c23 : t144 = 0
                  · rw [if_pos c23] at H
                    have c23b0 : (t144 == 0) = true := beq_iff_eq.mpr c23
                    have c23b1 : (t144 != 0) = false := bne_eq_false_iff_eq.mpr c23
                    clear c23
                    by_cases c24 : t143 = t140
                    · rw [if_pos c24] at H
                      have c24b0 : (t143 == t140) = true := beq_iff_eq.mpr c24
                      have c24b1 : (t143 != t140) = false := bne_eq_false_iff_eq.mpr c24
                      clear c24
                      replace H := Option.bind_eq_some_iff.mp H
                      obtain ⟨t146, A250, H⟩ := H
                      replace H : (if t146 = true then ((bound_Whole.f (wrap64 (a1)) (wrap64 (a2))).bind fun t147 => (if t147 = true then ((bound_Whole.f (wrap64 (a0)) (wrap64 (a2))).bind fun t148 => (some t148)) else (some true))) else (some false)) = some r := H
                      have A25 := Aside0.mk A250
                      clear A250
                      by_cases c26 : t146 = true
                      · subst c26
                        have H1 : ((bound_Whole.f (wrap64 (a1)) (wrap64 (a2))).bind fun t147 => (if t147 = true then ((bound_Whole.f (wrap64 (a0)) (wrap64 (a2))).bind fun t148 => (some t148)) else (some true))) = some r := by rw [if_pos rfl] at H; exact H
                        clear H
                        have H := H1
                        clear H1
                        replace H := Option.bind_eq_some_iff.mp H
                        obtain ⟨t147, A270, H⟩ := H
                        replace H : (if t147 = true then ((bound_Whole.f (wrap64 (a0)) (wrap64 (a2))).bind fun t148 => (some t148)) else (some true)) = some r := H
                        have A27 := Aside0.mk A270
                        clear A270
                        by_cases c28 : t147 = true
                        · subst c28
                          have H1 : ((bound_Whole.f (wrap64 (a0)) (wrap64 (a2))).bind fun t148 => (some t148)) = some r := by rw [if_pos rfl] at H; exact H
                          clear H
                          have H := H1
                          clear H1
                          replace H := Option.bind_eq_some_iff.mp H
                          obtain ⟨t148, A290, H⟩ := H
                          replace H : (some t148) = some r := H
                          have A29 := Aside0.mk A290
                          clear A290
                          obtain rfl := Option.some.inj H
                          go_wp2_with (first | ((with_reducible refine gate_callee (f := 7) rfl ?_); refine goesL_ (some 90) rfl rfl Try.func7 (by kernel_rfl) rfl #[.int .i64 (wrap64 (a0)), .int .i64 (wrap64 (a1)), .int .i64 t132] rfl (by (try simp only [List.map_toArray, List.map_cons, List.map_nil]); first | done | rfl | (simp only [List.length_drop, List.length_take]; rfl)) ?_; (with_reducible refine (bound_To.calls kj15 (wrap64 (a0)) (wrap64 (a1)) t132 t143 t144 _ A20.out).mono ?_); rintro e w' ⟨rfl, ⟨nd, rfl⟩⟩; refine ⟨_, rfl, ?_⟩) | ((with_reducible refine gate_callee (f := 8) rfl ?_); refine goesL_ (some 93) rfl rfl Try.func8 (by kernel_rfl) rfl #[] rfl (by (try simp only [List.map_toArray, List.map_cons, List.map_nil]); first | done | rfl | (simp only [List.length_drop, List.length_take]; rfl)) ?_; (with_reducible refine (pluviallaw04_awake.calls kj15  true _ A21.out).mono ?_); rintro e w' ⟨rfl, ⟨nd, rfl⟩⟩; refine ⟨_, rfl, ?_⟩) | (go_at_call 14; (with_reducible refine (bound_Has.calls 0 (wrap64 (a1)) t140 0 (wrap64 (a0)) t132 true _ A25.out).mono ?_); rintro e w30 ⟨rfl, hb⟩; have n0_ := Aside0.mk (below_step (by repeat (first | (with_reducible first | exact HB.out | apply below_alloc | apply pw_below_drewN | apply below_drew1) | exact HB.out)) hb); clear HB; have HB := n0_; clear n0_; (try clear hb); (try clear hb2); (try clear hk); (try clear hi)) | (go_at_call 23; (with_reducible refine (bound_Whole.calls (wrap64 (a1)) (wrap64 (a2)) true _ A27.out).mono ?_); rintro e w' ⟨rfl, ⟨nd, rfl⟩⟩) | (go_at_call 23; (with_reducible refine (bound_Whole.calls (wrap64 (a0)) (wrap64 (a2)) t148 _ A29.out).mono ?_); rintro e w' ⟨rfl, ⟨nd, rfl⟩⟩))
                          go_ret
                          exact ⟨by first | rfl | (simp [errW_none, errW_some] <;> rfl) | (simp [*, errW_none, errW_some] <;> rfl), by repeat (first | (with_reducible first | exact HB.out | apply below_alloc | apply pw_below_drewN | apply below_drew1) | exact HB.out)⟩
                        · replace c28 := Bool.eq_false_iff.mpr c28
                          subst c28
                          have H1 : (some true) = some r := by rw [if_neg (show ¬ (false = true) by decide)] at H; exact H
                          clear H
                          have H := H1
                          clear H1
                          obtain rfl := Option.some.inj H
                          go_wp2_with (first | ((with_reducible refine gate_callee (f := 7) rfl ?_); refine goesL_ (some 90) rfl rfl Try.func7 (by kernel_rfl) rfl #[.int .i64 (wrap64 (a0)), .int .i64 (wrap64 (a1)), .int .i64 t132] rfl (by (try simp only [List.map_toArray, List.map_cons, List.map_nil]); first | done | rfl | (simp only [List.length_drop, List.length_take]; rfl)) ?_; (with_reducible refine (bound_To.calls kj15 (wrap64 (a0)) (wrap64 (a1)) t132 t143 t144 _ A20.out).mono ?_); rintro e w' ⟨rfl, ⟨nd, rfl⟩⟩; refine ⟨_, rfl, ?_⟩) | ((with_reducible refine gate_callee (f := 8) rfl ?_); refine goesL_ (some 93) rfl rfl Try.func8 (by kernel_rfl) rfl #[] rfl (by (try simp only [List.map_toArray, List.map_cons, List.map_nil]); first | done | rfl | (simp only [List.length_drop, List.length_take]; rfl)) ?_; (with_reducible refine (pluviallaw04_awake.calls kj15  true _ A21.out).mono ?_); rintro e w' ⟨rfl, ⟨nd, rfl⟩⟩; refine ⟨_, rfl, ?_⟩) | (go_at_call 14; (with_reducible refine (bound_Has.calls 0 (wrap64 (a1)) t140 0 (wrap64 (a0)) t132 true _ A25.out).mono ?_); rintro e w31 ⟨rfl, hb⟩; have n0_ := Aside0.mk (below_step (by repeat (first | (with_reducible first | exact HB.out | apply below_alloc | apply pw_below_drewN | apply below_drew1) | exact HB.out)) hb); clear HB; have HB := n0_; clear n0_; (try clear hb); (try clear hb2); (try clear hk); (try clear hi)) | (go_at_call 23; (with_reducible refine (bound_Whole.calls (wrap64 (a1)) (wrap64 (a2)) false _ A27.out).mono ?_); rintro e w' ⟨rfl, ⟨nd, rfl⟩⟩))
                          go_ret
                          exact ⟨by first | rfl | (simp [errW_none, errW_some] <;> rfl) | (simp [*, errW_none, errW_some] <;> rfl), by repeat (first | (with_reducible first | exact HB.out | apply below_alloc | apply pw_below_drewN | apply below_drew1) | exact HB.out)⟩
                      · replace c26 := Bool.eq_false_iff.mpr c26
                        subst c26
                        have H1 : (some false) = some r := by rw [if_neg (show ¬ (false = true) by decide)] at H; exact H
                        clear H
                        have H := H1
                        clear H1
                        obtain rfl := Option.some.inj H
                        go_wp2_with (first | ((with_reducible refine gate_callee (f := 7) rfl ?_); refine goesL_ (some 90) rfl rfl Try.func7 (by kernel_rfl) rfl #[.int .i64 (wrap64 (a0)), .int .i64 (wrap64 (a1)), .int .i64 t132] rfl (by (try simp only [List.map_toArray, List.map_cons, List.map_nil]); first | done | rfl | (simp only [List.length_drop, List.length_take]; rfl)) ?_; (with_reducible refine (bound_To.calls kj15 (wrap64 (a0)) (wrap64 (a1)) t132 t143 t144 _ A20.out).mono ?_); rintro e w' ⟨rfl, ⟨nd, rfl⟩⟩; refine ⟨_, rfl, ?_⟩) | ((with_reducible refine gate_callee (f := 8) rfl ?_); refine goesL_ (some 93) rfl rfl Try.func8 (by kernel_rfl) rfl #[] rfl (by (try simp only [List.map_toArray, List.map_cons, List.map_nil]); first | done | rfl | (simp only [List.length_drop, List.length_take]; rfl)) ?_; (with_reducible refine (pluviallaw04_awake.calls kj15  true _ A21.out).mono ?_); rintro e w' ⟨rfl, ⟨nd, rfl⟩⟩; refine ⟨_, rfl, ?_⟩) | (go_at_call 14; (with_reducible refine (bound_Has.calls 0 (wrap64 (a1)) t140 0 (wrap64 (a0)) t132 false _ A25.out).mono ?_); rintro e w32 ⟨rfl, hb⟩; have n0_ := Aside0.mk (below_step (by repeat (first | (with_reducible first | exact HB.out | apply below_alloc | apply pw_below_drewN | apply below_drew1) | exact HB.out)) hb); clear HB; have HB := n0_; clear n0_; (try clear hb); (try clear hb2); (try clear hk); (try clear hi)))
                        go_ret
                        exact ⟨by first | rfl | (simp [errW_none, errW_some] <;> rfl) | (simp [*, errW_none, errW_some] <;> rfl), by repeat (first | (with_reducible first | exact HB.out | apply below_alloc | apply pw_below_drewN | apply below_drew1) | exact HB.out)⟩
                    · rw [if_neg c24] at H
                      have c24b0 : (t143 == t140) = false := beq_eq_false_iff_ne.mpr c24
                      have c24b1 : (t143 != t140) = true := bne_iff_ne.mpr c24
                      obtain rfl := Option.some.inj H
                      go_wp2_with (first | ((with_reducible refine gate_callee (f := 7) rfl ?_); refine goesL_ (some 90) rfl rfl Try.func7 (by kernel_rfl) rfl #[.int .i64 (wrap64 (a0)), .int .i64 (wrap64 (a1)), .int .i64 t132] rfl (by (try simp only [List.map_toArray, List.map_cons, List.map_nil]); first | done | rfl | (simp only [List.length_drop, List.length_take]; rfl)) ?_; (with_reducible refine (bound_To.calls kj15 (wrap64 (a0)) (wrap64 (a1)) t132 t143 t144 _ A20.out).mono ?_); rintro e w' ⟨rfl, ⟨nd, rfl⟩⟩; refine ⟨_, rfl, ?_⟩) | ((with_reducible refine gate_callee (f := 8) rfl ?_); refine goesL_ (some 93) rfl rfl Try.func8 (by kernel_rfl) rfl #[] rfl (by (try simp only [List.map_toArray, List.map_cons, List.map_nil]); first | done | rfl | (simp only [List.length_drop, List.length_take]; rfl)) ?_; (with_reducible refine (pluviallaw04_awake.calls kj15  true _ A21.out).mono ?_); rintro e w' ⟨rfl, ⟨nd, rfl⟩⟩; refine ⟨_, rfl, ?_⟩))
                      go_ret
                      exact ⟨by first | rfl | (simp [errW_none, errW_some] <;> rfl) | (simp [*, errW_none, errW_some] <;> rfl), by repeat (first | (with_reducible first | exact HB.out | apply below_alloc | apply pw_below_drewN | apply below_drew1) | exact HB.out)⟩
                  · rw [if_neg c23] at H
                    have c23b0 : (t144 == 0) = false := beq_eq_false_iff_ne.mpr c23
                    have c23b1 : (t144 != 0) = true := bne_iff_ne.mpr c23
                    obtain rfl := Option.some.inj H
                    go_wp2_with (first | ((with_reducible refine gate_callee (f := 7) rfl ?_); refine goesL_ (some 90) rfl rfl Try.func7 (by kernel_rfl) rfl #[.int .i64 (wrap64 (a0)), .int .i64 (wrap64 (a1)), .int .i64 t132] rfl (by (try simp only [List.map_toArray, List.map_cons, List.map_nil]); first | done | rfl | (simp only [List.length_drop, List.length_take]; rfl)) ?_; (with_reducible refine (bound_To.calls kj15 (wrap64 (a0)) (wrap64 (a1)) t132 t143 t144 _ A20.out).mono ?_); rintro e w' ⟨rfl, ⟨nd, rfl⟩⟩; refine ⟨_, rfl, ?_⟩) | ((with_reducible refine gate_callee (f := 8) rfl ?_); refine goesL_ (some 93) rfl rfl Try.func8 (by kernel_rfl) rfl #[] rfl (by (try simp only [List.map_toArray, List.map_cons, List.map_nil]); first | done | rfl | (simp only [List.length_drop, List.length_take]; rfl)) ?_; (with_reducible refine (pluviallaw04_awake.calls kj15  true _ A21.out).mono ?_); rintro e w' ⟨rfl, ⟨nd, rfl⟩⟩; refine ⟨_, rfl, ?_⟩))
                    go_ret
                    exact ⟨by first | rfl | (simp [errW_none, errW_some] <;> rfl) | (simp [*, errW_none, errW_some] <;> rfl), by repeat (first | (with_reducible first | exact HB.out | apply below_alloc | apply pw_below_drewN | apply below_drew1) | exact HB.out)⟩
                · replace c22 := Bool.eq_false_iff.mpr c22
                  subst c22
                  have H1 : (some false) = some r := by rw [if_neg (show ¬ (false = true) by decide)] at H; exact H
                  clear H
                  have H := H1
                  clear H1
                  obtain rfl := Option.some.inj H
                  go_wp2_with (first | ((with_reducible refine gate_callee (f := 7) rfl ?_); refine goesL_ (some 90) rfl rfl Try.func7 (by kernel_rfl) rfl #[.int .i64 (wrap64 (a0)), .int .i64 (wrap64 (a1)), .int .i64 t132] rfl (by (try simp only [List.map_toArray, List.map_cons, List.map_nil]); first | done | rfl | (simp only [List.length_drop, List.length_take]; rfl)) ?_; (with_reducible refine (bound_To.calls kj15 (wrap64 (a0)) (wrap64 (a1)) t132 t143 t144 _ A20.out).mono ?_); rintro e w' ⟨rfl, ⟨nd, rfl⟩⟩; refine ⟨_, rfl, ?_⟩) | ((with_reducible refine gate_callee (f := 8) rfl ?_); refine goesL_ (some 93) rfl rfl Try.func8 (by kernel_rfl) rfl #[] rfl (by (try simp only [List.map_toArray, List.map_cons, List.map_nil]); first | done | rfl | (simp only [List.length_drop, List.length_take]; rfl)) ?_; (with_reducible refine (pluviallaw04_awake.calls kj15  false _ A21.out).mono ?_); rintro e w' ⟨rfl, ⟨nd, rfl⟩⟩; refine ⟨_, rfl, ?_⟩))
                  go_ret
                  exact ⟨by first | rfl | (simp [errW_none, errW_some] <;> rfl) | (simp [*, errW_none, errW_some] <;> rfl), by repeat (first | (with_reducible first | exact HB.out | apply below_alloc | apply pw_below_drewN | apply below_drew1) | exact HB.out)⟩
  · replace c5 := Bool.eq_false_iff.mpr c5
    subst c5
    have H1 : ((pluviallaw04_awake.f k).bind fun t134 => (if t134 = true then ((bound_Right.f (wrap64 (a0))).bind fun t135 => (if t135 = true then (if (wrap64 (a2)) ≤ (-262144) then (some true) else (some (decide ((wrap64 (a2)) > 262144)))) else (some true))) else (some false))) = some r := by rw [if_neg (show ¬ (false = true) by decide)] at H; exact H
    clear H
    have H := H1
    clear H1
    replace H := Option.bind_eq_some_iff.mp H
    obtain ⟨t134, A330, H⟩ := H
    replace H : (if t134 = true then ((bound_Right.f (wrap64 (a0))).bind fun t135 => (if t135 = true then (if (wrap64 (a2)) ≤ (-262144) then (some true) else (some (decide ((wrap64 (a2)) > 262144)))) else (some true))) else (some false)) = some r := H
    have A33 := Aside0.mk A330
    clear A330
    by_cases c34 : t134 = true
    · subst c34
      have H1 : ((bound_Right.f (wrap64 (a0))).bind fun t135 => (if t135 = true then (if (wrap64 (a2)) ≤ (-262144) then (some true) else (some (decide ((wrap64 (a2)) > 262144)))) else (some true))) = some r := by rw [if_pos rfl] at H; exact H
      clear H
      have H := H1
      clear H1
      replace H := Option.bind_eq_some_iff.mp H
      obtain ⟨t135, A350, H⟩ := H
      replace H : (if t135 = true then (if (wrap64 (a2)) ≤ (-262144) then (some true) else (some (decide ((wrap64 (a2)) > 262144)))) else (some true)) = some r := H
      have A35 := Aside0.mk A350
      clear A350
      by_cases c36 : t135 = true
      · subst c36
        have H1 : (if (wrap64 (a2)) ≤ (-262144) then (some true) else (some (decide ((wrap64 (a2)) > 262144)))) = some r := by rw [if_pos rfl] at H; exact H
        clear H
        have H := H1
        clear H1
        by_cases c37 : (wrap64 (a2)) ≤ (-262144)
        · rw [if_pos c37] at H
          have c37b0 : decide ((wrap64 (a2)) ≤ (-262144)) = true := decide_eq_true c37
          clear c37
          obtain rfl := Option.some.inj H
          go_enter Try.func6, Try.ntmps6
          go_wp2_with (first | ((with_reducible refine gate_callee (f := 16) rfl ?_); refine goesL_ (some 25) rfl rfl Try.func16 (by kernel_rfl) rfl #[.int .i64 (wrap64 (a0)), .int .i64 (wrap64 (a2))] rfl (by (try simp only [List.map_toArray, List.map_cons, List.map_nil]); first | done | rfl | (simp only [List.length_drop, List.length_take]; rfl)) ?_; (with_reducible refine (bound_Of.calls k (wrap64 (a0)) (wrap64 (a2)) t132 false _ A4.out).mono ?_); rintro e w' ⟨rfl, ⟨nd, rfl⟩⟩; refine ⟨_, rfl, ?_⟩) | ((with_reducible refine gate_callee (f := 8) rfl ?_); refine goesL_ (some 30) rfl rfl Try.func8 (by kernel_rfl) rfl #[] rfl (by (try simp only [List.map_toArray, List.map_cons, List.map_nil]); first | done | rfl | (simp only [List.length_drop, List.length_take]; rfl)) ?_; (with_reducible refine (pluviallaw04_awake.calls k  true _ A33.out).mono ?_); rintro e w' ⟨rfl, ⟨nd, rfl⟩⟩; refine ⟨_, rfl, ?_⟩) | (go_at_call 21; (with_reducible refine (bound_Right.calls (wrap64 (a0)) true _ A35.out).mono ?_); rintro e w' ⟨rfl, ⟨nd, rfl⟩⟩))
          go_ret
          exact ⟨by first | rfl | (simp [errW_none, errW_some] <;> rfl) | (simp [*, errW_none, errW_some] <;> rfl), by repeat (first | (with_reducible first | exact HB.out | apply below_alloc | apply pw_below_drewN | apply below_drew1) | exact HB.out)⟩
        · rw [if_neg c37] at H
          have c37b0 : decide ((wrap64 (a2)) ≤ (-262144)) = false := decide_eq_false c37
          clear c37
          obtain rfl := Option.some.inj H
          go_enter Try.func6, Try.ntmps6
          go_wp2_with (first | ((with_reducible refine gate_callee (f := 16) rfl ?_); refine goesL_ (some 25) rfl rfl Try.func16 (by kernel_rfl) rfl #[.int .i64 (wrap64 (a0)), .int .i64 (wrap64 (a2))] rfl (by (try simp only [List.map_toArray, List.map_cons, List.map_nil]); first | done | rfl | (simp only [List.length_drop, List.length_take]; rfl)) ?_; (with_reducible refine (bound_Of.calls k (wrap64 (a0)) (wrap64 (a2)) t132 false _ A4.out).mono ?_); rintro e w' ⟨rfl, ⟨nd, rfl⟩⟩; refine ⟨_, rfl, ?_⟩) | ((with_reducible refine gate_callee (f := 8) rfl ?_); refine goesL_ (some 30) rfl rfl Try.func8 (by kernel_rfl) rfl #[] rfl (by (try simp only [List.map_toArray, List.map_cons, List.map_nil]); first | done | rfl | (simp only [List.length_drop, List.length_take]; rfl)) ?_; (with_reducible refine (pluviallaw04_awake.calls k  true _ A33.out).mono ?_); rintro e w' ⟨rfl, ⟨nd, rfl⟩⟩; refine ⟨_, rfl, ?_⟩) | (go_at_call 21; (with_reducible refine (bound_Right.calls (wrap64 (a0)) true _ A35.out).mono ?_); rintro e w' ⟨rfl, ⟨nd, rfl⟩⟩))
          go_ret
          exact ⟨by first | rfl | (simp [errW_none, errW_some] <;> rfl) | (simp [*, errW_none, errW_some] <;> rfl), by repeat (first | (with_reducible first | exact HB.out | apply below_alloc | apply pw_below_drewN | apply below_drew1) | exact HB.out)⟩
      · replace c36 := Bool.eq_false_iff.mpr c36
        subst c36
        have H1 : (some true) = some r := by rw [if_neg (show ¬ (false = true) by decide)] at H; exact H
        clear H
        have H := H1
        clear H1
        obtain rfl := Option.some.inj H
        go_enter Try.func6, Try.ntmps6
        go_wp2_with (first | ((with_reducible refine gate_callee (f := 16) rfl ?_); refine goesL_ (some 25) rfl rfl Try.func16 (by kernel_rfl) rfl #[.int .i64 (wrap64 (a0)), .int .i64 (wrap64 (a2))] rfl (by (try simp only [List.map_toArray, List.map_cons, List.map_nil]); first | done | rfl | (simp only [List.length_drop, List.length_take]; rfl)) ?_; (with_reducible refine (bound_Of.calls k (wrap64 (a0)) (wrap64 (a2)) t132 false _ A4.out).mono ?_); rintro e w' ⟨rfl, ⟨nd, rfl⟩⟩; refine ⟨_, rfl, ?_⟩) | ((with_reducible refine gate_callee (f := 8) rfl ?_); refine goesL_ (some 30) rfl rfl Try.func8 (by kernel_rfl) rfl #[] rfl (by (try simp only [List.map_toArray, List.map_cons, List.map_nil]); first | done | rfl | (simp only [List.length_drop, List.length_take]; rfl)) ?_; (with_reducible refine (pluviallaw04_awake.calls k  true _ A33.out).mono ?_); rintro e w' ⟨rfl, ⟨nd, rfl⟩⟩; refine ⟨_, rfl, ?_⟩) | (go_at_call 21; (with_reducible refine (bound_Right.calls (wrap64 (a0)) false _ A35.out).mono ?_); rintro e w' ⟨rfl, ⟨nd, rfl⟩⟩))
        go_ret
        exact ⟨by first | rfl | (simp [errW_none, errW_some] <;> rfl) | (simp [*, errW_none, errW_some] <;> rfl), by repeat (first | (with_reducible first | exact HB.out | apply below_alloc | apply pw_below_drewN | apply below_drew1) | exact HB.out)⟩
    · replace c34 := Bool.eq_false_iff.mpr c34
      subst c34
      have H1 : (some false) = some r := by rw [if_neg (show ¬ (false = true) by decide)] at H; exact H
      clear H
      have H := H1
      clear H1
      obtain rfl := Option.some.inj H
      go_enter Try.func6, Try.ntmps6
      go_wp2_with (first | ((with_reducible refine gate_callee (f := 16) rfl ?_); refine goesL_ (some 25) rfl rfl Try.func16 (by kernel_rfl) rfl #[.int .i64 (wrap64 (a0)), .int .i64 (wrap64 (a2))] rfl (by (try simp only [List.map_toArray, List.map_cons, List.map_nil]); first | done | rfl | (simp only [List.length_drop, List.length_take]; rfl)) ?_; (with_reducible refine (bound_Of.calls k (wrap64 (a0)) (wrap64 (a2)) t132 false _ A4.out).mono ?_); rintro e w' ⟨rfl, ⟨nd, rfl⟩⟩; refine ⟨_, rfl, ?_⟩) | ((with_reducible refine gate_callee (f := 8) rfl ?_); refine goesL_ (some 30) rfl rfl Try.func8 (by kernel_rfl) rfl #[] rfl (by (try simp only [List.map_toArray, List.map_cons, List.map_nil]); first | done | rfl | (simp only [List.length_drop, List.length_take]; rfl)) ?_; (with_reducible refine (pluviallaw04_awake.calls k  false _ A33.out).mono ?_); rintro e w' ⟨rfl, ⟨nd, rfl⟩⟩; refine ⟨_, rfl, ?_⟩))
      go_ret
      exact ⟨by first | rfl | (simp [errW_none, errW_some] <;> rfl) | (simp [*, errW_none, errW_some] <;> rfl), by repeat (first | (with_reducible first | exact HB.out | apply below_alloc | apply pw_below_drewN | apply below_drew1) | exact HB.out)⟩

/-- THE ONE PURE STATEMENT of pluviallaw04_BoundOrders: yours. -/
def pluviallaw04_BoundOrders.Pure : Prop := ∀ (a0 : Int) (a1 : Int) (a2 : Int), (Lit.int .i8 a0).wf = true → (Lit.int .i8 a1).wf = true → (Lit.int .i32 a2).wf = true → ∃ k, pluviallaw04_BoundOrders.f k a0 a1 a2 = some true
theorem pluviallaw04_BoundOrders.walk (P : pluviallaw04_BoundOrders.Pure) (a0 : Int) (a1 : Int) (a2 : Int) (w : World) (w0 : (Lit.int .i8 a0).wf = true) (w1 : (Lit.int .i8 a1).wf = true) (w2 : (Lit.int .i32 a2).wf = true) :
    Calls Try.prog 6 #[.int .i8 a0, .int .i8 a1, .int .i32 a2] w fun e w' => e = .returned (.bool true) ∧ Below w.heap.size w w' := by
  obtain ⟨k, h⟩ := P a0 a1 a2 w0 w1 w2
  refine (pluviallaw04_BoundOrders.calls k a0 a1 a2 true w h).mono ?_
  rintro e w' ⟨rfl, hd⟩
  exact ⟨rfl, hd⟩

end Go.Proofs.Ytcdjcbjincecpaa.QBoundOrders
