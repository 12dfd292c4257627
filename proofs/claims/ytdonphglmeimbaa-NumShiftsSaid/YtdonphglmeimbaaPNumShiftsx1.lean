-- PRINTED BY print.sh 35421559b90ae4d0a3588c463048766b98c2df88dd9212a6774a882060cdf62d: not written by this session
import Derived.Test.YtdonphglmeimbaaPNumShiftsx0
namespace Go.Proofs.Ytdonphglmeimbaa.PNumShifts
open Go.RowKit Go.Proofs.YtdonphglmeimbaaW.PrintWords Go.Proofs.YtdonphglmeimbaaW.PrintLast Go.Proofs.YtdonphglmeimbaaW.PrintMore
attribute [local go_sem] max2_int min2_int max_two min_two max_three min_three max_four min_four   -- for this text's walks alone
set_option linter.unusedVariables false
set_option linter.unusedSimpArgs false

/-! ### num_Up: function 9 -/
def num_Up.f (a0 : Int) (a1 : Int) : Option (Int) := if 0 ≤ a1 then (some (wrap64 (-(shr .i64 (wrap64 (-a0)) a1)))) else (none)
set_option maxHeartbeats 8000000 in
set_option maxRecDepth 100000 in
theorem num_Up.calls (a0 : Int) (a1 : Int) (r : Int) (w : World) (h : num_Up.f a0 a1 = some r) :
    Calls Try.prog 9 #[.int .i64 a0, .int .u64 a1] w fun e w' => e = .returned (.int .i64 r) ∧ Drawn0 w w' := by
  have H : (if 0 ≤ a1 then (some (wrap64 (-(shr .i64 (wrap64 (-a0)) a1)))) else (none)) = some r := h
  clear h
  by_cases c3 : 0 ≤ a1
  · rw [if_pos c3] at H
    have c3b0 := eq_true c3
    have c3b1 : decide (0 ≤ a1) = true := decide_eq_true c3
    clear c3
    obtain ⟨ji4, hji4⟩ : ∃ j_ : Int, (shr .i64 (wrap64 (-a0)) a1) = j_ := ⟨_, rfl⟩
    replace H : (some (wrap64 (-(ji4)))) = some r := by first | (rw [hji4] at H; exact H) | (simp only [hji4] at H ⊢; exact H)
    have hji4_ : ((wrap64 (-a0)) / 2 ^ min a1.toNat 64) = ji4 := hji4
    have hji4z : a1 ≤ 64 → ((wrap64 (-a0)) / 2 ^ a1.toNat) = ji4 := shr_small hji4
    obtain rfl := Option.some.inj H
    go_enter Try.func9, Try.ntmps9
    go_wp2
    go_ret
    exact ⟨by first | rfl | (simp; done) | (simp only [← hji4] <;> (first | rfl | simp)) | (simp [*]; done), by repeat (first | exact Drawn0.refl _ | apply Drawn0.step)⟩
  · rw [if_neg c3] at H
    exact absurd H (by simp)

/-! ### num_Down: function 10 -/
def num_Down.f (a0 : Int) (a1 : Int) : Option (Int) := if 0 ≤ a1 then (some (shr .i64 a0 a1)) else (none)
set_option maxHeartbeats 8000000 in
set_option maxRecDepth 100000 in
theorem num_Down.calls (a0 : Int) (a1 : Int) (r : Int) (w : World) (h : num_Down.f a0 a1 = some r) :
    Calls Try.prog 10 #[.int .i64 a0, .int .u64 a1] w fun e w' => e = .returned (.int .i64 r) ∧ Drawn0 w w' := by
  have H : (if 0 ≤ a1 then (some (shr .i64 a0 a1)) else (none)) = some r := h
  clear h
  by_cases c3 : 0 ≤ a1
  · rw [if_pos c3] at H
    have c3b0 := eq_true c3
    have c3b1 : decide (0 ≤ a1) = true := decide_eq_true c3
    clear c3
    obtain ⟨ji4, hji4⟩ : ∃ j_ : Int, (shr .i64 a0 a1) = j_ := ⟨_, rfl⟩
    replace H : (some ji4) = some r := by first | (rw [hji4] at H; exact H) | (simp only [hji4] at H ⊢; exact H)
    have hji4_ : (a0 / 2 ^ min a1.toNat 64) = ji4 := hji4
    have hji4z : a1 ≤ 64 → (a0 / 2 ^ a1.toNat) = ji4 := shr_small hji4
    obtain rfl := Option.some.inj H
    go_enter Try.func10, Try.ntmps10
    go_wp2
    go_ret
    exact ⟨by first | rfl | (simp; done) | (simp only [← hji4] <;> (first | rfl | simp)) | (simp [*]; done), by repeat (first | exact Drawn0.refl _ | apply Drawn0.step)⟩
  · rw [if_neg c3] at H
    exact absurd H (by simp)

/-! ### num_Zig: function 12 -/
def num_Zig.f (a0 : Int) : Option (Int) := some (Go.bits .xor .u64 (IntKind.u64.wrap (wrap64 (a0 * 2))) (IntKind.u64.wrap (a0 / 9223372036854775808)))
set_option maxHeartbeats 8000000 in
set_option maxRecDepth 100000 in
theorem num_Zig.calls (a0 : Int) (r : Int) (w : World) (h : num_Zig.f a0 = some r) :
    Calls Try.prog 12 #[.int .i64 a0] w fun e w' => e = .returned (.int .u64 r) ∧ Drawn0 w w' := by
  have H : (some (Go.bits .xor .u64 (IntKind.u64.wrap (wrap64 (a0 * 2))) (IntKind.u64.wrap (a0 / 9223372036854775808)))) = some r := h
  clear h
  obtain rfl := Option.some.inj H
  go_enter Try.func12, Try.ntmps12
  go_wp2
  go_ret
  exact ⟨by first | rfl | (simp; done) | (simp [*]; done), by repeat (first | exact Drawn0.refl _ | apply Drawn0.step)⟩

/-! ### pluviallaw01_awake: function 11 -/
def pluviallaw01_awake.f  : Option (Bool) := (num_Zig.f (-1)).bind fun t101 => (if t101 = 1 then ((num_Up.f (-3) 1).bind fun t102 => (if t102 = (-1) then ((num_Up.f 3 1).bind fun t103 => (some (t103 == 2))) else (some false))) else (some false))
set_option maxHeartbeats 8000000 in
set_option maxRecDepth 100000 in
theorem pluviallaw01_awake.calls  (r : Bool) (w : World) (h : pluviallaw01_awake.f  = some r) :
    Calls Try.prog 11 #[] w fun e w' => e = .returned (.bool r) ∧ Drawn0 w w' := by
  have H : ((num_Zig.f (-1)).bind fun t101 => (if t101 = 1 then ((num_Up.f (-3) 1).bind fun t102 => (if t102 = (-1) then ((num_Up.f 3 1).bind fun t103 => (some (t103 == 2))) else (some false))) else (some false))) = some r := h
  clear h
  replace H := Option.bind_eq_some_iff.mp H
  obtain ⟨t101, A10, H⟩ := H
  replace H : (if t101 = 1 then ((num_Up.f (-3) 1).bind fun t102 => (if t102 = (-1) then ((num_Up.f 3 1).bind fun t103 => (some (t103 == 2))) else (some false))) else (some false)) = some r := H
  have A1 := Aside0.mk A10
  clear A10
  by_cases c2 : t101 = 1
  · rw [if_pos c2] at H
    have c2b0 : (t101 == 1) = true := beq_iff_eq.mpr c2
    have c2b1 : (t101 != 1) = false := bne_eq_false_iff_eq.mpr c2
    clear c2
    replace H := Option.bind_eq_some_iff.mp H
    obtain ⟨t102, A30, H⟩ := H
    replace H : (if t102 = (-1) then ((num_Up.f 3 1).bind fun t103 => (some (t103 == 2))) else (some false)) = some r := H
    have A3 := Aside0.mk A30
    clear A30
    by_cases c4 : t102 = (-1)
    · rw [if_pos c4] at H
      have c4b0 : (t102 == (-1)) = true := beq_iff_eq.mpr c4
      have c4b1 : (t102 != (-1)) = false := bne_eq_false_iff_eq.mpr c4
      clear c4
      replace H := Option.bind_eq_some_iff.mp H
      obtain ⟨t103, A50, H⟩ := H
      replace H : (some (t103 == 2)) = some r := H
      have A5 := Aside0.mk A50
      clear A50
      obtain rfl := Option.some.inj H
      go_enter Try.func11, Try.ntmps11
      go_wp2_with (first | ((with_reducible refine gate_callee (f := 12) rfl ?_); refine goesL_ (some 1) rfl rfl Try.func12 (by kernel_rfl) rfl #[.int .i64 (-1)] rfl (by (try simp only [List.map_toArray, List.map_cons, List.map_nil]); first | done | rfl | (simp only [List.length_drop, List.length_take]; rfl)) ?_; (with_reducible refine (num_Zig.calls (-1) t101 _ A1.out).mono ?_); rintro e w' ⟨rfl, ⟨nd, rfl⟩⟩; refine ⟨_, rfl, ?_⟩) | (go_at_call 9; (with_reducible refine (num_Up.calls (-3) 1 t102 _ A3.out).mono ?_); rintro e w' ⟨rfl, ⟨nd, rfl⟩⟩) | (go_at_call 9; (with_reducible refine (num_Up.calls 3 1 t103 _ A5.out).mono ?_); rintro e w' ⟨rfl, ⟨nd, rfl⟩⟩))
      go_ret
      exact ⟨by first | rfl | (simp; done) | (simp [*]; done), by repeat (first | exact Drawn0.refl _ | apply Drawn0.step)⟩
    · rw [if_neg c4] at H
      have c4b0 : (t102 == (-1)) = false := beq_eq_false_iff_ne.mpr c4
      have c4b1 : (t102 != (-1)) = true := bne_iff_ne.mpr c4
      obtain rfl := Option.some.inj H
      go_enter Try.func11, Try.ntmps11
      go_wp2_with (first | ((with_reducible refine gate_callee (f := 12) rfl ?_); refine goesL_ (some 1) rfl rfl Try.func12 (by kernel_rfl) rfl #[.int .i64 (-1)] rfl (by (try simp only [List.map_toArray, List.map_cons, List.map_nil]); first | done | rfl | (simp only [List.length_drop, List.length_take]; rfl)) ?_; (with_reducible refine (num_Zig.calls (-1) t101 _ A1.out).mono ?_); rintro e w' ⟨rfl, ⟨nd, rfl⟩⟩; refine ⟨_, rfl, ?_⟩) | (go_at_call 9; (with_reducible refine (num_Up.calls (-3) 1 t102 _ A3.out).mono ?_); rintro e w' ⟨rfl, ⟨nd, rfl⟩⟩))
      go_ret
      exact ⟨by first | rfl | (simp; done) | (simp [*]; done), by repeat (first | exact Drawn0.refl _ | apply Drawn0.step)⟩
  · rw [if_neg c2] at H
    have c2b0 : (t101 == 1) = false := beq_eq_false_iff_ne.mpr c2
    have c2b1 : (t101 != 1) = true := bne_iff_ne.mpr c2
    obtain rfl := Option.some.inj H
    go_enter Try.func11, Try.ntmps11
    go_wp2_with (first | ((with_reducible refine gate_callee (f := 12) rfl ?_); refine goesL_ (some 1) rfl rfl Try.func12 (by kernel_rfl) rfl #[.int .i64 (-1)] rfl (by (try simp only [List.map_toArray, List.map_cons, List.map_nil]); first | done | rfl | (simp only [List.length_drop, List.length_take]; rfl)) ?_; (with_reducible refine (num_Zig.calls (-1) t101 _ A1.out).mono ?_); rintro e w' ⟨rfl, ⟨nd, rfl⟩⟩; refine ⟨_, rfl, ?_⟩))
    go_ret
    exact ⟨by first | rfl | (simp; done) | (simp [*]; done), by repeat (first | exact Drawn0.refl _ | apply Drawn0.step)⟩

/-! ### pluviallaw01_NumShifts: function 3 -/
def pluviallaw01_NumShifts.f (a0 : Int) (a1 : Int) (a2 : Int) : Option (Bool) := (num_Up.f (wrap64 (a0)) (IntKind.u64.wrap (Int.tmod a1 16))).bind fun t104 => ((num_Down.f (wrap64 (a0)) (IntKind.u64.wrap (Int.tmod a1 16))).bind fun t105 => (if 0 ≤ (IntKind.u64.wrap (Int.tmod a1 16)) then ((pluviallaw01_awake.f).bind fun t106 => (if t106 = true then (if (wrap64 (t104 - t105)) ≥ 0 then (if (wrap64 (t104 - t105)) ≤ 1 then (if ((t104 == t105) == ((shl .i64 t105 (IntKind.u64.wrap (Int.tmod a1 16))) == (wrap64 (a0)))) = true then ((num_Up.f (wrap64 (a0)) (IntKind.u64.wrap (Int.tmod a1 16))).bind fun t107 => ((num_Up.f t107 (IntKind.u64.wrap (Int.tmod a2 16))).bind fun t108 => ((num_Up.f (wrap64 (a0)) (IntKind.u64.wrap ((IntKind.u64.wrap (Int.tmod a1 16)) + (IntKind.u64.wrap (Int.tmod a2 16))))).bind fun t109 => (if t108 = t109 then ((num_Down.f (wrap64 (a0)) (IntKind.u64.wrap (Int.tmod a1 16))).bind fun t110 => ((num_Down.f t110 (IntKind.u64.wrap (Int.tmod a2 16))).bind fun t111 => ((num_Down.f (wrap64 (a0)) (IntKind.u64.wrap ((IntKind.u64.wrap (Int.tmod a1 16)) + (IntKind.u64.wrap (Int.tmod a2 16))))).bind fun t112 => (if t111 = t112 then ((num_Up.f (wrap64 (a0)) 0).bind fun t113 => (if t113 = (wrap64 (a0)) then ((num_Down.f (wrap64 (-(wrap64 (a0)))) (IntKind.u64.wrap (Int.tmod a1 16))).bind fun t114 => (some (t114 == (wrap64 (-t104))))) else (some false))) else (some false))))) else (some false))))) else (some false)) else (some false)) else (some false)) else (some false))) else (none)))
set_option maxHeartbeats 8000000 in
set_option maxRecDepth 100000 in
theorem pluviallaw01_NumShifts.calls (a0 : Int) (a1 : Int) (a2 : Int) (r : Bool) (w : World) (h : pluviallaw01_NumShifts.f a0 a1 a2 = some r) :
    Calls Try.prog 3 #[.int .i32 a0, .int .u8 a1, .int .u8 a2] w fun e w' => e = .returned (.bool r) ∧ Drawn0 w w' := by
  have H : ((num_Up.f (wrap64 (a0)) (IntKind.u64.wrap (Int.tmod a1 16))).bind fun t104 => ((num_Down.f (wrap64 (a0)) (IntKind.u64.wrap (Int.tmod a1 16))).bind fun t105 => (if 0 ≤ (IntKind.u64.wrap (Int.tmod a1 16)) then ((pluviallaw01_awake.f).bind fun t106 => (if t106 = true then (if (wrap64 (t104 - t105)) ≥ 0 then (if (wrap64 (t104 - t105)) ≤ 1 then (if ((t104 == t105) == ((shl .i64 t105 (IntKind.u64.wrap (Int.tmod a1 16))) == (wrap64 (a0)))) = true then ((num_Up.f (wrap64 (a0)) (IntKind.u64.wrap (Int.tmod a1 16))).bind fun t107 => ((num_Up.f t107 (IntKind.u64.wrap (Int.tmod a2 16))).bind fun t108 => ((num_Up.f (wrap64 (a0)) (IntKind.u64.wrap ((IntKind.u64.wrap (Int.tmod a1 16)) + (IntKind.u64.wrap (Int.tmod a2 16))))).bind fun t109 => (if t108 = t109 then ((num_Down.f (wrap64 (a0)) (IntKind.u64.wrap (Int.tmod a1 16))).bind fun t110 => ((num_Down.f t110 (IntKind.u64.wrap (Int.tmod a2 16))).bind fun t111 => ((num_Down.f (wrap64 (a0)) (IntKind.u64.wrap ((IntKind.u64.wrap (Int.tmod a1 16)) + (IntKind.u64.wrap (Int.tmod a2 16))))).bind fun t112 => (if t111 = t112 then ((num_Up.f (wrap64 (a0)) 0).bind fun t113 => (if t113 = (wrap64 (a0)) then ((num_Down.f (wrap64 (-(wrap64 (a0)))) (IntKind.u64.wrap (Int.tmod a1 16))).bind fun t114 => (some (t114 == (wrap64 (-t104))))) else (some false))) else (some false))))) else (some false))))) else (some false)) else (some false)) else (some false)) else (some false))) else (none)))) = some r := h
  clear h
  replace H := Option.bind_eq_some_iff.mp H
  obtain ⟨t104, A40, H⟩ := H
  replace H : ((num_Down.f (wrap64 (a0)) (IntKind.u64.wrap (Int.tmod a1 16))).bind fun t105 => (if 0 ≤ (IntKind.u64.wrap (Int.tmod a1 16)) then ((pluviallaw01_awake.f).bind fun t106 => (if t106 = true then (if (wrap64 (t104 - t105)) ≥ 0 then (if (wrap64 (t104 - t105)) ≤ 1 then (if ((t104 == t105) == ((shl .i64 t105 (IntKind.u64.wrap (Int.tmod a1 16))) == (wrap64 (a0)))) = true then ((num_Up.f (wrap64 (a0)) (IntKind.u64.wrap (Int.tmod a1 16))).bind fun t107 => ((num_Up.f t107 (IntKind.u64.wrap (Int.tmod a2 16))).bind fun t108 => ((num_Up.f (wrap64 (a0)) (IntKind.u64.wrap ((IntKind.u64.wrap (Int.tmod a1 16)) + (IntKind.u64.wrap (Int.tmod a2 16))))).bind fun t109 => (if t108 = t109 then ((num_Down.f (wrap64 (a0)) (IntKind.u64.wrap (Int.tmod a1 16))).bind fun t110 => ((num_Down.f t110 (IntKind.u64.wrap (Int.tmod a2 16))).bind fun t111 => ((num_Down.f (wrap64 (a0)) (IntKind.u64.wrap ((IntKind.u64.wrap (Int.tmod a1 16)) + (IntKind.u64.wrap (Int.tmod a2 16))))).bind fun t112 => (if t111 = t112 then ((num_Up.f (wrap64 (a0)) 0).bind fun t113 => (if t113 = (wrap64 (a0)) then ((num_Down.f (wrap64 (-(wrap64 (a0)))) (IntKind.u64.wrap (Int.tmod a1 16))).bind fun t114 => (some (t114 == (wrap64 (-t104))))) else (some false))) else (some false))))) else (some false))))) else (some false)) else (some false)) else (some false)) else (some false))) else (none))) = some r := H
  have A4 := Aside0.mk A40
  clear A40
  replace H := Option.bind_eq_some_iff.mp H
  obtain ⟨t105, A50, H⟩ := H
  replace H : (if 0 ≤ (IntKind.u64.wrap (Int.tmod a1 16)) then ((pluviallaw01_awake.f).bind fun t106 => (if t106 = true then (if (wrap64 (t104 - t105)) ≥ 0 then (if (wrap64 (t104 - t105)) ≤ 1 then (if ((t104 == t105) == ((shl .i64 t105 (IntKind.u64.wrap (Int.tmod a1 16))) == (wrap64 (a0)))) = true then ((num_Up.f (wrap64 (a0)) (IntKind.u64.wrap (Int.tmod a1 16))).bind fun t107 => ((num_Up.f t107 (IntKind.u64.wrap (Int.tmod a2 16))).bind fun t108 => ((num_Up.f (wrap64 (a0)) (IntKind.u64.wrap ((IntKind.u64.wrap (Int.tmod a1 16)) + (IntKind.u64.wrap (Int.tmod a2 16))))).bind fun t109 => (if t108 = t109 then ((num_Down.f (wrap64 (a0)) (IntKind.u64.wrap (Int.tmod a1 16))).bind fun t110 => ((num_Down.f t110 (IntKind.u64.wrap (Int.tmod a2 16))).bind fun t111 => ((num_Down.f (wrap64 (a0)) (IntKind.u64.wrap ((IntKind.u64.wrap (Int.tmod a1 16)) + (IntKind.u64.wrap (Int.tmod a2 16))))).bind fun t112 => (if t111 = t112 then ((num_Up.f (wrap64 (a0)) 0).bind fun t113 => (if t113 = (wrap64 (a0)) then ((num_Down.f (wrap64 (-(wrap64 (a0)))) (IntKind.u64.wrap (Int.tmod a1 16))).bind fun t114 => (some (t114 == (wrap64 (-t104))))) else (some false))) else (some false))))) else (some false))))) else (some false)) else (some false)) else (some false)) else (some false))) else (none)) = some r := H
  have A5 := Aside0.mk A50
  clear A50
  obtain ⟨ji6, hji6⟩ : ∃ j_ : Int, (IntKind.u64.wrap (Int.tmod a1 16)) = j_ := ⟨_, rfl⟩
  replace H : (if 0 ≤ (ji6) then ((pluviallaw01_awake.f).bind fun t106 => (if t106 = true then (if (wrap64 (t104 - t105)) ≥ 0 then (if (wrap64 (t104 - t105)) ≤ 1 then (if ((t104 == t105) == ((shl .i64 t105 (ji6)) == (wrap64 (a0)))) = true then ((num_Up.f (wrap64 (a0)) (ji6)).bind fun t107 => ((num_Up.f t107 (IntKind.u64.wrap (Int.tmod a2 16))).bind fun t108 => ((num_Up.f (wrap64 (a0)) (IntKind.u64.wrap ((ji6) + (IntKind.u64.wrap (Int.tmod a2 16))))).bind fun t109 => (if t108 = t109 then ((num_Down.f (wrap64 (a0)) (ji6)).bind fun t110 => ((num_Down.f t110 (IntKind.u64.wrap (Int.tmod a2 16))).bind fun t111 => ((num_Down.f (wrap64 (a0)) (IntKind.u64.wrap ((ji6) + (IntKind.u64.wrap (Int.tmod a2 16))))).bind fun t112 => (if t111 = t112 then ((num_Up.f (wrap64 (a0)) 0).bind fun t113 => (if t113 = (wrap64 (a0)) then ((num_Down.f (wrap64 (-(wrap64 (a0)))) (ji6)).bind fun t114 => (some (t114 == (wrap64 (-t104))))) else (some false))) else (some false))))) else (some false))))) else (some false)) else (some false)) else (some false)) else (some false))) else (none)) = some r := by first | (rw [hji6] at H; exact H) | (simp only [hji6] at H ⊢; exact H)
  (try rw [hji6] at A4)
  (try rw [hji6] at A5)
  by_cases c7 : 0 ≤ (ji6)
  · rw [if_pos c7] at H
    have c7b0 := eq_true c7
    have c7b1 : decide (0 ≤ (ji6)) = true := decide_eq_true c7
    clear c7
    obtain ⟨ji8, hji8⟩ : ∃ j_ : Int, (shl .i64 t105 (ji6)) = j_ := ⟨_, rfl⟩
    replace H : ((pluviallaw01_awake.f).bind fun t106 => (if t106 = true then (if (wrap64 (t104 - t105)) ≥ 0 then (if (wrap64 (t104 - t105)) ≤ 1 then (if ((t104 == t105) == ((ji8) == (wrap64 (a0)))) = true then ((num_Up.f (wrap64 (a0)) (ji6)).bind fun t107 => ((num_Up.f t107 (IntKind.u64.wrap (Int.tmod a2 16))).bind fun t108 => ((num_Up.f (wrap64 (a0)) (IntKind.u64.wrap ((ji6) + (IntKind.u64.wrap (Int.tmod a2 16))))).bind fun t109 => (if t108 = t109 then ((num_Down.f (wrap64 (a0)) (ji6)).bind fun t110 => ((num_Down.f t110 (IntKind.u64.wrap (Int.tmod a2 16))).bind fun t111 => ((num_Down.f (wrap64 (a0)) (IntKind.u64.wrap ((ji6) + (IntKind.u64.wrap (Int.tmod a2 16))))).bind fun t112 => (if t111 = t112 then ((num_Up.f (wrap64 (a0)) 0).bind fun t113 => (if t113 = (wrap64 (a0)) then ((num_Down.f (wrap64 (-(wrap64 (a0)))) (ji6)).bind fun t114 => (some (t114 == (wrap64 (-t104))))) else (some false))) else (some false))))) else (some false))))) else (some false)) else (some false)) else (some false)) else (some false))) = some r := by first | (rw [hji8] at H; exact H) | (simp only [hji8] at H ⊢; exact H)
    (try rw [hji8] at A4)
    (try rw [hji8] at A5)
    have hji8_ : (IntKind.i64.wrap (t105 * 2 ^ min (ji6).toNat 64)) = ji8 := hji8
    have hji8z : (ji6) ≤ 64 → (IntKind.i64.wrap (t105 * 2 ^ (ji6).toNat)) = ji8 := shl_small hji8
    have hji8y : (wrap64 (t105 * 2 ^ min (ji6).toNat 64)) = ji8 := (i64_w _).symm.trans hji8_
    have hji8x : (ji6) ≤ 64 → (wrap64 (t105 * 2 ^ (ji6).toNat)) = ji8 := fun h_ => (i64_w _).symm.trans (hji8z h_)
    replace H := Option.bind_eq_some_iff.mp H
    obtain ⟨t106, A90, H⟩ := H
    replace H : (if t106 = true then (if (wrap64 (t104 - t105)) ≥ 0 then (if (wrap64 (t104 - t105)) ≤ 1 then (if ((t104 == t105) == ((ji8) == (wrap64 (a0)))) = true then ((num_Up.f (wrap64 (a0)) (ji6)).bind fun t107 => ((num_Up.f t107 (IntKind.u64.wrap (Int.tmod a2 16))).bind fun t108 => ((num_Up.f (wrap64 (a0)) (IntKind.u64.wrap ((ji6) + (IntKind.u64.wrap (Int.tmod a2 16))))).bind fun t109 => (if t108 = t109 then ((num_Down.f (wrap64 (a0)) (ji6)).bind fun t110 => ((num_Down.f t110 (IntKind.u64.wrap (Int.tmod a2 16))).bind fun t111 => ((num_Down.f (wrap64 (a0)) (IntKind.u64.wrap ((ji6) + (IntKind.u64.wrap (Int.tmod a2 16))))).bind fun t112 => (if t111 = t112 then ((num_Up.f (wrap64 (a0)) 0).bind fun t113 => (if t113 = (wrap64 (a0)) then ((num_Down.f (wrap64 (-(wrap64 (a0)))) (ji6)).bind fun t114 => (some (t114 == (wrap64 (-t104))))) else (some false))) else (some false))))) else (some false))))) else (some false)) else (some false)) else (some false)) else (some false)) = some r := H
    have A9 := Aside0.mk A90
    clear A90
    by_cases c10 : t106 = true
    · subst c10
      have H1 : (if (wrap64 (t104 - t105)) ≥ 0 then (if (wrap64 (t104 - t105)) ≤ 1 then (if ((t104 == t105) == ((ji8) == (wrap64 (a0)))) = true then ((num_Up.f (wrap64 (a0)) (ji6)).bind fun t107 => ((num_Up.f t107 (IntKind.u64.wrap (Int.tmod a2 16))).bind fun t108 => ((num_Up.f (wrap64 (a0)) (IntKind.u64.wrap ((ji6) + (IntKind.u64.wrap (Int.tmod a2 16))))).bind fun t109 => (if t108 = t109 then ((num_Down.f (wrap64 (a0)) (ji6)).bind fun t110 => ((num_Down.f t110 (IntKind.u64.wrap (Int.tmod a2 16))).bind fun t111 => ((num_Down.f (wrap64 (a0)) (IntKind.u64.wrap ((ji6) + (IntKind.u64.wrap (Int.tmod a2 16))))).bind fun t112 => (if t111 = t112 then ((num_Up.f (wrap64 (a0)) 0).bind fun t113 => (if t113 = (wrap64 (a0)) then ((num_Down.f (wrap64 (-(wrap64 (a0)))) (ji6)).bind fun t114 => (some (t114 == (wrap64 (-t104))))) else (some false))) else (some false))))) else (some false))))) else (some false)) else (some false)) else (some false)) = some r := by rw [if_pos rfl] at H; exact H
      clear H
      have H := H1
      clear H1
      by_cases c11 : (wrap64 (t104 - t105)) ≥ 0
      · rw [if_pos c11] at H
        have c11b0 : decide (0 ≤ (wrap64 (t104 - t105))) = true := decide_eq_true c11
        clear c11
        by_cases c12 : (wrap64 (t104 - t105)) ≤ 1
        · rw [if_pos c12] at H
          have c12b0 : decide ((wrap64 (t104 - t105)) ≤ 1) = true := decide_eq_true c12
          clear c12
          by_cases c13 : ((t104 == t105) == ((ji8) == (wrap64 (a0)))) = true
          · rw [if_pos c13] at H
            have c13b0 : ((t104 == t105) == ((ji8) == (wrap64 (a0)))) = true := c13
            (try (have c13b1 : decide ((t104 == t105) = ((ji8) == (wrap64 (a0)))) = true := by simpa using c13))
            (try (have c13b2 : ((t104 == t105) == ((ji8) == (wrap64 (a0)))) = true := by simpa using c13))
            clear c13
            replace H := Option.bind_eq_some_iff.mp H
            obtain ⟨t107, A140, H⟩ := H
            replace H : ((num_Up.f t107 (IntKind.u64.wrap (Int.tmod a2 16))).bind fun t108 => ((num_Up.f (wrap64 (a0)) (IntKind.u64.wrap ((ji6) + (IntKind.u64.wrap (Int.tmod a2 16))))).bind fun t109 => (if t108 = t109 then ((num_Down.f (wrap64 (a0)) (ji6)).bind fun t110 => ((num_Down.f t110 (IntKind.u64.wrap (Int.tmod a2 16))).bind fun t111 => ((num_Down.f (wrap64 (a0)) (IntKind.u64.wrap ((ji6) + (IntKind.u64.wrap (Int.tmod a2 16))))).bind fun t112 => (if t111 = t112 then ((num_Up.f (wrap64 (a0)) 0).bind fun t113 => (if t113 = (wrap64 (a0)) then ((num_Down.f (wrap64 (-(wrap64 (a0)))) (ji6)).bind fun t114 => (some (t114 == (wrap64 (-t104))))) else (some false))) else (some false))))) else (some false)))) = some r := H
            have A14 := Aside0.mk A140
            clear A140
            replace H := Option.bind_eq_some_iff.mp H
            obtain ⟨t108, A150, H⟩ := H
            replace H : ((num_Up.f (wrap64 (a0)) (IntKind.u64.wrap ((ji6) + (IntKind.u64.wrap (Int.tmod a2 16))))).bind fun t109 => (if t108 = t109 then ((num_Down.f (wrap64 (a0)) (ji6)).bind fun t110 => ((num_Down.f t110 (IntKind.u64.wrap (Int.tmod a2 16))).bind fun t111 => ((num_Down.f (wrap64 (a0)) (IntKind.u64.wrap ((ji6) + (IntKind.u64.wrap (Int.tmod a2 16))))).bind fun t112 => (if t111 = t112 then ((num_Up.f (wrap64 (a0)) 0).bind fun t113 => (if t113 = (wrap64 (a0)) then ((num_Down.f (wrap64 (-(wrap64 (a0)))) (ji6)).bind fun t114 => (some (t114 == (wrap64 (-t104))))) else (some false))) else (some false))))) else (some false))) = some r := H
            have A15 := Aside0.mk A150
            clear A150
            replace H := Option.bind_eq_some_iff.mp H
            obtain ⟨t109, A160, H⟩ := H
            replace H : (if t108 = t109 then ((num_Down.f (wrap64 (a0)) (ji6)).bind fun t110 => ((num_Down.f t110 (IntKind.u64.wrap (Int.tmod a2 16))).bind fun t111 => ((num_Down.f (wrap64 (a0)) (IntKind.u64.wrap ((ji6) + (IntKind.u64.wrap (Int.tmod a2 16))))).bind fun t112 => (if t111 = t112 then ((num_Up.f (wrap64 (a0)) 0).bind fun t113 => (if t113 = (wrap64 (a0)) then ((num_Down.f (wrap64 (-(wrap64 (a0)))) (ji6)).bind fun t114 => (some (t114 == (wrap64 (-t104))))) else (some false))) else (some false))))) else (some false)) = some r := H
            have A16 := Aside0.mk A160
            clear A160
            by_cases c17 : t108 = t109
            · rw [if_pos c17] at H
              have c17b0 : (t108 == t109) = true := beq_iff_eq.mpr c17
              have c17b1 : (t108 != t109) = false := bne_eq_false_iff_eq.mpr c17
              clear c17
              replace H := Option.bind_eq_some_iff.mp H
              obtain ⟨t110, A180, H⟩ := H
              replace H : ((num_Down.f t110 (IntKind.u64.wrap (Int.tmod a2 16))).bind fun t111 => ((num_Down.f (wrap64 (a0)) (IntKind.u64.wrap ((ji6) + (IntKind.u64.wrap (Int.tmod a2 16))))).bind fun t112 => (if t111 = t112 then ((num_Up.f (wrap64 (a0)) 0).bind fun t113 => (if t113 = (wrap64 (a0)) then ((num_Down.f (wrap64 (-(wrap64 (a0)))) (ji6)).bind fun t114 => (some (t114 == (wrap64 (-t104))))) else (some false))) else (some false)))) = some r := H
              have A18 := Aside0.mk A180
              clear A180
              replace H := Option.bind_eq_some_iff.mp H
              obtain ⟨t111, A190, H⟩ := H
              replace H : ((num_Down.f (wrap64 (a0)) (IntKind.u64.wrap ((ji6) + (IntKind.u64.wrap (Int.tmod a2 16))))).bind fun t112 => (if t111 = t112 then ((num_Up.f (wrap64 (a0)) 0).bind fun t113 => (if t113 = (wrap64 (a0)) then ((num_Down.f (wrap64 (-(wrap64 (a0)))) (ji6)).bind fun t114 => (some (t114 == (wrap64 (-t104))))) else (some false))) else (some false))) = some r := H
              have A19 := Aside0.mk A190
              clear A190
              replace H := Option.bind_eq_some_iff.mp H
              obtain ⟨t112, A200, H⟩ := H
              replace H : (if t111 = t112 then ((num_Up.f (wrap64 (a0)) 0).bind fun t113 => (if t113 = (wrap64 (a0)) then ((num_Down.f (wrap64 (-(wrap64 (a0)))) (ji6)).bind fun t114 => (some (t114 == (wrap64 (-t104))))) else (some false))) else (some false)) = some r := H
              have A20 := Aside0.mk A200
              clear A200
              by_cases c21 : t111 = t112
              · rw [if_pos c21] at H
                have c21b0 : (t111 == t112) = true := beq_iff_eq.mpr c21
                have c21b1 : (t111 != t112) = false := bne_eq_false_iff_eq.mpr c21
                clear c21
                replace H := Option.bind_eq_some_iff.mp H
                obtain ⟨t113, A220, H⟩ := H
                replace H : (if t113 = (wrap64 (a0)) then ((num_Down.f (wrap64 (-(wrap64 (a0)))) (ji6)).bind fun t114 => (some (t114 == (wrap64 (-t104))))) else (some false)) = some r := H
                have A22 := Aside0.mk A220
                clear A220
                by_cases c23 : t113 = (wrap64 (a0))
                · rw [if_pos c23] at H
                  have c23b0 : (t113 == (wrap64 (a0))) = true := beq_iff_eq.mpr c23
                  have c23b1 : (t113 != (wrap64 (a0))) = false := bne_eq_false_iff_eq.mpr c23
                  clear c23
                  replace H := Option.bind_eq_some_iff.mp H
                  obtain ⟨t114, A240, H⟩ := H
                  replace H : (some (t114 == (wrap64 (-t104)))) = some r := H
                  have A24 := Aside0.mk A240
                  clear A240
                  obtain rfl := Option.some.inj H
                  go_enter Try.func3, Try.ntmps3
                  go_wp2_with (first | ((with_reducible refine gate_callee (f := 9) rfl ?_); refine goesL_ (some 23) rfl rfl Try.func9 (by kernel_rfl) rfl #[.int .i64 (wrap64 (a0)), .int .u64 ji6] rfl (by (try simp only [List.map_toArray, List.map_cons, List.map_nil]); first | done | (simp only [hji6]; rfl) | rfl | (simp only [List.length_drop, List.length_take]; rfl)) ?_; (with_reducible refine (num_Up.calls (wrap64 (a0)) ji6 t104 _ A4.out).mono ?_); rintro e w' ⟨rfl, ⟨nd, rfl⟩⟩; refine ⟨_, rfl, ?_⟩) | ((with_reducible refine gate_callee (f := 10) rfl ?_); refine goesL_ (some 26) rfl rfl Try.func10 (by kernel_rfl) rfl #[.int .i64 (wrap64 (a0)), .int .u64 ji6] rfl (by (try simp only [List.map_toArray, List.map_cons, List.map_nil]); first | done | (simp only [hji6]; rfl) | rfl | (simp only [List.length_drop, List.length_take]; rfl)) ?_; (with_reducible refine (num_Down.calls (wrap64 (a0)) ji6 t105 _ A5.out).mono ?_); rintro e w' ⟨rfl, ⟨nd, rfl⟩⟩; refine ⟨_, rfl, ?_⟩) | ((with_reducible refine gate_callee (f := 11) rfl ?_); refine goesL_ (some 32) rfl rfl Try.func11 (by kernel_rfl) rfl #[] rfl (by (try simp only [List.map_toArray, List.map_cons, List.map_nil]); first | done | rfl | (simp only [List.length_drop, List.length_take]; rfl)) ?_; (with_reducible refine (pluviallaw01_awake.calls  true _ A9.out).mono ?_); rintro e w' ⟨rfl, ⟨nd, rfl⟩⟩; refine ⟨_, rfl, ?_⟩) | (go_at_call 9; (with_reducible refine (num_Up.calls (wrap64 (a0)) ji6 t107 _ A14.out).mono ?_); rintro e w' ⟨rfl, ⟨nd, rfl⟩⟩) | (go_at_call 9; (with_reducible refine (num_Up.calls t107 (IntKind.u64.wrap (Int.tmod a2 16)) t108 _ A15.out).mono ?_); rintro e w' ⟨rfl, ⟨nd, rfl⟩⟩) | (go_at_call 9; (with_reducible refine (num_Up.calls (wrap64 (a0)) (IntKind.u64.wrap ((ji6) + (IntKind.u64.wrap (Int.tmod a2 16)))) t109 _ A16.out).mono ?_); rintro e w' ⟨rfl, ⟨nd, rfl⟩⟩) | (go_at_call 10; (with_reducible refine (num_Down.calls (wrap64 (a0)) ji6 t110 _ A18.out).mono ?_); rintro e w' ⟨rfl, ⟨nd, rfl⟩⟩) | (go_at_call 10; (with_reducible refine (num_Down.calls t110 (IntKind.u64.wrap (Int.tmod a2 16)) t111 _ A19.out).mono ?_); rintro e w' ⟨rfl, ⟨nd, rfl⟩⟩) | (go_at_call 10; (with_reducible refine (num_Down.calls (wrap64 (a0)) (IntKind.u64.wrap ((ji6) + (IntKind.u64.wrap (Int.tmod a2 16)))) t112 _ A20.out).mono ?_); rintro e w' ⟨rfl, ⟨nd, rfl⟩⟩) | (go_at_call 9; (with_reducible refine (num_Up.calls (wrap64 (a0)) 0 t113 _ A22.out).mono ?_); rintro e w' ⟨rfl, ⟨nd, rfl⟩⟩) | (go_at_call 10; (with_reducible refine (num_Down.calls (wrap64 (-(wrap64 (a0)))) ji6 t114 _ A24.out).mono ?_); rintro e w' ⟨rfl, ⟨nd, rfl⟩⟩))
                  go_ret
                  exact ⟨by first | rfl | (simp; done) | (simp only [← hji6, ← hji8] <;> (first | rfl | simp)) | (simp [*]; done), by repeat (first | exact Drawn0.refl _ | apply Drawn0.step)⟩
                · rw [if_neg c23] at H
                  have c23b0 : (t113 == (wrap64 (a0))) = false := beq_eq_false_iff_ne.mpr c23
                  have c23b1 : (t113 != (wrap64 (a0))) = true := bne_iff_ne.mpr c23
                  obtain rfl := Option.some.inj H
                  go_enter Try.func3, Try.ntmps3
                  go_wp2_with (first | ((with_reducible refine gate_callee (f := 9) rfl ?_); refine goesL_ (some 23) rfl rfl Try.func9 (by kernel_rfl) rfl #[.int .i64 (wrap64 (a0)), .int .u64 ji6] rfl (by (try simp only [List.map_toArray, List.map_cons, List.map_nil]); first | done | (simp only [hji6]; rfl) | rfl | (simp only [List.length_drop, List.length_take]; rfl)) ?_; (with_reducible refine (num_Up.calls (wrap64 (a0)) ji6 t104 _ A4.out).mono ?_); rintro e w' ⟨rfl, ⟨nd, rfl⟩⟩; refine ⟨_, rfl, ?_⟩) | ((with_reducible refine gate_callee (f := 10) rfl ?_); refine goesL_ (some 26) rfl rfl Try.func10 (by kernel_rfl) rfl #[.int .i64 (wrap64 (a0)), .int .u64 ji6] rfl (by (try simp only [List.map_toArray, List.map_cons, List.map_nil]); first | done | (simp only [hji6]; rfl) | rfl | (simp only [List.length_drop, List.length_take]; rfl)) ?_; (with_reducible refine (num_Down.calls (wrap64 (a0)) ji6 t105 _ A5.out).mono ?_); rintro e w' ⟨rfl, ⟨nd, rfl⟩⟩; refine ⟨_, rfl, ?_⟩) | ((with_reducible refine gate_callee (f := 11) rfl ?_); refine goesL_ (some 32) rfl rfl Try.func11 (by kernel_rfl) rfl #[] rfl (by (try simp only [List.map_toArray, List.map_cons, List.map_nil]); first | done | rfl | (simp only [List.length_drop, List.length_take]; rfl)) ?_; (with_reducible refine (pluviallaw01_awake.calls  true _ A9.out).mono ?_); rintro e w' ⟨rfl, ⟨nd, rfl⟩⟩; refine ⟨_, rfl, ?_⟩) | (go_at_call 9; (with_reducible refine (num_Up.calls (wrap64 (a0)) ji6 t107 _ A14.out).mono ?_); rintro e w' ⟨rfl, ⟨nd, rfl⟩⟩) | (go_at_call 9; (with_reducible refine (num_Up.calls t107 (IntKind.u64.wrap (Int.tmod a2 16)) t108 _ A15.out).mono ?_); rintro e w' ⟨rfl, ⟨nd, rfl⟩⟩) | (go_at_call 9; (with_reducible refine (num_Up.calls (wrap64 (a0)) (IntKind.u64.wrap ((ji6) + (IntKind.u64.wrap (Int.tmod a2 16)))) t109 _ A16.out).mono ?_); rintro e w' ⟨rfl, ⟨nd, rfl⟩⟩) | (go_at_call 10; (with_reducible refine (num_Down.calls (wrap64 (a0)) ji6 t110 _ A18.out).mono ?_); rintro e w' ⟨rfl, ⟨nd, rfl⟩⟩) | (go_at_call 10; (with_reducible refine (num_Down.calls t110 (IntKind.u64.wrap (Int.tmod a2 16)) t111 _ A19.out).mono ?_); rintro e w' ⟨rfl, ⟨nd, rfl⟩⟩) | (go_at_call 10; (with_reducible refine (num_Down.calls (wrap64 (a0)) (IntKind.u64.wrap ((ji6) + (IntKind.u64.wrap (Int.tmod a2 16)))) t112 _ A20.out).mono ?_); rintro e w' ⟨rfl, ⟨nd, rfl⟩⟩) | (go_at_call 9; (with_reducible refine (num_Up.calls (wrap64 (a0)) 0 t113 _ A22.out).mono ?_); rintro e w' ⟨rfl, ⟨nd, rfl⟩⟩))
                  go_ret
                  exact ⟨by first | rfl | (simp; done) | (simp only [← hji6, ← hji8] <;> (first | rfl | simp)) | (simp [*]; done), by repeat (first | exact Drawn0.refl _ | apply Drawn0.step)⟩
              · rw [if_neg c21] at H
                have c21b0 : (t111 == t112) = false := beq_eq_false_iff_ne.mpr c21
                have c21b1 : (t111 != t112) = true := bne_iff_ne.mpr c21
                obtain rfl := Option.some.inj H
                go_enter Try.func3, Try.ntmps3
                go_wp2_with (first | ((with_reducible refine gate_callee (f := 9) rfl ?_); refine goesL_ (some 23) rfl rfl Try.func9 (by kernel_rfl) rfl #[.int .i64 (wrap64 (a0)), .int .u64 ji6] rfl (by (try simp only [List.map_toArray, List.map_cons, List.map_nil]); first | done | (simp only [hji6]; rfl) | rfl | (simp only [List.length_drop, List.length_take]; rfl)) ?_; (with_reducible refine (num_Up.calls (wrap64 (a0)) ji6 t104 _ A4.out).mono ?_); rintro e w' ⟨rfl, ⟨nd, rfl⟩⟩; refine ⟨_, rfl, ?_⟩) | ((with_reducible refine gate_callee (f := 10) rfl ?_); refine goesL_ (some 26) rfl rfl Try.func10 (by kernel_rfl) rfl #[.int .i64 (wrap64 (a0)), .int .u64 ji6] rfl (by (try simp only [List.map_toArray, List.map_cons, List.map_nil]); first | done | (simp only [hji6]; rfl) | rfl | (simp only [List.length_drop, List.length_take]; rfl)) ?_; (with_reducible refine (num_Down.calls (wrap64 (a0)) ji6 t105 _ A5.out).mono ?_); rintro e w' ⟨rfl, ⟨nd, rfl⟩⟩; refine ⟨_, rfl, ?_⟩) | ((with_reducible refine gate_callee (f := 11) rfl ?_); refine goesL_ (some 32) rfl rfl Try.func11 (by kernel_rfl) rfl #[] rfl (by (try simp only [List.map_toArray, List.map_cons, List.map_nil]); first | done | rfl | (simp only [List.length_drop, List.length_take]; rfl)) ?_; (with_reducible refine (pluviallaw01_awake.calls  true _ A9.out).mono ?_); rintro e w' ⟨rfl, ⟨nd, rfl⟩⟩; refine ⟨_, rfl, ?_⟩) | (go_at_call 9; (with_reducible refine (num_Up.calls (wrap64 (a0)) ji6 t107 _ A14.out).mono ?_); rintro e w' ⟨rfl, ⟨nd, rfl⟩⟩) | (go_at_call 9; (with_reducible refine (num_Up.calls t107 (IntKind.u64.wrap (Int.tmod a2 16)) t108 _ A15.out).mono ?_); rintro e w' ⟨rfl, ⟨nd, rfl⟩⟩) | (go_at_call 9; (with_reducible refine (num_Up.calls (wrap64 (a0)) (IntKind.u64.wrap ((ji6) + (IntKind.u64.wrap (Int.tmod a2 16)))) t109 _ A16.out).mono ?_); rintro e w' ⟨rfl, ⟨nd, rfl⟩⟩) | (go_at_call 10; (with_reducible refine (num_Down.calls (wrap64 (a0)) ji6 t110 _ A18.out).mono ?_); rintro e w' ⟨rfl, ⟨nd, rfl⟩⟩) | (go_at_call 10; (with_reducible refine (num_Down.calls t110 (IntKind.u64.wrap (Int.tmod a2 16)) t111 _ A19.out).mono ?_); rintro e w' ⟨rfl, ⟨nd, rfl⟩⟩) | (go_at_call 10; (with_reducible refine (num_Down.calls (wrap64 (a0)) (IntKind.u64.wrap ((ji6) + (IntKind.u64.wrap (Int.tmod a2 16)))) t112 _ A20.out).mono ?_); rintro e w' ⟨rfl, ⟨nd, rfl⟩⟩))
                go_ret
                exact ⟨by first | rfl | (simp; done) | (simp only [← hji6, ← hji8] <;> (first | rfl | simp)) | (simp [*]; done), by repeat (first | exact Drawn0.refl _ | apply Drawn0.step)⟩
            · rw [if_neg c17] at H
              have c17b0 : (t108 == t109) = false := beq_eq_false_iff_ne.mpr c17
              have c17b1 : (t108 != t109) = true := bne_iff_ne.mpr c17
              obtain rfl := Option.some.inj H
              go_enter Try.func3, Try.ntmps3
              go_wp2_with (first | ((with_reducible refine gate_callee (f := 9) rfl ?_); refine goesL_ (some 23) rfl rfl Try.func9 (by kernel_rfl) rfl #[.int .i64 (wrap64 (a0)), .int .u64 ji6] rfl (by (try simp only [List.map_toArray, List.map_cons, List.map_nil]); first | done | (simp only [hji6]; rfl) | rfl | (simp only [List.length_drop, List.length_take]; rfl)) ?_; (with_reducible refine (num_Up.calls (wrap64 (a0)) ji6 t104 _ A4.out).mono ?_); rintro e w' ⟨rfl, ⟨nd, rfl⟩⟩; refine ⟨_, rfl, ?_⟩) | ((with_reducible refine gate_callee (f := 10) rfl ?_); refine goesL_ (some 26) rfl rfl Try.func10 (by kernel_rfl) rfl #[.int .i64 (wrap64 (a0)), .int .u64 ji6] rfl (by (try simp only [List.map_toArray, List.map_cons, List.map_nil]); first | done | (simp only [hji6]; rfl) | rfl | (simp only [List.length_drop, List.length_take]; rfl)) ?_; (with_reducible refine (num_Down.calls (wrap64 (a0)) ji6 t105 _ A5.out).mono ?_); rintro e w' ⟨rfl, ⟨nd, rfl⟩⟩; refine ⟨_, rfl, ?_⟩) | ((with_reducible refine gate_callee (f := 11) rfl ?_); refine goesL_ (some 32) rfl rfl Try.func11 (by kernel_rfl) rfl #[] rfl (by (try simp only [List.map_toArray, List.map_cons, List.map_nil]); first | done | rfl | (simp only [List.length_drop, List.length_take]; rfl)) ?_; (with_reducible refine (pluviallaw01_awake.calls  true _ A9.out).mono ?_); rintro e w' ⟨rfl, ⟨nd, rfl⟩⟩; refine ⟨_, rfl, ?_⟩) | (go_at_call 9; (with_reducible refine (num_Up.calls (wrap64 (a0)) ji6 t107 _ A14.out).mono ?_); rintro e w' ⟨rfl, ⟨nd, rfl⟩⟩) | (go_at_call 9; (with_reducible refine (num_Up.calls t107 (IntKind.u64.wrap (Int.tmod a2 16)) t108 _ A15.out).mono ?_); rintro e w' ⟨rfl, ⟨nd, rfl⟩⟩) | (go_at_call 9; (with_reducible refine (num_Up.calls (wrap64 (a0)) (IntKind.u64.wrap ((ji6) + (IntKind.u64.wrap (Int.tmod a2 16)))) t109 _ A16.out).mono ?_); rintro e w' ⟨rfl, ⟨nd, rfl⟩⟩))
              go_ret
              exact ⟨by first | rfl | (simp; done) | (simp only [← hji6, ← hji8] <;> (first | rfl | simp)) | (simp [*]; done), by repeat (first | exact Drawn0.refl _ | apply Drawn0.step)⟩
          · rw [if_neg c13] at H
            have c13b0 : ((t104 == t105) == ((ji8) == (wrap64 (a0)))) = false := by simpa using c13
            (try (have c13b1 : decide ((t104 == t105) = ((ji8) == (wrap64 (a0)))) = false := by simpa using c13))
            (try (have c13b2 : ((t104 == t105) == ((ji8) == (wrap64 (a0)))) = false := by simpa using c13))
            (try (have c13b3 : ¬ ((t104 == t105) = ((ji8) == (wrap64 (a0)))) := by simpa using c13))
            clear c13
            obtain rfl := Option.some.inj H
            go_enter Try.func3, Try.ntmps3
            go_wp2_with (first | ((with_reducible refine gate_callee (f := 9) rfl ?_); refine goesL_ (some 23) rfl rfl Try.func9 (by kernel_rfl) rfl #[.int .i64 (wrap64 (a0)), .int .u64 ji6] rfl (by (try simp only [List.map_toArray, List.map_cons, List.map_nil]); first | done | (simp only [hji6]; rfl) | rfl | (simp only [List.length_drop, List.length_take]; rfl)) ?_; (with_reducible refine (num_Up.calls (wrap64 (a0)) ji6 t104 _ A4.out).mono ?_); rintro e w' ⟨rfl, ⟨nd, rfl⟩⟩; refine ⟨_, rfl, ?_⟩) | ((with_reducible refine gate_callee (f := 10) rfl ?_); refine goesL_ (some 26) rfl rfl Try.func10 (by kernel_rfl) rfl #[.int .i64 (wrap64 (a0)), .int .u64 ji6] rfl (by (try simp only [List.map_toArray, List.map_cons, List.map_nil]); first | done | (simp only [hji6]; rfl) | rfl | (simp only [List.length_drop, List.length_take]; rfl)) ?_; (with_reducible refine (num_Down.calls (wrap64 (a0)) ji6 t105 _ A5.out).mono ?_); rintro e w' ⟨rfl, ⟨nd, rfl⟩⟩; refine ⟨_, rfl, ?_⟩) | ((with_reducible refine gate_callee (f := 11) rfl ?_); refine goesL_ (some 32) rfl rfl Try.func11 (by kernel_rfl) rfl #[] rfl (by (try simp only [List.map_toArray, List.map_cons, List.map_nil]); first | done | rfl | (simp only [List.length_drop, List.length_take]; rfl)) ?_; (with_reducible refine (pluviallaw01_awake.calls  true _ A9.out).mono ?_); rintro e w' ⟨rfl, ⟨nd, rfl⟩⟩; refine ⟨_, rfl, ?_⟩))
            go_ret
            exact ⟨by first | rfl | (simp; done) | (simp only [← hji6, ← hji8] <;> (first | rfl | simp)) | (simp [*]; done), by repeat (first | exact Drawn0.refl _ | apply Drawn0.step)⟩
        · rw [if_neg c12] at H
          have c12b0 : decide ((wrap64 (t104 - t105)) ≤ 1) = false := decide_eq_false c12
          clear c12
          obtain rfl := Option.some.inj H
          go_enter Try.func3, Try.ntmps3
          go_wp2_with (first | ((with_reducible refine gate_callee (f := 9) rfl ?_); refine goesL_ (some 23) rfl rfl Try.func9 (by kernel_rfl) rfl #[.int .i64 (wrap64 (a0)), .int .u64 ji6] rfl (by (try simp only [List.map_toArray, List.map_cons, List.map_nil]); first | done | (simp only [hji6]; rfl) | rfl | (simp only [List.length_drop, List.length_take]; rfl)) ?_; (with_reducible refine (num_Up.calls (wrap64 (a0)) ji6 t104 _ A4.out).mono ?_); rintro e w' ⟨rfl, ⟨nd, rfl⟩⟩; refine ⟨_, rfl, ?_⟩) | ((with_reducible refine gate_callee (f := 10) rfl ?_); refine goesL_ (some 26) rfl rfl Try.func10 (by kernel_rfl) rfl #[.int .i64 (wrap64 (a0)), .int .u64 ji6] rfl (by (try simp only [List.map_toArray, List.map_cons, List.map_nil]); first | done | (simp only [hji6]; rfl) | rfl | (simp only [List.length_drop, List.length_take]; rfl)) ?_; (with_reducible refine (num_Down.calls (wrap64 (a0)) ji6 t105 _ A5.out).mono ?_); rintro e w' ⟨rfl, ⟨nd, rfl⟩⟩; refine ⟨_, rfl, ?_⟩) | ((with_reducible refine gate_callee (f := 11) rfl ?_); refine goesL_ (some 32) rfl rfl Try.func11 (by kernel_rfl) rfl #[] rfl (by (try simp only [List.map_toArray, List.map_cons, List.map_nil]); first | done | rfl | (simp only [List.length_drop, List.length_take]; rfl)) ?_; (with_reducible refine (pluviallaw01_awake.calls  true _ A9.out).mono ?_); rintro e w' ⟨rfl, ⟨nd, rfl⟩⟩; refine ⟨_, rfl, ?_⟩))
          go_ret
          exact ⟨by first | rfl | (simp; done) | (simp only [← hji6, ← hji8] <;> (first | rfl | simp)) | (simp [*]; done), by repeat (first | exact Drawn0.refl _ | apply Drawn0.step)⟩
      · rw [if_neg c11] at H
        have c11b0 : decide (0 ≤ (wrap64 (t104 - t105))) = false := decide_eq_false c11
        clear c11
        obtain rfl := Option.some.inj H
        go_enter Try.func3, Try.ntmps3
        go_wp2_with (first | ((with_reducible refine gate_callee (f := 9) rfl ?_); refine goesL_ (some 23) rfl rfl Try.func9 (by kernel_rfl) rfl #[.int .i64 (wrap64 (a0)), .int .u64 ji6] rfl (by (try simp only [List.map_toArray, List.map_cons, List.map_nil]); first | done | (simp only [hji6]; rfl) | rfl | (simp only [List.length_drop, List.length_take]; rfl)) ?_; (with_reducible refine (num_Up.calls (wrap64 (a0)) ji6 t104 _ A4.out).mono ?_); rintro e w' ⟨rfl, ⟨nd, rfl⟩⟩; refine ⟨_, rfl, ?_⟩) | ((with_reducible refine gate_callee (f := 10) rfl ?_); refine goesL_ (some 26) rfl rfl Try.func10 (by kernel_rfl) rfl #[.int .i64 (wrap64 (a0)), .int .u64 ji6] rfl (by (try simp only [List.map_toArray, List.map_cons, List.map_nil]); first | done | (simp only [hji6]; rfl) | rfl | (simp only [List.length_drop, List.length_take]; rfl)) ?_; (with_reducible refine (num_Down.calls (wrap64 (a0)) ji6 t105 _ A5.out).mono ?_); rintro e w' ⟨rfl, ⟨nd, rfl⟩⟩; refine ⟨_, rfl, ?_⟩) | ((with_reducible refine gate_callee (f := 11) rfl ?_); refine goesL_ (some 32) rfl rfl Try.func11 (by kernel_rfl) rfl #[] rfl (by (try simp only [List.map_toArray, List.map_cons, List.map_nil]); first | done | rfl | (simp only [List.length_drop, List.length_take]; rfl)) ?_; (with_reducible refine (pluviallaw01_awake.calls  true _ A9.out).mono ?_); rintro e w' ⟨rfl, ⟨nd, rfl⟩⟩; refine ⟨_, rfl, ?_⟩))
        go_ret
        exact ⟨by first | rfl | (simp; done) | (simp only [← hji6, ← hji8] <;> (first | rfl | simp)) | (simp [*]; done), by repeat (first | exact Drawn0.refl _ | apply Drawn0.step)⟩
    · replace c10 := Bool.eq_false_iff.mpr c10
      subst c10
      have H1 : (some false) = some r := by rw [if_neg (show ¬ (false = true) by decide)] at H; exact H
      clear H
      have H := H1
      clear H1
      obtain rfl := Option.some.inj H
      go_enter Try.func3, Try.ntmps3
      go_wp2_with (first | ((with_reducible refine gate_callee (f := 9) rfl ?_); refine goesL_ (some 23) rfl rfl Try.func9 (by kernel_rfl) rfl #[.int .i64 (wrap64 (a0)), .int .u64 ji6] rfl (by (try simp only [List.map_toArray, List.map_cons, List.map_nil]); first | done | (simp only [hji6]; rfl) | rfl | (simp only [List.length_drop, List.length_take]; rfl)) ?_; (with_reducible refine (num_Up.calls (wrap64 (a0)) ji6 t104 _ A4.out).mono ?_); rintro e w' ⟨rfl, ⟨nd, rfl⟩⟩; refine ⟨_, rfl, ?_⟩) | ((with_reducible refine gate_callee (f := 10) rfl ?_); refine goesL_ (some 26) rfl rfl Try.func10 (by kernel_rfl) rfl #[.int .i64 (wrap64 (a0)), .int .u64 ji6] rfl (by (try simp only [List.map_toArray, List.map_cons, List.map_nil]); first | done | (simp only [hji6]; rfl) | rfl | (simp only [List.length_drop, List.length_take]; rfl)) ?_; (with_reducible refine (num_Down.calls (wrap64 (a0)) ji6 t105 _ A5.out).mono ?_); rintro e w' ⟨rfl, ⟨nd, rfl⟩⟩; refine ⟨_, rfl, ?_⟩) | ((with_reducible refine gate_callee (f := 11) rfl ?_); refine goesL_ (some 32) rfl rfl Try.func11 (by kernel_rfl) rfl #[] rfl (by (try simp only [List.map_toArray, List.map_cons, List.map_nil]); first | done | rfl | (simp only [List.length_drop, List.length_take]; rfl)) ?_; (with_reducible refine (pluviallaw01_awake.calls  false _ A9.out).mono ?_); rintro e w' ⟨rfl, ⟨nd, rfl⟩⟩; refine ⟨_, rfl, ?_⟩))
      go_ret
      exact ⟨by first | rfl | (simp; done) | (simp only [← hji6, ← hji8] <;> (first | rfl | simp)) | (simp [*]; done), by repeat (first | exact Drawn0.refl _ | apply Drawn0.step)⟩
  · rw [if_neg c7] at H
    exact absurd H (by simp)

/-- THE ONE PURE STATEMENT of pluviallaw01_NumShifts: yours. -/
def pluviallaw01_NumShifts.Pure : Prop := ∀ (a0 : Int) (a1 : Int) (a2 : Int), (Lit.int .i32 a0).wf = true → (Lit.int .u8 a1).wf = true → (Lit.int .u8 a2).wf = true → pluviallaw01_NumShifts.f a0 a1 a2 = some true
theorem pluviallaw01_NumShifts.walk (P : pluviallaw01_NumShifts.Pure) (a0 : Int) (a1 : Int) (a2 : Int) (w : World) (w0 : (Lit.int .i32 a0).wf = true) (w1 : (Lit.int .u8 a1).wf = true) (w2 : (Lit.int .u8 a2).wf = true) :
    Calls Try.prog 3 #[.int .i32 a0, .int .u8 a1, .int .u8 a2] w fun e w' => e = .returned (.bool true) ∧ Below w.heap.size w w' := by
  have h := P a0 a1 a2 w0 w1 w2
  refine (pluviallaw01_NumShifts.calls a0 a1 a2 true w h).mono ?_
  rintro e w' ⟨rfl, hd⟩
  exact ⟨rfl, hd.below⟩

end Go.Proofs.Ytdonphglmeimbaa.PNumShifts
