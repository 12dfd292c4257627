-- Written by a program of the session (wip/xprint.sh, wip/xpatch.py; a variant of the print) out of the translation. Lean checks it.
import Derived.Test.YtdonphglmeimbaaQNumZigsx0
namespace Go.Proofs.Ytdonphglmeimbaa.QNumZigs
open Go.RowKit Go.Proofs.YtdonphglmeimbaaW.PrintWords Go.Proofs.YtdonphglmeimbaaW.PrintLast Go.Proofs.YtdonphglmeimbaaW.PrintMore
attribute [local go_sem] max2_int min2_int max_two min_two max_three min_three max_four min_four   -- for this text's walks alone
set_option linter.unusedVariables false
set_option linter.unusedSimpArgs false

/-! ### num_Up: function 9 -/
def num_Up.f (a0 : Int) (a1 : Int) : Option (Int) := if 0 ≤ a1 then (some (wrap64 (-(shr .i64 (wrap64 (-a0)) a1)))) else (none)
set_option maxHeartbeats 8000000 in
set_option maxRecDepth 100000 in
theorem num_Up.calls (a0 : Int) (a1 : Int) (r : Int) (w : World) (h : num_Up.f a0 a1 = some r) :
    Calls Try.prog 9 #[.int .i64 a0, .int .u64 a1] w fun e w' => e = .returned (.int .i64 r) ∧ Drawn0 w w' := by
  have H : (if 0 ≤ a1 then (some (wrap64 (-(shr .i64 (wrap64 (-a0)) a1)))) else (none)) = some r := h
  clear h
  by_cases c3 : 0 ≤ a1
  · rw [if_pos c3] at H
    have c3b0 := eq_true c3
    have c3b1 : decide (0 ≤ a1) = true := decide_eq_true c3
    clear c3
    obtain ⟨ji4, hji4⟩ : ∃ j_ : Int, (shr .i64 (wrap64 (-a0)) a1) = j_ := ⟨_, rfl⟩
    replace H : (some (wrap64 (-(ji4)))) = some r := by first | (rw [hji4] at H; exact H) | (simp only [hji4] at H ⊢; exact H)
    have hji4_ : ((wrap64 (-a0)) / 2 ^ min a1.toNat 64) = ji4 := hji4
    have hji4z : a1 ≤ 64 → ((wrap64 (-a0)) / 2 ^ a1.toNat) = ji4 := shr_small hji4
    obtain rfl := Option.some.inj H
    go_enter Try.func9, Try.ntmps9
    go_wp2
    go_ret
    exact ⟨by first | rfl | (simp; done) | (simp only [← hji4] <;> (first | rfl | simp)) | (simp [*]; done), by repeat (first | exact Drawn0.refl _ | apply Drawn0.step)⟩
  · rw [if_neg c3] at H
    exact absurd H (by simp)

/-! ### num_Down: function 10 -/
def num_Down.f (a0 : Int) (a1 : Int) : Option (Int) := if 0 ≤ a1 then (some (shr .i64 a0 a1)) else (none)
set_option maxHeartbeats 8000000 in
set_option maxRecDepth 100000 in
theorem num_Down.calls (a0 : Int) (a1 : Int) (r : Int) (w : World) (h : num_Down.f a0 a1 = some r) :
    Calls Try.prog 10 #[.int .i64 a0, .int .u64 a1] w fun e w' => e = .returned (.int .i64 r) ∧ Drawn0 w w' := by
  have H : (if 0 ≤ a1 then (some (shr .i64 a0 a1)) else (none)) = some r := h
  clear h
  by_cases c3 : 0 ≤ a1
  · rw [if_pos c3] at H
    have c3b0 := eq_true c3
    have c3b1 : decide (0 ≤ a1) = true := decide_eq_true c3
    clear c3
    obtain ⟨ji4, hji4⟩ : ∃ j_ : Int, (shr .i64 a0 a1) = j_ := ⟨_, rfl⟩
    replace H : (some ji4) = some r := by first | (rw [hji4] at H; exact H) | (simp only [hji4] at H ⊢; exact H)
    have hji4_ : (a0 / 2 ^ min a1.toNat 64) = ji4 := hji4
    have hji4z : a1 ≤ 64 → (a0 / 2 ^ a1.toNat) = ji4 := shr_small hji4
    obtain rfl := Option.some.inj H
    go_enter Try.func10, Try.ntmps10
    go_wp2
    go_ret
    exact ⟨by first | rfl | (simp; done) | (simp only [← hji4] <;> (first | rfl | simp)) | (simp [*]; done), by repeat (first | exact Drawn0.refl _ | apply Drawn0.step)⟩
  · rw [if_neg c3] at H
    exact absurd H (by simp)

/-! ### num_Zig: function 12 -/
def num_Zig.f (a0 : Int) : Option (Int) := some (Go.bits .xor .u64 (IntKind.u64.wrap (wrap64 (a0 * 2))) (IntKind.u64.wrap (a0 / 9223372036854775808)))
set_option maxHeartbeats 8000000 in
set_option maxRecDepth 100000 in
theorem num_Zig.calls (a0 : Int) (r : Int) (w : World) (h : num_Zig.f a0 = some r) :
    Calls Try.prog 12 #[.int .i64 a0] w fun e w' => e = .returned (.int .u64 r) ∧ Drawn0 w w' := by
  have H : (some (Go.bits .xor .u64 (IntKind.u64.wrap (wrap64 (a0 * 2))) (IntKind.u64.wrap (a0 / 9223372036854775808)))) = some r := h
  clear h
  obtain rfl := Option.some.inj H
  go_enter Try.func12, Try.ntmps12
  go_wp2
  go_ret
  exact ⟨by first | rfl | (simp; done) | (simp [*]; done), by repeat (first | exact Drawn0.refl _ | apply Drawn0.step)⟩

/-! ### pluviallaw01_awake: function 11 -/
def pluviallaw01_awake.f  : Option (Bool) := (num_Zig.f (-1)).bind fun t101 => (if t101 = 1 then ((num_Up.f (-3) 1).bind fun t102 => (if t102 = (-1) then ((num_Up.f 3 1).bind fun t103 => (some (t103 == 2))) else (some false))) else (some false))
set_option maxHeartbeats 8000000 in
set_option maxRecDepth 100000 in
theorem pluviallaw01_awake.calls  (r : Bool) (w : World) (h : pluviallaw01_awake.f  = some r) :
    Calls Try.prog 11 #[] w fun e w' => e = .returned (.bool r) ∧ Drawn0 w w' := by
  have H : ((num_Zig.f (-1)).bind fun t101 => (if t101 = 1 then ((num_Up.f (-3) 1).bind fun t102 => (if t102 = (-1) then ((num_Up.f 3 1).bind fun t103 => (some (t103 == 2))) else (some false))) else (some false))) = some r := h
  clear h
  replace H := Option.bind_eq_some_iff.mp H
  obtain ⟨t101, A10, H⟩ := H
  replace H : (if t101 = 1 then ((num_Up.f (-3) 1).bind fun t102 => (if t102 = (-1) then ((num_Up.f 3 1).bind fun t103 => (some (t103 == 2))) else (some false))) else (some false)) = some r := H
  have A1 := Aside0.mk A10
  clear A10
  by_cases c2 : t101 = 1
  · rw [if_pos c2] at H
    have c2b0 : (t101 == 1) = true := beq_iff_eq.mpr c2
    have c2b1 : (t101 != 1) = false := bne_eq_false_iff_eq.mpr c2
    clear c2
    replace H := Option.bind_eq_some_iff.mp H
    obtain ⟨t102, A30, H⟩ := H
    replace H : (if t102 = (-1) then ((num_Up.f 3 1).bind fun t103 => (some (t103 == 2))) else (some false)) = some r := H
    have A3 := Aside0.mk A30
    clear A30
    by_cases c4 : t102 = (-1)
    · rw [if_pos c4] at H
      have c4b0 : (t102 == (-1)) = true := beq_iff_eq.mpr c4
      have c4b1 : (t102 != (-1)) = false := bne_eq_false_iff_eq.mpr c4
      clear c4
      replace H := Option.bind_eq_some_iff.mp H
      obtain ⟨t103, A50, H⟩ := H
      replace H : (some (t103 == 2)) = some r := H
      have A5 := Aside0.mk A50
      clear A50
      obtain rfl := Option.some.inj H
      go_enter Try.func11, Try.ntmps11
      go_wp2_with (first | ((with_reducible refine gate_callee (f := 12) rfl ?_); refine goesL_ (some 1) rfl rfl Try.func12 (by kernel_rfl) rfl #[.int .i64 (-1)] rfl (by (try simp only [List.map_toArray, List.map_cons, List.map_nil]); first | done | rfl | (simp only [List.length_drop, List.length_take]; rfl)) ?_; (with_reducible refine (num_Zig.calls (-1) t101 _ A1.out).mono ?_); rintro e w' ⟨rfl, ⟨nd, rfl⟩⟩; refine ⟨_, rfl, ?_⟩) | (go_at_call 9; (with_reducible refine (num_Up.calls (-3) 1 t102 _ A3.out).mono ?_); rintro e w' ⟨rfl, ⟨nd, rfl⟩⟩) | (go_at_call 9; (with_reducible refine (num_Up.calls 3 1 t103 _ A5.out).mono ?_); rintro e w' ⟨rfl, ⟨nd, rfl⟩⟩))
      go_ret
      exact ⟨by first | rfl | (simp; done) | (simp [*]; done), by repeat (first | exact Drawn0.refl _ | apply Drawn0.step)⟩
    · rw [if_neg c4] at H
      have c4b0 : (t102 == (-1)) = false := beq_eq_false_iff_ne.mpr c4
      have c4b1 : (t102 != (-1)) = true := bne_iff_ne.mpr c4
      obtain rfl := Option.some.inj H
      go_enter Try.func11, Try.ntmps11
      go_wp2_with (first | ((with_reducible refine gate_callee (f := 12) rfl ?_); refine goesL_ (some 1) rfl rfl Try.func12 (by kernel_rfl) rfl #[.int .i64 (-1)] rfl (by (try simp only [List.map_toArray, List.map_cons, List.map_nil]); first | done | rfl | (simp only [List.length_drop, List.length_take]; rfl)) ?_; (with_reducible refine (num_Zig.calls (-1) t101 _ A1.out).mono ?_); rintro e w' ⟨rfl, ⟨nd, rfl⟩⟩; refine ⟨_, rfl, ?_⟩) | (go_at_call 9; (with_reducible refine (num_Up.calls (-3) 1 t102 _ A3.out).mono ?_); rintro e w' ⟨rfl, ⟨nd, rfl⟩⟩))
      go_ret
      exact ⟨by first | rfl | (simp; done) | (simp [*]; done), by repeat (first | exact Drawn0.refl _ | apply Drawn0.step)⟩
  · rw [if_neg c2] at H
    have c2b0 : (t101 == 1) = false := beq_eq_false_iff_ne.mpr c2
    have c2b1 : (t101 != 1) = true := bne_iff_ne.mpr c2
    obtain rfl := Option.some.inj H
    go_enter Try.func11, Try.ntmps11
    go_wp2_with (first | ((with_reducible refine gate_callee (f := 12) rfl ?_); refine goesL_ (some 1) rfl rfl Try.func12 (by kernel_rfl) rfl #[.int .i64 (-1)] rfl (by (try simp only [List.map_toArray, List.map_cons, List.map_nil]); first | done | rfl | (simp only [List.length_drop, List.length_take]; rfl)) ?_; (with_reducible refine (num_Zig.calls (-1) t101 _ A1.out).mono ?_); rintro e w' ⟨rfl, ⟨nd, rfl⟩⟩; refine ⟨_, rfl, ?_⟩))
    go_ret
    exact ⟨by first | rfl | (simp; done) | (simp [*]; done), by repeat (first | exact Drawn0.refl _ | apply Drawn0.step)⟩

/-! ### pluvialref01_Zig: function 13 -/
def pluvialref01_Zig.f (a0 : Int) : Option (Int) := if a0 ≥ 0 then (some (IntKind.u64.wrap ((IntKind.u64.wrap (a0)) * 2))) else (some (IntKind.u64.wrap ((IntKind.u64.wrap ((IntKind.u64.wrap (wrap64 (-(wrap64 (a0 + 1))))) * 2)) + 1)))
set_option maxHeartbeats 8000000 in
set_option maxRecDepth 100000 in
theorem pluvialref01_Zig.calls (a0 : Int) (r : Int) (w : World) (h : pluvialref01_Zig.f a0 = some r) :
    Calls Try.prog 13 #[.int .i64 a0] w fun e w' => e = .returned (.int .u64 r) ∧ Drawn0 w w' := by
  have H : (if a0 ≥ 0 then (some (IntKind.u64.wrap ((IntKind.u64.wrap (a0)) * 2))) else (some (IntKind.u64.wrap ((IntKind.u64.wrap ((IntKind.u64.wrap (wrap64 (-(wrap64 (a0 + 1))))) * 2)) + 1)))) = some r := h
  clear h
  by_cases c2 : a0 ≥ 0
  · rw [if_pos c2] at H
    have c2b0 : decide (0 ≤ a0) = true := decide_eq_true c2
    clear c2
    obtain rfl := Option.some.inj H
    go_enter Try.func13, Try.ntmps13
    go_wp2
    go_ret
    exact ⟨by first | rfl | (simp; done) | (simp [*]; done), by repeat (first | exact Drawn0.refl _ | apply Drawn0.step)⟩
  · rw [if_neg c2] at H
    have c2b0 : decide (0 ≤ a0) = false := decide_eq_false c2
    clear c2
    obtain rfl := Option.some.inj H
    go_enter Try.func13, Try.ntmps13
    go_wp2
    go_ret
    exact ⟨by first | rfl | (simp; done) | (simp [*]; done), by repeat (first | exact Drawn0.refl _ | apply Drawn0.step)⟩

/-! ### num_Zag: function 14 -/
def num_Zag.f (a0 : Int) : Option (Int) := some (Go.bits .xor .i64 (wrap64 (a0 / 2)) (wrap64 (-(wrap64 (Go.bits .and .u64 a0 1)))))
set_option maxHeartbeats 8000000 in
set_option maxRecDepth 100000 in
theorem num_Zag.calls (a0 : Int) (r : Int) (w : World) (h : num_Zag.f a0 = some r) :
    Calls Try.prog 14 #[.int .u64 a0] w fun e w' => e = .returned (.int .i64 r) ∧ Drawn0 w w' := by
  have H : (some (Go.bits .xor .i64 (wrap64 (a0 / 2)) (wrap64 (-(wrap64 (Go.bits .and .u64 a0 1)))))) = some r := h
  clear h
  obtain rfl := Option.some.inj H
  go_enter Try.func14, Try.ntmps14
  go_wp2
  go_ret
  exact ⟨by first | rfl | (simp; done) | (simp [*]; done), by repeat (first | exact Drawn0.refl _ | apply Drawn0.step)⟩

/-! ### pluvialref01_Down: function 15 -/
def pluvialref01_Down.l0 : Nat → Int → Int → Int → Int → Option (Int)
  | 0, _, _, _, _ => none
  | k + 1, x0, x1, x5, x6 => if x6 < x1 then (pluvialref01_Down.l0 k x0 x1 (wrap64 (x5 * 2)) (wrap64 (x6 + 1))) else (if x5 = 0 then (none) else (if (Int.tmod x0 x5) < 0 then (some (wrap64 ((wrap64 (Int.tdiv x0 x5)) - 1))) else (some (wrap64 (Int.tdiv x0 x5)))))
def pluvialref01_Down.f (k : Nat) (a0 : Int) (a1 : Int) : Option (Int) := pluvialref01_Down.l0 k a0 a1 1 0
theorem pluvialref01_Down.mono_l : ∀ k, (∀ y0 y1 y2 y3, LeO (pluvialref01_Down.l0 k y0 y1 y2 y3) (pluvialref01_Down.l0 (k + 1) y0 y1 y2 y3))
  | 0 => fun _ _ _ _ r h => by simp [pluvialref01_Down.l0] at h
  | k + 1 => by
    have ih0 := pluvialref01_Down.mono_l k
    · intro y0 y1 y2 y3
      unfold pluvialref01_Down.l0
      repeat' first
      | (with_reducible exact ih0 _ _ _ _)
      | (with_reducible exact LeO.refl _)
      | (with_reducible exact LeO.none _)
      | (with_reducible refine LeO.ite ?_ ?_)
      | (with_reducible refine LeO.bind ?_ (fun _ => ?_))
      | exact ih0 _ _ _ _
      | exact LeO.none _
      | refine LeO.ite ?_ ?_
      | refine LeO.bind ?_ (fun _ => ?_)
theorem pluvialref01_Down.mono : ∀ a0 a1 k, LeO (pluvialref01_Down.f k a0 a1) (pluvialref01_Down.f (k + 1) a0 a1) := by
  intro a0 a1 k
  have ih0 := pluvialref01_Down.mono_l k
  unfold pluvialref01_Down.f
  repeat' first
      | (with_reducible exact ih0 _ _ _ _)
      | (with_reducible exact LeO.refl _)
      | (with_reducible exact LeO.none _)
      | (with_reducible refine LeO.ite ?_ ?_)
      | (with_reducible refine LeO.bind ?_ (fun _ => ?_))
      | exact ih0 _ _ _ _
      | exact LeO.none _
      | refine LeO.ite ?_ ?_
      | refine LeO.bind ?_ (fun _ => ?_)
set_option maxHeartbeats 8000000 in
set_option maxRecDepth 100000 in
theorem pluvialref01_Down.calls (k : Nat) (a0 : Int) (a1 : Int) (r : Int) (w : World) (h : pluvialref01_Down.f k a0 a1 = some r) :
    Calls Try.prog 15 #[.int .i64 a0, .int .i64 a1] w fun e w' => e = .returned (.int .i64 r) ∧ Drawn0 w w' := by
  have H : (pluvialref01_Down.l0 k a0 a1 1 0) = some r := h
  clear h
  have H' := Aside0.mk H
  clear H
  go_enter Try.func15, Try.ntmps15
  go_wp2
  go_loopg [5, 6] k (fun kq v5 v6 w' => ∃ (x5_1 : Int) (x6_1 : Int), v5 = .int .i64 x5_1 ∧ v6 = .int .i64 x6_1 ∧ Aside0 (pluvialref01_Down.l0 kq a0 a1 x5_1 x6_1 = some r) ∧ Aside0 (kq ≤ k) ∧ Drawn0 w w')
  case atStart => exact ⟨(1), (0), (by first | rfl | (simp; done) | (simp [*]; done)), (by first | rfl | (simp; done) | (simp [*]; done)), H', ⟨Nat.le_refl _⟩, by repeat (first | exact Drawn0.refl _ | apply Drawn0.step)⟩
  case round =>
    clear H'
    try clear c1
    try clear p2
    obtain ⟨x5_1, x6_1, rfl, rfl, HA, HK1, ⟨m1, rfl⟩⟩ := hrel
    cases gk with
    | zero => exact absurd HA.out (by simp [pluvialref01_Down.l0])
    | succ k1 =>
      have H := HA.out
      clear HA
      simp only [pluvialref01_Down.l0] at H
      by_cases c3 : x6_1 < a1
      · rw [if_pos c3] at H
        have c3b0 : decide (x6_1 < a1) = true := decide_eq_true c3
        clear c3
        have H' := Aside0.mk H
        clear H
        go_wp2
        go_roundg k1
        case measure => have := HK1.out; omega
        case rel => exact ⟨(wrap64 (x5_1 * 2)), (wrap64 (x6_1 + 1)), (by first | rfl | (simp; done) | (simp [*]; done)), (by first | rfl | (simp; done) | (simp [*]; done)), H', ⟨by have := HK1.out; omega⟩, by repeat (first | exact Drawn0.refl _ | apply Drawn0.step)⟩
      · rw [if_neg c3] at H
        have c3b0 : decide (x6_1 < a1) = false := decide_eq_false c3
        clear c3
        by_cases c4 : x5_1 = 0
        · rw [if_pos c4] at H
          exact absurd H (by simp)
        · rw [if_neg c4] at H
          have c4b0 : (x5_1 == 0) = false := beq_eq_false_iff_ne.mpr c4
          have c4b1 : (x5_1 != 0) = true := bne_iff_ne.mpr c4
          by_cases c5 : (Int.tmod a0 x5_1) < 0
          · rw [if_pos c5] at H
            have c5b0 : decide ((Int.tmod a0 x5_1) < 0) = true := decide_eq_true c5
            clear c5
            obtain rfl := Option.some.inj H
            go_wp2
            go_ret
            exact ⟨by first | rfl | (simp; done) | (simp [*]; done), by repeat (first | exact Drawn0.refl _ | apply Drawn0.step)⟩
          · rw [if_neg c5] at H
            have c5b0 : decide ((Int.tmod a0 x5_1) < 0) = false := decide_eq_false c5
            clear c5
            obtain rfl := Option.some.inj H
            go_wp2
            go_ret
            exact ⟨by first | rfl | (simp; done) | (simp [*]; done), by repeat (first | exact Drawn0.refl _ | apply Drawn0.step)⟩

/-! ### pluviallaw01_NumZigs: function 4 -/
def pluviallaw01_NumZigs.f (k : Nat) (a0 : Int) (a1 : Int) (a2 : Int) (a3 : Int) : Option (Bool) := (pluviallaw01_awake.f).bind fun t104 => (if t104 = true then ((num_Zig.f a0).bind fun t105 => ((pluvialref01_Zig.f a0).bind fun t106 => (if t105 = t106 then ((num_Zag.f t105).bind fun t107 => (if t107 = a0 then ((num_Zag.f a1).bind fun t108 => ((pluvialref01_Zig.f t108).bind fun t109 => (if t109 = a1 then ((num_Down.f (Int.tmod a2 1099511627776) (IntKind.u64.wrap (wrap64 (Int.tmod a3 41)))).bind fun t110 => ((pluvialref01_Down.f k (Int.tmod a2 1099511627776) (wrap64 (Int.tmod a3 41))).bind fun t111 => (if t110 = t111 then ((num_Up.f (Int.tmod a2 1099511627776) (IntKind.u64.wrap (wrap64 (Int.tmod a3 41)))).bind fun t112 => ((pluvialref01_Down.f k (wrap64 (-(Int.tmod a2 1099511627776))) (wrap64 (Int.tmod a3 41))).bind fun t113 => (some (t112 == (wrap64 (-t113)))))) else (some false)))) else (some false)))) else (some false))) else (some false)))) else (some false))
theorem pluviallaw01_NumZigs.mono : ∀ a0 a1 a2 a3 k, LeO (pluviallaw01_NumZigs.f k a0 a1 a2 a3) (pluviallaw01_NumZigs.f (k + 1) a0 a1 a2 a3) := by
  intro a0 a1 a2 a3 k
  unfold pluviallaw01_NumZigs.f
  repeat' first
      | (with_reducible exact pluvialref01_Down.mono _ _ _)
      | (with_reducible exact LeO.refl _)
      | (with_reducible exact LeO.none _)
      | (with_reducible refine LeO.ite ?_ ?_)
      | (with_reducible refine LeO.bind ?_ (fun _ => ?_))
      | exact pluvialref01_Down.mono _ _ _
      | exact LeO.none _
      | refine LeO.ite ?_ ?_
      | refine LeO.bind ?_ (fun _ => ?_)
set_option maxHeartbeats 8000000 in
set_option maxRecDepth 100000 in
theorem pluviallaw01_NumZigs.calls (k : Nat) (a0 : Int) (a1 : Int) (a2 : Int) (a3 : Int) (r : Bool) (w : World) (h : pluviallaw01_NumZigs.f k a0 a1 a2 a3 = some r) :
    Calls Try.prog 4 #[.int .i64 a0, .int .u64 a1, .int .i64 a2, .int .u8 a3] w fun e w' => e = .returned (.bool r) ∧ Drawn0 w w' := by
  have H : ((pluviallaw01_awake.f).bind fun t104 => (if t104 = true then ((num_Zig.f a0).bind fun t105 => ((pluvialref01_Zig.f a0).bind fun t106 => (if t105 = t106 then ((num_Zag.f t105).bind fun t107 => (if t107 = a0 then ((num_Zag.f a1).bind fun t108 => ((pluvialref01_Zig.f t108).bind fun t109 => (if t109 = a1 then ((num_Down.f (Int.tmod a2 1099511627776) (IntKind.u64.wrap (wrap64 (Int.tmod a3 41)))).bind fun t110 => ((pluvialref01_Down.f k (Int.tmod a2 1099511627776) (wrap64 (Int.tmod a3 41))).bind fun t111 => (if t110 = t111 then ((num_Up.f (Int.tmod a2 1099511627776) (IntKind.u64.wrap (wrap64 (Int.tmod a3 41)))).bind fun t112 => ((pluvialref01_Down.f k (wrap64 (-(Int.tmod a2 1099511627776))) (wrap64 (Int.tmod a3 41))).bind fun t113 => (some (t112 == (wrap64 (-t113)))))) else (some false)))) else (some false)))) else (some false))) else (some false)))) else (some false))) = some r := h
  clear h
  replace H := Option.bind_eq_some_iff.mp H
  obtain ⟨t104, A50, H⟩ := H
  replace H : (if t104 = true then ((num_Zig.f a0).bind fun t105 => ((pluvialref01_Zig.f a0).bind fun t106 => (if t105 = t106 then ((num_Zag.f t105).bind fun t107 => (if t107 = a0 then ((num_Zag.f a1).bind fun t108 => ((pluvialref01_Zig.f t108).bind fun t109 => (if t109 = a1 then ((num_Down.f (Int.tmod a2 1099511627776) (IntKind.u64.wrap (wrap64 (Int.tmod a3 41)))).bind fun t110 => ((pluvialref01_Down.f k (Int.tmod a2 1099511627776) (wrap64 (Int.tmod a3 41))).bind fun t111 => (if t110 = t111 then ((num_Up.f (Int.tmod a2 1099511627776) (IntKind.u64.wrap (wrap64 (Int.tmod a3 41)))).bind fun t112 => ((pluvialref01_Down.f k (wrap64 (-(Int.tmod a2 1099511627776))) (wrap64 (Int.tmod a3 41))).bind fun t113 => (some (t112 == (wrap64 (-t113)))))) else (some false)))) else (some false)))) else (some false))) else (some false)))) else (some false)) = some r := H
  have A5 := Aside0.mk A50
  clear A50
  by_cases c6 : t104 = true
  · subst c6
    have H1 : ((num_Zig.f a0).bind fun t105 => ((pluvialref01_Zig.f a0).bind fun t106 => (if t105 = t106 then ((num_Zag.f t105).bind fun t107 => (if t107 = a0 then ((num_Zag.f a1).bind fun t108 => ((pluvialref01_Zig.f t108).bind fun t109 => (if t109 = a1 then ((num_Down.f (Int.tmod a2 1099511627776) (IntKind.u64.wrap (wrap64 (Int.tmod a3 41)))).bind fun t110 => ((pluvialref01_Down.f k (Int.tmod a2 1099511627776) (wrap64 (Int.tmod a3 41))).bind fun t111 => (if t110 = t111 then ((num_Up.f (Int.tmod a2 1099511627776) (IntKind.u64.wrap (wrap64 (Int.tmod a3 41)))).bind fun t112 => ((pluvialref01_Down.f k (wrap64 (-(Int.tmod a2 1099511627776))) (wrap64 (Int.tmod a3 41))).bind fun t113 => (some (t112 == (wrap64 (-t113)))))) else (some false)))) else (some false)))) else (some false))) else (some false)))) = some r := by rw [if_pos rfl] at H; exact H
    clear H
    have H := H1
    clear H1
    replace H := Option.bind_eq_some_iff.mp H
    obtain ⟨t105, A70, H⟩ := H
    replace H : ((pluvialref01_Zig.f a0).bind fun t106 => (if t105 = t106 then ((num_Zag.f t105).bind fun t107 => (if t107 = a0 then ((num_Zag.f a1).bind fun t108 => ((pluvialref01_Zig.f t108).bind fun t109 => (if t109 = a1 then ((num_Down.f (Int.tmod a2 1099511627776) (IntKind.u64.wrap (wrap64 (Int.tmod a3 41)))).bind fun t110 => ((pluvialref01_Down.f k (Int.tmod a2 1099511627776) (wrap64 (Int.tmod a3 41))).bind fun t111 => (if t110 = t111 then ((num_Up.f (Int.tmod a2 1099511627776) (IntKind.u64.wrap (wrap64 (Int.tmod a3 41)))).bind fun t112 => ((pluvialref01_Down.f k (wrap64 (-(Int.tmod a2 1099511627776))) (wrap64 (Int.tmod a3 41))).bind fun t113 => (some (t112 == (wrap64 (-t113)))))) else (some false)))) else (some false)))) else (some false))) else (some false))) = some r := H
    have A7 := Aside0.mk A70
    clear A70
    replace H := Option.bind_eq_some_iff.mp H
    obtain ⟨t106, A80, H⟩ := H
    replace H : (if t105 = t106 then ((num_Zag.f t105).bind fun t107 => (if t107 = a0 then ((num_Zag.f a1).bind fun t108 => ((pluvialref01_Zig.f t108).bind fun t109 => (if t109 = a1 then ((num_Down.f (Int.tmod a2 1099511627776) (IntKind.u64.wrap (wrap64 (Int.tmod a3 41)))).bind fun t110 => ((pluvialref01_Down.f k (Int.tmod a2 1099511627776) (wrap64 (Int.tmod a3 41))).bind fun t111 => (if t110 = t111 then ((num_Up.f (Int.tmod a2 1099511627776) (IntKind.u64.wrap (wrap64 (Int.tmod a3 41)))).bind fun t112 => ((pluvialref01_Down.f k (wrap64 (-(Int.tmod a2 1099511627776))) (wrap64 (Int.tmod a3 41))).bind fun t113 => (some (t112 == (wrap64 (-t113)))))) else (some false)))) else (some false)))) else (some false))) else (some false)) = some r := H
    have A8 := Aside0.mk A80
    clear A80
    by_cases c9 : t105 = t106
    · rw [if_pos c9] at H
      have c9b0 : (t105 == t106) = true := beq_iff_eq.mpr c9
      have c9b1 : (t105 != t106) = false := bne_eq_false_iff_eq.mpr c9
      clear c9
      replace H := Option.bind_eq_some_iff.mp H
      obtain ⟨t107, A100, H⟩ := H
      replace H : (if t107 = a0 then ((num_Zag.f a1).bind fun t108 => ((pluvialref01_Zig.f t108).bind fun t109 => (if t109 = a1 then ((num_Down.f (Int.tmod a2 1099511627776) (IntKind.u64.wrap (wrap64 (Int.tmod a3 41)))).bind fun t110 => ((pluvialref01_Down.f k (Int.tmod a2 1099511627776) (wrap64 (Int.tmod a3 41))).bind fun t111 => (if t110 = t111 then ((num_Up.f (Int.tmod a2 1099511627776) (IntKind.u64.wrap (wrap64 (Int.tmod a3 41)))).bind fun t112 => ((pluvialref01_Down.f k (wrap64 (-(Int.tmod a2 1099511627776))) (wrap64 (Int.tmod a3 41))).bind fun t113 => (some (t112 == (wrap64 (-t113)))))) else (some false)))) else (some false)))) else (some false)) = some r := H
      have A10 := Aside0.mk A100
      clear A100
      by_cases c11 : t107 = a0
      · rw [if_pos c11] at H
        have c11b0 : (t107 == a0) = true := beq_iff_eq.mpr c11
        have c11b1 : (t107 != a0) = false := bne_eq_false_iff_eq.mpr c11
        clear c11
        replace H := Option.bind_eq_some_iff.mp H
        obtain ⟨t108, A120, H⟩ := H
        replace H : ((pluvialref01_Zig.f t108).bind fun t109 => (if t109 = a1 then ((num_Down.f (Int.tmod a2 1099511627776) (IntKind.u64.wrap (wrap64 (Int.tmod a3 41)))).bind fun t110 => ((pluvialref01_Down.f k (Int.tmod a2 1099511627776) (wrap64 (Int.tmod a3 41))).bind fun t111 => (if t110 = t111 then ((num_Up.f (Int.tmod a2 1099511627776) (IntKind.u64.wrap (wrap64 (Int.tmod a3 41)))).bind fun t112 => ((pluvialref01_Down.f k (wrap64 (-(Int.tmod a2 1099511627776))) (wrap64 (Int.tmod a3 41))).bind fun t113 => (some (t112 == (wrap64 (-t113)))))) else (some false)))) else (some false))) = some r := H
        have A12 := Aside0.mk A120
        clear A120
        replace H := Option.bind_eq_some_iff.mp H
        obtain ⟨t109, A130, H⟩ := H
        replace H : (if t109 = a1 then ((num_Down.f (Int.tmod a2 1099511627776) (IntKind.u64.wrap (wrap64 (Int.tmod a3 41)))).bind fun t110 => ((pluvialref01_Down.f k (Int.tmod a2 1099511627776) (wrap64 (Int.tmod a3 41))).bind fun t111 => (if t110 = t111 then ((num_Up.f (Int.tmod a2 1099511627776) (IntKind.u64.wrap (wrap64 (Int.tmod a3 41)))).bind fun t112 => ((pluvialref01_Down.f k (wrap64 (-(Int.tmod a2 1099511627776))) (wrap64 (Int.tmod a3 41))).bind fun t113 => (some (t112 == (wrap64 (-t113)))))) else (some false)))) else (some false)) = some r := H
        have A13 := Aside0.mk A130
        clear A130
        by_cases c14 : t109 = a1
        · rw [if_pos c14] at H
          have c14b0 : (t109 == a1) = true := beq_iff_eq.mpr c14
          have c14b1 : (t109 != a1) = false := bne_eq_false_iff_eq.mpr c14
          clear c14
          replace H := Option.bind_eq_some_iff.mp H
          obtain ⟨t110, A150, H⟩ := H
          replace H : ((pluvialref01_Down.f k (Int.tmod a2 1099511627776) (wrap64 (Int.tmod a3 41))).bind fun t111 => (if t110 = t111 then ((num_Up.f (Int.tmod a2 1099511627776) (IntKind.u64.wrap (wrap64 (Int.tmod a3 41)))).bind fun t112 => ((pluvialref01_Down.f k (wrap64 (-(Int.tmod a2 1099511627776))) (wrap64 (Int.tmod a3 41))).bind fun t113 => (some (t112 == (wrap64 (-t113)))))) else (some false))) = some r := H
          have A15 := Aside0.mk A150
          clear A150
          replace H := Option.bind_eq_some_iff.mp H
          obtain ⟨t111, A160, H⟩ := H
          replace H : (if t110 = t111 then ((num_Up.f (Int.tmod a2 1099511627776) (IntKind.u64.wrap (wrap64 (Int.tmod a3 41)))).bind fun t112 => ((pluvialref01_Down.f k (wrap64 (-(Int.tmod a2 1099511627776))) (wrap64 (Int.tmod a3 41))).bind fun t113 => (some (t112 == (wrap64 (-t113)))))) else (some false)) = some r := H
          have A16 := Aside0.mk A160
          clear A160
          by_cases c17 : t110 = t111
          · rw [if_pos c17] at H
            have c17b0 : (t110 == t111) = true := beq_iff_eq.mpr c17
            have c17b1 : (t110 != t111) = false := bne_eq_false_iff_eq.mpr c17
            clear c17
            replace H := Option.bind_eq_some_iff.mp H
            obtain ⟨t112, A180, H⟩ := H
            replace H : ((pluvialref01_Down.f k (wrap64 (-(Int.tmod a2 1099511627776))) (wrap64 (Int.tmod a3 41))).bind fun t113 => (some (t112 == (wrap64 (-t113))))) = some r := H
            have A18 := Aside0.mk A180
            clear A180
            replace H := Option.bind_eq_some_iff.mp H
            obtain ⟨t113, A190, H⟩ := H
            replace H : (some (t112 == (wrap64 (-t113)))) = some r := H
            have A19 := Aside0.mk A190
            clear A190
            obtain rfl := Option.some.inj H
            go_enter Try.func4, Try.ntmps4
            go_wp2_with (first | ((with_reducible refine gate_callee (f := 11) rfl ?_); refine goesL_ (some 16) rfl rfl Try.func11 (by kernel_rfl) rfl #[] rfl (by (try simp only [List.map_toArray, List.map_cons, List.map_nil]); first | done | rfl | (simp only [List.length_drop, List.length_take]; rfl)) ?_; (with_reducible refine (pluviallaw01_awake.calls  true _ A5.out).mono ?_); rintro e w' ⟨rfl, ⟨nd, rfl⟩⟩; refine ⟨_, rfl, ?_⟩) | (go_at_call 12; (with_reducible refine (num_Zig.calls a0 t105 _ A7.out).mono ?_); rintro e w' ⟨rfl, ⟨nd, rfl⟩⟩) | (go_at_call 13; (with_reducible refine (pluvialref01_Zig.calls a0 t106 _ A8.out).mono ?_); rintro e w' ⟨rfl, ⟨nd, rfl⟩⟩) | (go_at_call 14; (with_reducible refine (num_Zag.calls t105 t107 _ A10.out).mono ?_); rintro e w' ⟨rfl, ⟨nd, rfl⟩⟩) | (go_at_call 14; (with_reducible refine (num_Zag.calls a1 t108 _ A12.out).mono ?_); rintro e w' ⟨rfl, ⟨nd, rfl⟩⟩) | (go_at_call 13; (with_reducible refine (pluvialref01_Zig.calls t108 t109 _ A13.out).mono ?_); rintro e w' ⟨rfl, ⟨nd, rfl⟩⟩) | (go_at_call 10; (with_reducible refine (num_Down.calls (Int.tmod a2 1099511627776) (IntKind.u64.wrap (wrap64 (Int.tmod a3 41))) t110 _ A15.out).mono ?_); rintro e w' ⟨rfl, ⟨nd, rfl⟩⟩) | (go_at_call 15; (with_reducible refine (pluvialref01_Down.calls k (Int.tmod a2 1099511627776) (wrap64 (Int.tmod a3 41)) t111 _ A16.out).mono ?_); rintro e w' ⟨rfl, ⟨nd, rfl⟩⟩) | (go_at_call 9; (with_reducible refine (num_Up.calls (Int.tmod a2 1099511627776) (IntKind.u64.wrap (wrap64 (Int.tmod a3 41))) t112 _ A18.out).mono ?_); rintro e w' ⟨rfl, ⟨nd, rfl⟩⟩) | (go_at_call 15; (with_reducible refine (pluvialref01_Down.calls k (wrap64 (-(Int.tmod a2 1099511627776))) (wrap64 (Int.tmod a3 41)) t113 _ A19.out).mono ?_); rintro e w' ⟨rfl, ⟨nd, rfl⟩⟩))
            go_ret
            exact ⟨by first | rfl | (simp; done) | (simp [*]; done), by repeat (first | exact Drawn0.refl _ | apply Drawn0.step)⟩
          · rw [if_neg c17] at H
            have c17b0 : (t110 == t111) = false := beq_eq_false_iff_ne.mpr c17
            have c17b1 : (t110 != t111) = true := bne_iff_ne.mpr c17
            obtain rfl := Option.some.inj H
            go_enter Try.func4, Try.ntmps4
            go_wp2_with (first | ((with_reducible refine gate_callee (f := 11) rfl ?_); refine goesL_ (some 16) rfl rfl Try.func11 (by kernel_rfl) rfl #[] rfl (by (try simp only [List.map_toArray, List.map_cons, List.map_nil]); first | done | rfl | (simp only [List.length_drop, List.length_take]; rfl)) ?_; (with_reducible refine (pluviallaw01_awake.calls  true _ A5.out).mono ?_); rintro e w' ⟨rfl, ⟨nd, rfl⟩⟩; refine ⟨_, rfl, ?_⟩) | (go_at_call 12; (with_reducible refine (num_Zig.calls a0 t105 _ A7.out).mono ?_); rintro e w' ⟨rfl, ⟨nd, rfl⟩⟩) | (go_at_call 13; (with_reducible refine (pluvialref01_Zig.calls a0 t106 _ A8.out).mono ?_); rintro e w' ⟨rfl, ⟨nd, rfl⟩⟩) | (go_at_call 14; (with_reducible refine (num_Zag.calls t105 t107 _ A10.out).mono ?_); rintro e w' ⟨rfl, ⟨nd, rfl⟩⟩) | (go_at_call 14; (with_reducible refine (num_Zag.calls a1 t108 _ A12.out).mono ?_); rintro e w' ⟨rfl, ⟨nd, rfl⟩⟩) | (go_at_call 13; (with_reducible refine (pluvialref01_Zig.calls t108 t109 _ A13.out).mono ?_); rintro e w' ⟨rfl, ⟨nd, rfl⟩⟩) | (go_at_call 10; (with_reducible refine (num_Down.calls (Int.tmod a2 1099511627776) (IntKind.u64.wrap (wrap64 (Int.tmod a3 41))) t110 _ A15.out).mono ?_); rintro e w' ⟨rfl, ⟨nd, rfl⟩⟩) | (go_at_call 15; (with_reducible refine (pluvialref01_Down.calls k (Int.tmod a2 1099511627776) (wrap64 (Int.tmod a3 41)) t111 _ A16.out).mono ?_); rintro e w' ⟨rfl, ⟨nd, rfl⟩⟩))
            go_ret
            exact ⟨by first | rfl | (simp; done) | (simp [*]; done), by repeat (first | exact Drawn0.refl _ | apply Drawn0.step)⟩
        · rw [if_neg c14] at H
          have c14b0 : (t109 == a1) = false := beq_eq_false_iff_ne.mpr c14
          have c14b1 : (t109 != a1) = true := bne_iff_ne.mpr c14
          obtain rfl := Option.some.inj H
          go_enter Try.func4, Try.ntmps4
          go_wp2_with (first | ((with_reducible refine gate_callee (f := 11) rfl ?_); refine goesL_ (some 16) rfl rfl Try.func11 (by kernel_rfl) rfl #[] rfl (by (try simp only [List.map_toArray, List.map_cons, List.map_nil]); first | done | rfl | (simp only [List.length_drop, List.length_take]; rfl)) ?_; (with_reducible refine (pluviallaw01_awake.calls  true _ A5.out).mono ?_); rintro e w' ⟨rfl, ⟨nd, rfl⟩⟩; refine ⟨_, rfl, ?_⟩) | (go_at_call 12; (with_reducible refine (num_Zig.calls a0 t105 _ A7.out).mono ?_); rintro e w' ⟨rfl, ⟨nd, rfl⟩⟩) | (go_at_call 13; (with_reducible refine (pluvialref01_Zig.calls a0 t106 _ A8.out).mono ?_); rintro e w' ⟨rfl, ⟨nd, rfl⟩⟩) | (go_at_call 14; (with_reducible refine (num_Zag.calls t105 t107 _ A10.out).mono ?_); rintro e w' ⟨rfl, ⟨nd, rfl⟩⟩) | (go_at_call 14; (with_reducible refine (num_Zag.calls a1 t108 _ A12.out).mono ?_); rintro e w' ⟨rfl, ⟨nd, rfl⟩⟩) | (go_at_call 13; (with_reducible refine (pluvialref01_Zig.calls t108 t109 _ A13.out).mono ?_); rintro e w' ⟨rfl, ⟨nd, rfl⟩⟩))
          go_ret
          exact ⟨by first | rfl | (simp; done) | (simp [*]; done), by repeat (first | exact Drawn0.refl _ | apply Drawn0.step)⟩
      · rw [if_neg c11] at H
        have c11b0 : (t107 == a0) = false := beq_eq_false_iff_ne.mpr c11
        have c11b1 : (t107 != a0) = true := bne_iff_ne.mpr c11
        obtain rfl := Option.some.inj H
        go_enter Try.func4, Try.ntmps4
        go_wp2_with (first | ((with_reducible refine gate_callee (f := 11) rfl ?_); refine goesL_ (some 16) rfl rfl Try.func11 (by kernel_rfl) rfl #[] rfl (by (try simp only [List.map_toArray, List.map_cons, List.map_nil]); first | done | rfl | (simp only [List.length_drop, List.length_take]; rfl)) ?_; (with_reducible refine (pluviallaw01_awake.calls  true _ A5.out).mono ?_); rintro e w' ⟨rfl, ⟨nd, rfl⟩⟩; refine ⟨_, rfl, ?_⟩) | (go_at_call 12; (with_reducible refine (num_Zig.calls a0 t105 _ A7.out).mono ?_); rintro e w' ⟨rfl, ⟨nd, rfl⟩⟩) | (go_at_call 13; (with_reducible refine (pluvialref01_Zig.calls a0 t106 _ A8.out).mono ?_); rintro e w' ⟨rfl, ⟨nd, rfl⟩⟩) | (go_at_call 14; (with_reducible refine (num_Zag.calls t105 t107 _ A10.out).mono ?_); rintro e w' ⟨rfl, ⟨nd, rfl⟩⟩))
        go_ret
        exact ⟨by first | rfl | (simp; done) | (simp [*]; done), by repeat (first | exact Drawn0.refl _ | apply Drawn0.step)⟩
    · rw [if_neg c9] at H
      have c9b0 : (t105 == t106) = false := beq_eq_false_iff_ne.mpr c9
      have c9b1 : (t105 != t106) = true := bne_iff_ne.mpr c9
      obtain rfl := Option.some.inj H
      go_enter Try.func4, Try.ntmps4
      go_wp2_with (first | ((with_reducible refine gate_callee (f := 11) rfl ?_); refine goesL_ (some 16) rfl rfl Try.func11 (by kernel_rfl) rfl #[] rfl (by (try simp only [List.map_toArray, List.map_cons, List.map_nil]); first | done | rfl | (simp only [List.length_drop, List.length_take]; rfl)) ?_; (with_reducible refine (pluviallaw01_awake.calls  true _ A5.out).mono ?_); rintro e w' ⟨rfl, ⟨nd, rfl⟩⟩; refine ⟨_, rfl, ?_⟩) | (go_at_call 12; (with_reducible refine (num_Zig.calls a0 t105 _ A7.out).mono ?_); rintro e w' ⟨rfl, ⟨nd, rfl⟩⟩) | (go_at_call 13; (with_reducible refine (pluvialref01_Zig.calls a0 t106 _ A8.out).mono ?_); rintro e w' ⟨rfl, ⟨nd, rfl⟩⟩))
      go_ret
      exact ⟨by first | rfl | (simp; done) | (simp [*]; done), by repeat (first | exact Drawn0.refl _ | apply Drawn0.step)⟩
  · replace c6 := Bool.eq_false_iff.mpr c6
    subst c6
    have H1 : (some false) = some r := by rw [if_neg (show ¬ (false = true) by decide)] at H; exact H
    clear H
    have H := H1
    clear H1
    obtain rfl := Option.some.inj H
    go_enter Try.func4, Try.ntmps4
    go_wp2_with (first | ((with_reducible refine gate_callee (f := 11) rfl ?_); refine goesL_ (some 16) rfl rfl Try.func11 (by kernel_rfl) rfl #[] rfl (by (try simp only [List.map_toArray, List.map_cons, List.map_nil]); first | done | rfl | (simp only [List.length_drop, List.length_take]; rfl)) ?_; (with_reducible refine (pluviallaw01_awake.calls  false _ A5.out).mono ?_); rintro e w' ⟨rfl, ⟨nd, rfl⟩⟩; refine ⟨_, rfl, ?_⟩))
    go_ret
    exact ⟨by first | rfl | (simp; done) | (simp [*]; done), by repeat (first | exact Drawn0.refl _ | apply Drawn0.step)⟩

/-- THE ONE PURE STATEMENT of pluviallaw01_NumZigs: yours. -/
def pluviallaw01_NumZigs.Pure : Prop := ∀ (a0 : Int) (a1 : Int) (a2 : Int) (a3 : Int), (Lit.int .i64 a0).wf = true → (Lit.int .u64 a1).wf = true → (Lit.int .i64 a2).wf = true → (Lit.int .u8 a3).wf = true → ∃ k, pluviallaw01_NumZigs.f k a0 a1 a2 a3 = some true
theorem pluviallaw01_NumZigs.walk (P : pluviallaw01_NumZigs.Pure) (a0 : Int) (a1 : Int) (a2 : Int) (a3 : Int) (w : World) (w0 : (Lit.int .i64 a0).wf = true) (w1 : (Lit.int .u64 a1).wf = true) (w2 : (Lit.int .i64 a2).wf = true) (w3 : (Lit.int .u8 a3).wf = true) :
    Calls Try.prog 4 #[.int .i64 a0, .int .u64 a1, .int .i64 a2, .int .u8 a3] w fun e w' => e = .returned (.bool true) ∧ Below w.heap.size w w' := by
  obtain ⟨k, h⟩ := P a0 a1 a2 a3 w0 w1 w2 w3
  refine (pluviallaw01_NumZigs.calls k a0 a1 a2 a3 true w h).mono ?_
  rintro e w' ⟨rfl, hd⟩
  exact ⟨rfl, hd.below⟩

end Go.Proofs.Ytdonphglmeimbaa.QNumZigs
