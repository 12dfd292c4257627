-- Written by a program of the session (wip/xprint.sh, wip/xpatch.py; a variant of the print) out of the translation. Lean checks it.
import Derived.Test.YtdonphglmeimbaaQNumSumsx0
import Derived.Test.YtdonphglmeimbaaQNumSumsx1
namespace Go.Proofs.Ytdonphglmeimbaa.QNumSums
open Go.RowKit Go.Proofs.YtdonphglmeimbaaW.PrintWords Go.Proofs.YtdonphglmeimbaaW.PrintLast Go.Proofs.YtdonphglmeimbaaW.PrintMore
attribute [local go_sem] max2_int min2_int max_two min_two max_three min_three max_four min_four   -- for this text's walks alone
set_option linter.unusedVariables false
set_option linter.unusedSimpArgs false

/-! ### pluviallaw01_NumSums: function 6 -/
mutual
def pluviallaw01_NumSums.j0 : Nat → List Int → List Int → Int → Int → Int → Int → Bool → Option (Bool)
  | 0, _, _, _, _, _, _, _ => none
  | k + 1, x0, x1, x2, x3, x4, x5, x31 => if x31 = true then ((pluviallaw01_awake.f).bind fun t114 => (some t114)) else ((num_Add.f k x0).bind fun bt115 => ((pluvialref01_Add.f k x0).bind fun bt117 => (if bt115.1 = bt117.1 then (pluviallaw01_NumSums.j1 k x1 x2 x3 x4 x5 (bt115.2 != bt117.2)) else (pluviallaw01_NumSums.j1 k x1 x2 x3 x4 x5 true))))
def pluviallaw01_NumSums.j1 : Nat → List Int → Int → Int → Int → Int → Bool → Option (Bool)
  | 0, _, _, _, _, _, _ => none
  | k + 1, x1, x2, x3, x4, x5, x50 => if x50 = true then (some false) else ((num_AddInt.f k x1).bind fun bt119 => ((pluvialref01_AddInt.f k x1).bind fun bt121 => (if bt119.1 = bt121.1 then (pluviallaw01_NumSums.j2 k x2 x3 x4 x5 (bt119.2 != bt121.2)) else (pluviallaw01_NumSums.j2 k x2 x3 x4 x5 true))))
def pluviallaw01_NumSums.j2 : Nat → Int → Int → Int → Int → Bool → Option (Bool)
  | 0, _, _, _, _, _ => none
  | k + 1, x2, x3, x4, x5, x68 => if x68 = true then (some false) else ((num_Sub.f x2 x3).bind fun bt123 => (if x3 > x2 then (if bt123.1 = 0 then (if bt123.2 = 5 then (if x3 ≤ x2 then (if bt123.1 = (IntKind.u64.wrap (x2 - x3)) then (pluviallaw01_NumSums.j3 k x4 x5 (bt123.2 != 0)) else (pluviallaw01_NumSums.j3 k x4 x5 true)) else (pluviallaw01_NumSums.j3 k x4 x5 false)) else (pluviallaw01_NumSums.j3 k x4 x5 true)) else (pluviallaw01_NumSums.j3 k x4 x5 true)) else (if x3 ≤ x2 then (if bt123.1 = (IntKind.u64.wrap (x2 - x3)) then (pluviallaw01_NumSums.j3 k x4 x5 (bt123.2 != 0)) else (pluviallaw01_NumSums.j3 k x4 x5 true)) else (pluviallaw01_NumSums.j3 k x4 x5 false))))
def pluviallaw01_NumSums.j3 : Nat → Int → Int → Bool → Option (Bool)
  | 0, _, _, _ => none
  | k + 1, x4, x5, x101 => if x101 = true then (some false) else ((num_SubInt.f x4 x5).bind fun bt125 => (if x5 = (-9223372036854775808) then ((pluviallaw01_awake.f).bind fun t127 => (if t127 = true then (some ((bt125.2 == 0) == (decide (x4 < 0)))) else (some false))) else ((pluvialref01_AddInt.f k (([x4, wrap64 (-x5)] : List Int))).bind fun bt131 => ((pluviallaw01_awake.f).bind fun t133 => (if t133 = true then (if bt125.1 = bt131.1 then (some (bt125.2 == bt131.2)) else (some false)) else (some false))))))
end
def pluviallaw01_NumSums.f (k : Nat) (l0 : List Int) (l1 : List Int) (a2 : Int) (a3 : Int) (a4 : Int) (a5 : Int) : Option (Bool) := if (l0.length : Int) > 1000 then (pluviallaw01_NumSums.j0 k l0 l1 a2 a3 a4 a5 true) else (pluviallaw01_NumSums.j0 k l0 l1 a2 a3 a4 a5 (decide ((l1.length : Int) > 1000)))
theorem pluviallaw01_NumSums.mono_l : ∀ k, (∀ y0 y1 y2 y3 y4 y5 y6, LeO (pluviallaw01_NumSums.j0 k y0 y1 y2 y3 y4 y5 y6) (pluviallaw01_NumSums.j0 (k + 1) y0 y1 y2 y3 y4 y5 y6)) ∧ (∀ y0 y1 y2 y3 y4 y5, LeO (pluviallaw01_NumSums.j1 k y0 y1 y2 y3 y4 y5) (pluviallaw01_NumSums.j1 (k + 1) y0 y1 y2 y3 y4 y5)) ∧ (∀ y0 y1 y2 y3 y4, LeO (pluviallaw01_NumSums.j2 k y0 y1 y2 y3 y4) (pluviallaw01_NumSums.j2 (k + 1) y0 y1 y2 y3 y4)) ∧ (∀ y0 y1 y2, LeO (pluviallaw01_NumSums.j3 k y0 y1 y2) (pluviallaw01_NumSums.j3 (k + 1) y0 y1 y2))
  | 0 => ⟨fun _ _ _ _ _ _ _ r h => by simp [pluviallaw01_NumSums.j0] at h, fun _ _ _ _ _ _ r h => by simp [pluviallaw01_NumSums.j1] at h, fun _ _ _ _ _ r h => by simp [pluviallaw01_NumSums.j2] at h, fun _ _ _ r h => by simp [pluviallaw01_NumSums.j3] at h⟩
  | k + 1 => by
    obtain ⟨ih0, ih1, ih2, ih3⟩ := pluviallaw01_NumSums.mono_l k
    refine ⟨?_, ?_, ?_, ?_⟩
    · intro y0 y1 y2 y3 y4 y5 y6
      unfold pluviallaw01_NumSums.j0
      repeat' first
      | (with_reducible exact ih0 _ _ _ _ _ _ _)
      | (with_reducible exact ih1 _ _ _ _ _ _)
      | (with_reducible exact ih2 _ _ _ _ _)
      | (with_reducible exact ih3 _ _ _)
      | (with_reducible exact num_Add.mono _ _)
      | (with_reducible exact num_AddInt.mono _ _)
      | (with_reducible exact pluvialref01_Add.mono _ _)
      | (with_reducible exact pluvialref01_AddInt.mono _ _)
      | (with_reducible exact LeO.refl _)
      | (with_reducible exact LeO.none _)
      | (with_reducible refine LeO.ite ?_ ?_)
      | (with_reducible refine LeO.bind ?_ (fun _ => ?_))
      | exact ih0 _ _ _ _ _ _ _
      | exact ih1 _ _ _ _ _ _
      | exact ih2 _ _ _ _ _
      | exact ih3 _ _ _
      | exact num_Add.mono _ _
      | exact num_AddInt.mono _ _
      | exact pluvialref01_Add.mono _ _
      | exact pluvialref01_AddInt.mono _ _
      | exact LeO.none _
      | refine LeO.ite ?_ ?_
      | refine LeO.bind ?_ (fun _ => ?_)
    · intro y0 y1 y2 y3 y4 y5
      unfold pluviallaw01_NumSums.j1
      repeat' first
      | (with_reducible exact ih0 _ _ _ _ _ _ _)
      | (with_reducible exact ih1 _ _ _ _ _ _)
      | (with_reducible exact ih2 _ _ _ _ _)
      | (with_reducible exact ih3 _ _ _)
      | (with_reducible exact num_Add.mono _ _)
      | (with_reducible exact num_AddInt.mono _ _)
      | (with_reducible exact pluvialref01_Add.mono _ _)
      | (with_reducible exact pluvialref01_AddInt.mono _ _)
      | (with_reducible exact LeO.refl _)
      | (with_reducible exact LeO.none _)
      | (with_reducible refine LeO.ite ?_ ?_)
      | (with_reducible refine LeO.bind ?_ (fun _ => ?_))
      | exact ih0 _ _ _ _ _ _ _
      | exact ih1 _ _ _ _ _ _
      | exact ih2 _ _ _ _ _
      | exact ih3 _ _ _
      | exact num_Add.mono _ _
      | exact num_AddInt.mono _ _
      | exact pluvialref01_Add.mono _ _
      | exact pluvialref01_AddInt.mono _ _
      | exact LeO.none _
      | refine LeO.ite ?_ ?_
      | refine LeO.bind ?_ (fun _ => ?_)
    · intro y0 y1 y2 y3 y4
      unfold pluviallaw01_NumSums.j2
      repeat' first
      | (with_reducible exact ih0 _ _ _ _ _ _ _)
      | (with_reducible exact ih1 _ _ _ _ _ _)
      | (with_reducible exact ih2 _ _ _ _ _)
      | (with_reducible exact ih3 _ _ _)
      | (with_reducible exact num_Add.mono _ _)
      | (with_reducible exact num_AddInt.mono _ _)
      | (with_reducible exact pluvialref01_Add.mono _ _)
      | (with_reducible exact pluvialref01_AddInt.mono _ _)
      | (with_reducible exact LeO.refl _)
      | (with_reducible exact LeO.none _)
      | (with_reducible refine LeO.ite ?_ ?_)
      | (with_reducible refine LeO.bind ?_ (fun _ => ?_))
      | exact ih0 _ _ _ _ _ _ _
      | exact ih1 _ _ _ _ _ _
      | exact ih2 _ _ _ _ _
      | exact ih3 _ _ _
      | exact num_Add.mono _ _
      | exact num_AddInt.mono _ _
      | exact pluvialref01_Add.mono _ _
      | exact pluvialref01_AddInt.mono _ _
      | exact LeO.none _
      | refine LeO.ite ?_ ?_
      | refine LeO.bind ?_ (fun _ => ?_)
    · intro y0 y1 y2
      unfold pluviallaw01_NumSums.j3
      repeat' first
      | (with_reducible exact ih0 _ _ _ _ _ _ _)
      | (with_reducible exact ih1 _ _ _ _ _ _)
      | (with_reducible exact ih2 _ _ _ _ _)
      | (with_reducible exact ih3 _ _ _)
      | (with_reducible exact num_Add.mono _ _)
      | (with_reducible exact num_AddInt.mono _ _)
      | (with_reducible exact pluvialref01_Add.mono _ _)
      | (with_reducible exact pluvialref01_AddInt.mono _ _)
      | (with_reducible exact LeO.refl _)
      | (with_reducible exact LeO.none _)
      | (with_reducible refine LeO.ite ?_ ?_)
      | (with_reducible refine LeO.bind ?_ (fun _ => ?_))
      | exact ih0 _ _ _ _ _ _ _
      | exact ih1 _ _ _ _ _ _
      | exact ih2 _ _ _ _ _
      | exact ih3 _ _ _
      | exact num_Add.mono _ _
      | exact num_AddInt.mono _ _
      | exact pluvialref01_Add.mono _ _
      | exact pluvialref01_AddInt.mono _ _
      | exact LeO.none _
      | refine LeO.ite ?_ ?_
      | refine LeO.bind ?_ (fun _ => ?_)
theorem pluviallaw01_NumSums.mono : ∀ a0 a1 a2 a3 a4 a5 k, LeO (pluviallaw01_NumSums.f k a0 a1 a2 a3 a4 a5) (pluviallaw01_NumSums.f (k + 1) a0 a1 a2 a3 a4 a5) := by
  intro a0 a1 a2 a3 a4 a5 k
  obtain ⟨ih0, ih1, ih2, ih3⟩ := pluviallaw01_NumSums.mono_l k
  unfold pluviallaw01_NumSums.f
  repeat' first
      | (with_reducible exact ih0 _ _ _ _ _ _ _)
      | (with_reducible exact ih1 _ _ _ _ _ _)
      | (with_reducible exact ih2 _ _ _ _ _)
      | (with_reducible exact ih3 _ _ _)
      | (with_reducible exact num_Add.mono _ _)
      | (with_reducible exact num_AddInt.mono _ _)
      | (with_reducible exact pluvialref01_Add.mono _ _)
      | (with_reducible exact pluvialref01_AddInt.mono _ _)
      | (with_reducible exact LeO.refl _)
      | (with_reducible exact LeO.none _)
      | (with_reducible refine LeO.ite ?_ ?_)
      | (with_reducible refine LeO.bind ?_ (fun _ => ?_))
      | exact ih0 _ _ _ _ _ _ _
      | exact ih1 _ _ _ _ _ _
      | exact ih2 _ _ _ _ _
      | exact ih3 _ _ _
      | exact num_Add.mono _ _
      | exact num_AddInt.mono _ _
      | exact pluvialref01_Add.mono _ _
      | exact pluvialref01_AddInt.mono _ _
      | exact LeO.none _
      | refine LeO.ite ?_ ?_
      | refine LeO.bind ?_ (fun _ => ?_)
set_option maxHeartbeats 8000000 in
set_option maxRecDepth 100000 in
theorem pluviallaw01_NumSums.calls (k : Nat) (A0 : Option Addr) (c0 : Nat) (l0 : List Int) (A1 : Option Addr) (c1 : Nat) (l1 : List Int) (a2 : Int) (a3 : Int) (a4 : Int) (a5 : Int) (r : Bool) (w : World) (hr0 : Kd.C (Kd.int .u64) w A0 l0.length l0) (hc0 : l0.length ≤ c0) (hr1 : Kd.C (Kd.int .i64) w A1 l1.length l1) (hc1 : l1.length ≤ c1) (h : pluviallaw01_NumSums.f k l0 l1 a2 a3 a4 a5 = some r) :
    Calls Try.prog 6 #[.slice A0 l0.length c0, .slice A1 l1.length c1, .int .u64 a2, .int .u64 a3, .int .i64 a4, .int .i64 a5] w fun e w' => e = .returned (.bool r) ∧ Below w.heap.size w w' := by
  have HR0 := Aside0.mk hr0
  have HC0 := Aside0.mk hc0
  clear hr0 hc0
  have HR1 := Aside0.mk hr1
  have HC1 := Aside0.mk hc1
  clear hr1 hc1
  have HB := Aside0.mk (Below.refl w.heap.size w)
  have H : (if (l0.length : Int) > 1000 then (pluviallaw01_NumSums.j0 k l0 l1 a2 a3 a4 a5 true) else (pluviallaw01_NumSums.j0 k l0 l1 a2 a3 a4 a5 (decide ((l1.length : Int) > 1000)))) = some r := h
  clear h
  have HC7 := Aside0.mk H
  clear H
  go_enter Try.func6, Try.ntmps6
  go_upto_region 1 with (fail)
  go_cut [31] (fun v31 wc => ∃ (kq : Nat) (x31_6 : Bool), v31 = .bool x31_6 ∧ Aside0 (pluviallaw01_NumSums.j0 kq l0 l1 a2 a3 a4 a5 x31_6 = some r) ∧ Aside0 (kq ≤ k) ∧ Aside0 (Below w.heap.size w wc))
  case first =>
    have H := HC7.out
    clear HC7
    by_cases c8 : (l0.length : Int) > 1000
    · rw [if_pos c8] at H
      have c8b0 : decide (1000 < (l0.length : Int)) = true := decide_eq_true c8
      have c8b1 : decide (1000 < l0.length) = true := decide_eq_true (by omega)
      clear c8
      (first | rw [c8b0] | (simp only [i64_w, i32_w]; rw [c8b0]) | skip)
      have H' := Aside0.mk H
      clear H
      go_wp2
      go_meet
      case rel => exact ⟨_, (true), (by first | rfl | (simp; done) | (simp [*]; done)), H', ⟨by first | omega | exact Nat.le_refl _⟩, ⟨by repeat (first | (with_reducible first | exact HB.out | apply below_alloc | apply pw_below_drewN | apply below_drew1) | exact HB.out)⟩⟩
    · rw [if_neg c8] at H
      have c8b0 : decide (1000 < (l0.length : Int)) = false := decide_eq_false c8
      have c8b1 : decide (1000 < l0.length) = false := decide_eq_false (by omega)
      clear c8
      (first | rw [c8b0] | (simp only [i64_w, i32_w]; rw [c8b0]) | skip)
      have H' := Aside0.mk H
      clear H
      go_wp2
      go_meet
      case rel => exact ⟨_, (decide ((l1.length : Int) > 1000)), (by first | rfl | (simp; done) | (simp [*]; done)), H', ⟨by first | omega | exact Nat.le_refl _⟩, ⟨by repeat (first | (with_reducible first | exact HB.out | apply below_alloc | apply pw_below_drewN | apply below_drew1) | exact HB.out)⟩⟩
  case rest =>
    clear HC7
    try clear c1
    try clear p2
    try clear c6
    try clear c8
    try clear c8b0
    try clear c8b1
    obtain ⟨kq, x31_6, rfl, HA, HJ6, HB⟩ := hcut
    cases kq with
    | zero => exact absurd HA.out (by simp [pluviallaw01_NumSums.j0])
    | succ kj6 =>
      have H := HA.out
      clear HA
      simp only [pluviallaw01_NumSums.j0] at H
      by_cases c9 : x31_6 = true
      · subst c9
        have H1 : ((pluviallaw01_awake.f).bind fun t114 => (some t114)) = some r := by rw [if_pos rfl] at H; exact H
        clear H
        have H := H1
        clear H1
        replace H := Option.bind_eq_some_iff.mp H
        obtain ⟨t114, A100, H⟩ := H
        replace H : (some t114) = some r := H
        have A10 := Aside0.mk A100
        clear A100
        obtain rfl := Option.some.inj H
        go_wp2_with (first | (go_at_call 11; (with_reducible refine (pluviallaw01_awake.calls  t114 _ A10.out).mono ?_); rintro e w' ⟨rfl, ⟨nd, rfl⟩⟩))
        go_ret
        exact ⟨by first | rfl | (simp [errW_none, errW_some] <;> rfl) | (simp [*, errW_none, errW_some] <;> rfl), by repeat (first | (with_reducible first | exact HB.out | apply below_alloc | apply pw_below_drewN | apply below_drew1) | exact HB.out)⟩
      · replace c9 := Bool.eq_false_iff.mpr c9
        subst c9
        have H1 : ((num_Add.f kj6 l0).bind fun bt115 => ((pluvialref01_Add.f kj6 l0).bind fun bt117 => (if bt115.1 = bt117.1 then (pluviallaw01_NumSums.j1 kj6 l1 a2 a3 a4 a5 (bt115.2 != bt117.2)) else (pluviallaw01_NumSums.j1 kj6 l1 a2 a3 a4 a5 true)))) = some r := by rw [if_neg (show ¬ (false = true) by decide)] at H; exact H
        clear H
        have H := H1
        clear H1
        replace H := Option.bind_eq_some_iff.mp H
        obtain ⟨⟨t115, t116⟩, A110, H⟩ := H
        replace H : ((pluvialref01_Add.f kj6 l0).bind fun bt117 => (if t115 = bt117.1 then (pluviallaw01_NumSums.j1 kj6 l1 a2 a3 a4 a5 (t116 != bt117.2)) else (pluviallaw01_NumSums.j1 kj6 l1 a2 a3 a4 a5 true))) = some r := H
        have A11 := Aside0.mk A110
        clear A110
        replace H := Option.bind_eq_some_iff.mp H
        obtain ⟨⟨t117, t118⟩, A120, H⟩ := H
        replace H : (if t115 = t117 then (pluviallaw01_NumSums.j1 kj6 l1 a2 a3 a4 a5 (t116 != t118)) else (pluviallaw01_NumSums.j1 kj6 l1 a2 a3 a4 a5 true)) = some r := H
        have A12 := Aside0.mk A120
        clear A120
        have HC13 := Aside0.mk H
        clear H
        go_upto_region 5 with (first | (go_at_call 22; (with_reducible refine (num_Add.calls kj6 _ _ l0 t115 t116 _ ?side1 ?side2 A11.out).mono ?_); (case side1 => repeat (first | exact (Kd.C_below HR0.out HB.out) | (with_reducible refine Kd.C_alloc ?_ _) | (with_reducible refine Kd.C_drewN ?_ _) | (with_reducible refine Kd.C_drew ?_))); (case side2 => exact HC0.out); rintro e w' ⟨rfl, ⟨nd, rfl⟩⟩) | (go_at_call 23; (with_reducible refine (pluvialref01_Add.calls kj6 _ _ l0 t117 t118 _ ?side1 ?side2 A12.out).mono ?_); (case side1 => repeat (first | exact (Kd.C_below HR0.out (by repeat (first | (with_reducible first | exact HB.out | apply below_alloc | apply pw_below_drewN | apply below_drew1) | exact HB.out))) | (with_reducible refine Kd.C_alloc ?_ _) | (with_reducible refine Kd.C_drewN ?_ _) | (with_reducible refine Kd.C_drew ?_))); (case side2 => exact HC0.out); rintro e w' ⟨rfl, ⟨nd, rfl⟩⟩))
        (try simp only [Act.put, List.setIfInBounds_toArray, List.set_cons_zero, List.set_cons_succ])
        go_cut [50] (fun v50 wc => ∃ (kq : Nat) (x50_12 : Bool), v50 = .bool x50_12 ∧ Aside0 (pluviallaw01_NumSums.j1 kq l1 a2 a3 a4 a5 x50_12 = some r) ∧ Aside0 (kq ≤ kj6) ∧ Aside0 (Below w.heap.size w wc))
        case first =>
          have H := HC13.out
          clear HC13
          by_cases c14 : t115 = t117
          · rw [if_pos c14] at H
            have c14b0 : (t115 == t117) = true := beq_iff_eq.mpr c14
            have c14b1 : (t115 != t117) = false := bne_eq_false_iff_eq.mpr c14
            clear c14
            (first | rw [c14b0] | (simp only [i64_w, i32_w]; rw [c14b0]) | skip)
            have H' := Aside0.mk H
            clear H
            go_wp2
            go_meet
            case rel => exact ⟨_, ((t116 != t118)), (by first | rfl | (simp; done) | (simp [*]; done)), H', ⟨by have := HJ6.out; first | omega | exact Nat.le_refl _⟩, ⟨by repeat (first | (with_reducible first | exact HB.out | apply below_alloc | apply pw_below_drewN | apply below_drew1) | exact HB.out)⟩⟩
          · rw [if_neg c14] at H
            have c14b0 : (t115 == t117) = false := beq_eq_false_iff_ne.mpr c14
            have c14b1 : (t115 != t117) = true := bne_iff_ne.mpr c14
            (first | rw [c14b0] | (simp only [i64_w, i32_w]; rw [c14b0]) | skip)
            have H' := Aside0.mk H
            clear H
            go_wp2
            go_meet
            case rel => exact ⟨_, (true), (by first | rfl | (simp; done) | (simp [*]; done)), H', ⟨by have := HJ6.out; first | omega | exact Nat.le_refl _⟩, ⟨by repeat (first | (with_reducible first | exact HB.out | apply below_alloc | apply pw_below_drewN | apply below_drew1) | exact HB.out)⟩⟩
        case rest =>
          clear HC13
          try clear c1
          try clear p2
          try clear c6
          try clear c8
          try clear c8b0
          try clear c8b1
          try clear c9
          try clear c14
          try clear c14b0
          try clear c14b1
          try clear p2
          obtain ⟨kq, x50_12, rfl, HA, HJ12, HB⟩ := hcut
          cases kq with
          | zero => exact absurd HA.out (by simp [pluviallaw01_NumSums.j1])
          | succ kj12 =>
            have H := HA.out
            clear HA
            simp only [pluviallaw01_NumSums.j1] at H
            by_cases c15 : x50_12 = true
            · subst c15
              have H1 : (some false) = some r := by rw [if_pos rfl] at H; exact H
              clear H
              have H := H1
              clear H1
              obtain rfl := Option.some.inj H
              go_wp2
              go_ret
              exact ⟨by first | rfl | (simp [errW_none, errW_some] <;> rfl) | (simp [*, errW_none, errW_some] <;> rfl), by repeat (first | (with_reducible first | exact HB.out | apply below_alloc | apply pw_below_drewN | apply below_drew1) | exact HB.out)⟩
            · replace c15 := Bool.eq_false_iff.mpr c15
              subst c15
              have H1 : ((num_AddInt.f kj12 l1).bind fun bt119 => ((pluvialref01_AddInt.f kj12 l1).bind fun bt121 => (if bt119.1 = bt121.1 then (pluviallaw01_NumSums.j2 kj12 a2 a3 a4 a5 (bt119.2 != bt121.2)) else (pluviallaw01_NumSums.j2 kj12 a2 a3 a4 a5 true)))) = some r := by rw [if_neg (show ¬ (false = true) by decide)] at H; exact H
              clear H
              have H := H1
              clear H1
              replace H := Option.bind_eq_some_iff.mp H
              obtain ⟨⟨t119, t120⟩, A160, H⟩ := H
              replace H : ((pluvialref01_AddInt.f kj12 l1).bind fun bt121 => (if t119 = bt121.1 then (pluviallaw01_NumSums.j2 kj12 a2 a3 a4 a5 (t120 != bt121.2)) else (pluviallaw01_NumSums.j2 kj12 a2 a3 a4 a5 true))) = some r := H
              have A16 := Aside0.mk A160
              clear A160
              replace H := Option.bind_eq_some_iff.mp H
              obtain ⟨⟨t121, t122⟩, A170, H⟩ := H
              replace H : (if t119 = t121 then (pluviallaw01_NumSums.j2 kj12 a2 a3 a4 a5 (t120 != t122)) else (pluviallaw01_NumSums.j2 kj12 a2 a3 a4 a5 true)) = some r := H
              have A17 := Aside0.mk A170
              clear A170
              have HC18 := Aside0.mk H
              clear H
              go_upto_region 9 with (first | (go_at_call 24; (with_reducible refine (num_AddInt.calls kj12 _ _ l1 t119 t120 _ ?side1 ?side2 A16.out).mono ?_); (case side1 => repeat (first | exact (Kd.C_below HR1.out HB.out) | (with_reducible refine Kd.C_alloc ?_ _) | (with_reducible refine Kd.C_drewN ?_ _) | (with_reducible refine Kd.C_drew ?_))); (case side2 => exact HC1.out); rintro e w' ⟨rfl, ⟨nd, rfl⟩⟩) | (go_at_call 25; (with_reducible refine (pluvialref01_AddInt.calls kj12 _ _ l1 t121 t122 _ ?side1 ?side2 A17.out).mono ?_); (case side1 => repeat (first | exact (Kd.C_below HR1.out (by repeat (first | (with_reducible first | exact HB.out | apply below_alloc | apply pw_below_drewN | apply below_drew1) | exact HB.out))) | (with_reducible refine Kd.C_alloc ?_ _) | (with_reducible refine Kd.C_drewN ?_ _) | (with_reducible refine Kd.C_drew ?_))); (case side2 => exact HC1.out); rintro e w' ⟨rfl, ⟨nd, rfl⟩⟩))
              (try simp only [Act.put, List.setIfInBounds_toArray, List.set_cons_zero, List.set_cons_succ])
              go_cut [68] (fun v68 wc => ∃ (kq : Nat) (x68_17 : Bool), v68 = .bool x68_17 ∧ Aside0 (pluviallaw01_NumSums.j2 kq a2 a3 a4 a5 x68_17 = some r) ∧ Aside0 (kq ≤ kj12) ∧ Aside0 (Below w.heap.size w wc))
              case first =>
                have H := HC18.out
                clear HC18
                by_cases c19 : t119 = t121
                · rw [if_pos c19] at H
                  have c19b0 : (t119 == t121) = true := beq_iff_eq.mpr c19
                  have c19b1 : (t119 != t121) = false := bne_eq_false_iff_eq.mpr c19
                  clear c19
                  (first | rw [c19b0] | (simp only [i64_w, i32_w]; rw [c19b0]) | skip)
                  have H' := Aside0.mk H
                  clear H
                  go_wp2
                  go_meet
                  case rel => exact ⟨_, ((t120 != t122)), (by first | rfl | (simp; done) | (simp [*]; done)), H', ⟨by have := HJ6.out; have := HJ12.out; first | omega | exact Nat.le_refl _⟩, ⟨by repeat (first | (with_reducible first | exact HB.out | apply below_alloc | apply pw_below_drewN | apply below_drew1) | exact HB.out)⟩⟩
                · rw [if_neg c19] at H
                  have c19b0 : (t119 == t121) = false := beq_eq_false_iff_ne.mpr c19
                  have c19b1 : (t119 != t121) = true := bne_iff_ne.mpr c19
                  (first | rw [c19b0] | (simp only [i64_w, i32_w]; rw [c19b0]) | skip)
                  have H' := Aside0.mk H
                  clear H
                  go_wp2
                  go_meet
                  case rel => exact ⟨_, (true), (by first | rfl | (simp; done) | (simp [*]; done)), H', ⟨by have := HJ6.out; have := HJ12.out; first | omega | exact Nat.le_refl _⟩, ⟨by repeat (first | (with_reducible first | exact HB.out | apply below_alloc | apply pw_below_drewN | apply below_drew1) | exact HB.out)⟩⟩
              case rest =>
                clear HC18
                try clear c1
                try clear p2
                try clear c6
                try clear c8
                try clear c8b0
                try clear c8b1
                try clear c9
                try clear c14
                try clear c14b0
                try clear c14b1
                try clear c15
                try clear c19
                try clear c19b0
                try clear c19b1
                try clear p2
                obtain ⟨kq, x68_17, rfl, HA, HJ17, HB⟩ := hcut
                cases kq with
                | zero => exact absurd HA.out (by simp [pluviallaw01_NumSums.j2])
                | succ kj17 =>
                  have H := HA.out
                  clear HA
                  simp only [pluviallaw01_NumSums.j2] at H
                  by_cases c20 : x68_17 = true
                  · subst c20
                    have H1 : (some false) = some r := by rw [if_pos rfl] at H; exact H
                    clear H
                    have H := H1
                    clear H1
                    obtain rfl := Option.some.inj H
                    go_wp2
                    go_ret
                    exact ⟨by first | rfl | (simp [errW_none, errW_some] <;> rfl) | (simp [*, errW_none, errW_some] <;> rfl), by repeat (first | (with_reducible first | exact HB.out | apply below_alloc | apply pw_below_drewN | apply below_drew1) | exact HB.out)⟩
                  · replace c20 := Bool.eq_false_iff.mpr c20
                    subst c20
                    have H1 : ((num_Sub.f a2 a3).bind fun bt123 => (if a3 > a2 then (if bt123.1 = 0 then (if bt123.2 = 5 then (if a3 ≤ a2 then (if bt123.1 = (IntKind.u64.wrap (a2 - a3)) then (pluviallaw01_NumSums.j3 kj17 a4 a5 (bt123.2 != 0)) else (pluviallaw01_NumSums.j3 kj17 a4 a5 true)) else (pluviallaw01_NumSums.j3 kj17 a4 a5 false)) else (pluviallaw01_NumSums.j3 kj17 a4 a5 true)) else (pluviallaw01_NumSums.j3 kj17 a4 a5 true)) else (if a3 ≤ a2 then (if bt123.1 = (IntKind.u64.wrap (a2 - a3)) then (pluviallaw01_NumSums.j3 kj17 a4 a5 (bt123.2 != 0)) else (pluviallaw01_NumSums.j3 kj17 a4 a5 true)) else (pluviallaw01_NumSums.j3 kj17 a4 a5 false)))) = some r := by rw [if_neg (show ¬ (false = true) by decide)] at H; exact H
                    clear H
                    have H := H1
                    clear H1
                    replace H := Option.bind_eq_some_iff.mp H
                    obtain ⟨⟨t123, t124⟩, A210, H⟩ := H
                    replace H : (if a3 > a2 then (if t123 = 0 then (if t124 = 5 then (if a3 ≤ a2 then (if t123 = (IntKind.u64.wrap (a2 - a3)) then (pluviallaw01_NumSums.j3 kj17 a4 a5 (t124 != 0)) else (pluviallaw01_NumSums.j3 kj17 a4 a5 true)) else (pluviallaw01_NumSums.j3 kj17 a4 a5 false)) else (pluviallaw01_NumSums.j3 kj17 a4 a5 true)) else (pluviallaw01_NumSums.j3 kj17 a4 a5 true)) else (if a3 ≤ a2 then (if t123 = (IntKind.u64.wrap (a2 - a3)) then (pluviallaw01_NumSums.j3 kj17 a4 a5 (t124 != 0)) else (pluviallaw01_NumSums.j3 kj17 a4 a5 true)) else (pluviallaw01_NumSums.j3 kj17 a4 a5 false))) = some r := H
                    have A21 := Aside0.mk A210
                    clear A210
                    have HC22 := Aside0.mk H
                    clear H
                    go_upto_region 12 with (first | (go_at_call 26; (with_reducible refine (num_Sub.calls a2 a3 t123 t124 _ A21.out).mono ?_); rintro e w' ⟨rfl, ⟨nd, rfl⟩⟩))
                    (try simp only [Act.put, List.setIfInBounds_toArray, List.set_cons_zero, List.set_cons_succ])
                    go_cut [101] (fun v101 wc => ∃ (kq : Nat) (x101_21 : Bool), v101 = .bool x101_21 ∧ Aside0 (pluviallaw01_NumSums.j3 kq a4 a5 x101_21 = some r) ∧ Aside0 (kq ≤ kj17) ∧ Aside0 (Below w.heap.size w wc))
                    case first =>
                      have H := HC22.out
                      clear HC22
                      by_cases c23 : a3 > a2
                      · rw [if_pos c23] at H
                        have c23b0 : decide (a2 < a3) = true := decide_eq_true c23
                        clear c23
                        (first | rw [c23b0] | (simp only [i64_w, i32_w]; rw [c23b0]) | skip)
                        by_cases c24 : t123 = 0
                        · rw [if_pos c24] at H
                          have c24b0 : (t123 == 0) = true := beq_iff_eq.mpr c24
                          have c24b1 : (t123 != 0) = false := bne_eq_false_iff_eq.mpr c24
                          clear c24
                          by_cases c25 : t124 = 5
                          · rw [if_pos c25] at H
                            have c25b0 : (t124 == 5) = true := beq_iff_eq.mpr c25
                            have c25b1 : (t124 != 5) = false := bne_eq_false_iff_eq.mpr c25
                            clear c25
                            by_cases c26 : a3 ≤ a2
                            · rw [if_pos c26] at H
                              have c26b0 : decide (a3 ≤ a2) = true := decide_eq_true c26
                              clear c26
                              by_cases c27 : t123 = (IntKind.u64.wrap (a2 - a3))
                              · rw [if_pos c27] at H
                                have c27b0 : (t123 == (IntKind.u64.wrap (a2 - a3))) = true := beq_iff_eq.mpr c27
                                have c27b1 : (t123 != (IntKind.u64.wrap (a2 - a3))) = false := bne_eq_false_iff_eq.mpr c27
                                clear c27
                                have H' := Aside0.mk H
                                clear H
                                go_wp2
                                go_meet
                                case rel => exact ⟨_, ((t124 != 0)), (by first | rfl | (simp; done) | (simp [*]; done)), H', ⟨by have := HJ6.out; have := HJ12.out; have := HJ17.out; first | omega | exact Nat.le_refl _⟩, ⟨by repeat (first | (with_reducible first | exact HB.out | apply below_alloc | apply pw_below_drewN | apply below_drew1) | exact HB.out)⟩⟩
                              · rw [if_neg c27] at H
                                have c27b0 : (t123 == (IntKind.u64.wrap (a2 - a3))) = false := beq_eq_false_iff_ne.mpr c27
                                have c27b1 : (t123 != (IntKind.u64.wrap (a2 - a3))) = true := bne_iff_ne.mpr c27
                                have H' := Aside0.mk H
                                clear H
                                go_wp2
                                go_meet
                                case rel => exact ⟨_, (true), (by first | rfl | (simp; done) | (simp [*]; done)), H', ⟨by have := HJ6.out; have := HJ12.out; have := HJ17.out; first | omega | exact Nat.le_refl _⟩, ⟨by repeat (first | (with_reducible first | exact HB.out | apply below_alloc | apply pw_below_drewN | apply below_drew1) | exact HB.out)⟩⟩
                            · rw [if_neg c26] at H
                              have c26b0 : decide (a3 ≤ a2) = false := decide_eq_false c26
                              clear c26
                              have H' := Aside0.mk H
                              clear H
                              go_wp2
                              go_meet
                              case rel => exact ⟨_, (false), (by first | rfl | (simp; done) | (simp [*]; done)), H', ⟨by have := HJ6.out; have := HJ12.out; have := HJ17.out; first | omega | exact Nat.le_refl _⟩, ⟨by repeat (first | (with_reducible first | exact HB.out | apply below_alloc | apply pw_below_drewN | apply below_drew1) | exact HB.out)⟩⟩
                          · rw [if_neg c25] at H
                            have c25b0 : (t124 == 5) = false := beq_eq_false_iff_ne.mpr c25
                            have c25b1 : (t124 != 5) = true := bne_iff_ne.mpr c25
                            have H' := Aside0.mk H
                            clear H
                            go_wp2
                            go_meet
                            case rel => exact ⟨_, (true), (by first | rfl | (simp; done) | (simp [*]; done)), H', ⟨by have := HJ6.out; have := HJ12.out; have := HJ17.out; first | omega | exact Nat.le_refl _⟩, ⟨by repeat (first | (with_reducible first | exact HB.out | apply below_alloc | apply pw_below_drewN | apply below_drew1) | exact HB.out)⟩⟩
                        · rw [if_neg c24] at H
                          have c24b0 : (t123 == 0) = false := beq_eq_false_iff_ne.mpr c24
                          have c24b1 : (t123 != 0) = true := bne_iff_ne.mpr c24
                          have H' := Aside0.mk H
                          clear H
                          go_wp2
                          go_meet
                          case rel => exact ⟨_, (true), (by first | rfl | (simp; done) | (simp [*]; done)), H', ⟨by have := HJ6.out; have := HJ12.out; have := HJ17.out; first | omega | exact Nat.le_refl _⟩, ⟨by repeat (first | (with_reducible first | exact HB.out | apply below_alloc | apply pw_below_drewN | apply below_drew1) | exact HB.out)⟩⟩
                      · rw [if_neg c23] at H
                        have c23b0 : decide (a2 < a3) = false := decide_eq_false c23
                        clear c23
                        (first | rw [c23b0] | (simp only [i64_w, i32_w]; rw [c23b0]) | skip)
                        by_cases c28 : a3 ≤ a2
                        · rw [if_pos c28] at H
                          have c28b0 : decide (a3 ≤ a2) = true := decide_eq_true c28
                          clear c28
                          by_cases c29 : t123 = (IntKind.u64.wrap (a2 - a3))
                          · rw [if_pos c29] at H
                            have c29b0 : (t123 == (IntKind.u64.wrap (a2 - a3))) = true := beq_iff_eq.mpr c29
                            have c29b1 : (t123 != (IntKind.u64.wrap (a2 - a3))) = false := bne_eq_false_iff_eq.mpr c29
                            clear c29
                            have H' := Aside0.mk H
                            clear H
                            go_wp2
                            go_meet
                            case rel => exact ⟨_, ((t124 != 0)), (by first | rfl | (simp; done) | (simp [*]; done)), H', ⟨by have := HJ6.out; have := HJ12.out; have := HJ17.out; first | omega | exact Nat.le_refl _⟩, ⟨by repeat (first | (with_reducible first | exact HB.out | apply below_alloc | apply pw_below_drewN | apply below_drew1) | exact HB.out)⟩⟩
                          · rw [if_neg c29] at H
                            have c29b0 : (t123 == (IntKind.u64.wrap (a2 - a3))) = false := beq_eq_false_iff_ne.mpr c29
                            have c29b1 : (t123 != (IntKind.u64.wrap (a2 - a3))) = true := bne_iff_ne.mpr c29
                            have H' := Aside0.mk H
                            clear H
                            go_wp2
                            go_meet
                            case rel => exact ⟨_, (true), (by first | rfl | (simp; done) | (simp [*]; done)), H', ⟨by have := HJ6.out; have := HJ12.out; have := HJ17.out; first | omega | exact Nat.le_refl _⟩, ⟨by repeat (first | (with_reducible first | exact HB.out | apply below_alloc | apply pw_below_drewN | apply below_drew1) | exact HB.out)⟩⟩
                        · rw [if_neg c28] at H
                          have c28b0 : decide (a3 ≤ a2) = false := decide_eq_false c28
                          clear c28
                          have H' := Aside0.mk H
                          clear H
                          go_wp2
                          go_meet
                          case rel => exact ⟨_, (false), (by first | rfl | (simp; done) | (simp [*]; done)), H', ⟨by have := HJ6.out; have := HJ12.out; have := HJ17.out; first | omega | exact Nat.le_refl _⟩, ⟨by repeat (first | (with_reducible first | exact HB.out | apply below_alloc | apply pw_below_drewN | apply below_drew1) | exact HB.out)⟩⟩
                    case rest =>
                      clear HC22
                      try clear c1
                      try clear c2
                      try clear p2
                      try clear c6
                      try clear c8
                      try clear c8b0
                      try clear c8b1
                      try clear c9
                      try clear c14
                      try clear c14b0
                      try clear c14b1
                      try clear c15
                      try clear c19
                      try clear c19b0
                      try clear c19b1
                      try clear c20
                      try clear c23
                      try clear c23b0
                      try clear c24
                      try clear c24b0
                      try clear c24b1
                      try clear c25
                      try clear c25b0
                      try clear c25b1
                      try clear c26
                      try clear c26b0
                      try clear c27
                      try clear c27b0
                      try clear c27b1
                      try clear c28
                      try clear c28b0
                      try clear c29
                      try clear c29b0
                      try clear c29b1
                      try clear p2
                      obtain ⟨kq, x101_21, rfl, HA, HJ21, HB⟩ := hcut
                      cases kq with
                      | zero => exact absurd HA.out (by simp [pluviallaw01_NumSums.j3])
                      | succ kj21 =>
                        have H := HA.out
                        clear HA
                        simp only [pluviallaw01_NumSums.j3] at H
                        by_cases c30 : x101_21 = true
                        · subst c30
                          have H1 : (some false) = some r := by rw [if_pos rfl] at H; exact H
                          clear H
                          have H := H1
                          clear H1
                          obtain rfl := Option.some.inj H
                          go_wp2
                          go_ret
                          exact ⟨by first | rfl | (simp [errW_none, errW_some] <;> rfl) | (simp [*, errW_none, errW_some] <;> rfl), by repeat (first | (with_reducible first | exact HB.out | apply below_alloc | apply pw_below_drewN | apply below_drew1) | exact HB.out)⟩
                        · replace c30 := Bool.eq_false_iff.mpr c30
                          subst c30
                          have H1 : ((num_SubInt.f a4 a5).bind fun bt125 => (if a5 = (-9223372036854775808) then ((pluviallaw01_awake.f).bind fun t127 => (if t127 = true then (some ((bt125.2 == 0) == (decide (a4 < 0)))) else (some false))) else ((pluvialref01_AddInt.f kj21 (([a4, wrap64 (-a5)] : List Int))).bind fun bt131 => ((pluviallaw01_awake.f).bind fun t133 => (if t133 = true then (if bt125.1 = bt131.1 then (some (bt125.2 == bt131.2)) else (some false)) else (some false)))))) = some r := by rw [if_neg (show ¬ (false = true) by decide)] at H; exact H
                          clear H
                          have H := H1
                          clear H1
                          replace H := Option.bind_eq_some_iff.mp H
                          obtain ⟨⟨t125, t126⟩, A310, H⟩ := H
                          replace H : (if a5 = (-9223372036854775808) then ((pluviallaw01_awake.f).bind fun t127 => (if t127 = true then (some ((t126 == 0) == (decide (a4 < 0)))) else (some false))) else ((pluvialref01_AddInt.f kj21 (([a4, wrap64 (-a5)] : List Int))).bind fun bt131 => ((pluviallaw01_awake.f).bind fun t133 => (if t133 = true then (if t125 = bt131.1 then (some (t126 == bt131.2)) else (some false)) else (some false))))) = some r := H
                          have A31 := Aside0.mk A310
                          clear A310
                          by_cases c32 : a5 = (-9223372036854775808)
                          · rw [if_pos c32] at H
                            have c32b0 : (a5 == (-9223372036854775808)) = true := beq_iff_eq.mpr c32
                            have c32b1 : (a5 != (-9223372036854775808)) = false := bne_eq_false_iff_eq.mpr c32
                            clear c32
                            replace H := Option.bind_eq_some_iff.mp H
                            obtain ⟨t127, A330, H⟩ := H
                            replace H : (if t127 = true then (some ((t126 == 0) == (decide (a4 < 0)))) else (some false)) = some r := H
                            have A33 := Aside0.mk A330
                            clear A330
                            by_cases c34 : t127 = true
                            · subst c34
                              have H1 : (some ((t126 == 0) == (decide (a4 < 0)))) = some r := by rw [if_pos rfl] at H; exact H
                              clear H
                              have H := H1
                              clear H1
                              obtain rfl := Option.some.inj H
                              go_wp2_with (first | (go_at_call 27; (with_reducible refine (num_SubInt.calls a4 a5 t125 t126 _ A31.out).mono ?_); rintro e w' ⟨rfl, ⟨nd, rfl⟩⟩) | (go_at_call 11; (with_reducible refine (pluviallaw01_awake.calls  true _ A33.out).mono ?_); rintro e w' ⟨rfl, ⟨nd, rfl⟩⟩))
                              go_ret
                              exact ⟨by first | rfl | (simp [errW_none, errW_some] <;> rfl) | (simp [*, errW_none, errW_some] <;> rfl), by repeat (first | (with_reducible first | exact HB.out | apply below_alloc | apply pw_below_drewN | apply below_drew1) | exact HB.out)⟩
                            · replace c34 := Bool.eq_false_iff.mpr c34
                              subst c34
                              have H1 : (some false) = some r := by rw [if_neg (show ¬ (false = true) by decide)] at H; exact H
                              clear H
                              have H := H1
                              clear H1
                              obtain rfl := Option.some.inj H
                              go_wp2_with (first | (go_at_call 27; (with_reducible refine (num_SubInt.calls a4 a5 t125 t126 _ A31.out).mono ?_); rintro e w' ⟨rfl, ⟨nd, rfl⟩⟩) | (go_at_call 11; (with_reducible refine (pluviallaw01_awake.calls  false _ A33.out).mono ?_); rintro e w' ⟨rfl, ⟨nd, rfl⟩⟩))
                              go_ret
                              exact ⟨by first | rfl | (simp [errW_none, errW_some] <;> rfl) | (simp [*, errW_none, errW_some] <;> rfl), by repeat (first | (with_reducible first | exact HB.out | apply below_alloc | apply pw_below_drewN | apply below_drew1) | exact HB.out)⟩
                          · rw [if_neg c32] at H
                            have c32b0 : (a5 == (-9223372036854775808)) = false := beq_eq_false_iff_ne.mpr c32
                            have c32b1 : (a5 != (-9223372036854775808)) = true := bne_iff_ne.mpr c32
                            obtain ⟨y128, hy128⟩ : ∃ y_ : List Int, y_ = (([a4, wrap64 (-a5)] : List Int)) := ⟨_, rfl⟩
                            replace H : ((pluvialref01_AddInt.f kj21 y128).bind fun bt131 => ((pluviallaw01_awake.f).bind fun t133 => (if t133 = true then (if t125 = bt131.1 then (some (t126 == bt131.2)) else (some false)) else (some false)))) = some r := by first | (rw [hy128]; with_reducible exact H) | (have H2_ := (Option.bind_some _ _).symm.trans H; rw [hy128]; with_reducible exact H2_) | (have H2_ := (Option.bind_some _ _).symm.trans H; with_reducible exact H2_) | with_reducible exact H | (rw [hy128]; exact H) | exact H
                            have Ny128 := Aside0.mk hy128
                            clear hy128
                            replace H := Option.bind_eq_some_iff.mp H
                            obtain ⟨⟨t131, t132⟩, A350, H⟩ := H
                            replace H : ((pluviallaw01_awake.f).bind fun t133 => (if t133 = true then (if t125 = t131 then (some (t126 == t132)) else (some false)) else (some false))) = some r := H
                            have A35 := Aside0.mk A350
                            clear A350
                            replace H := Option.bind_eq_some_iff.mp H
                            obtain ⟨t133, A360, H⟩ := H
                            replace H : (if t133 = true then (if t125 = t131 then (some (t126 == t132)) else (some false)) else (some false)) = some r := H
                            have A36 := Aside0.mk A360
                            clear A360
                            by_cases c37 : t133 = true
                            · subst c37
                              have H1 : (if t125 = t131 then (some (t126 == t132)) else (some false)) = some r := by rw [if_pos rfl] at H; exact H
                              clear H
                              have H := H1
                              clear H1
                              by_cases c38 : t125 = t131
                              · rw [if_pos c38] at H
                                have c38b0 : (t125 == t131) = true := beq_iff_eq.mpr c38
                                have c38b1 : (t125 != t131) = false := bne_eq_false_iff_eq.mpr c38
                                clear c38
                                obtain rfl := Option.some.inj H
                                go_wp2_with (first | (go_at_call 27; (with_reducible refine (num_SubInt.calls a4 a5 t125 t126 _ A31.out).mono ?_); rintro e w' ⟨rfl, ⟨nd, rfl⟩⟩) | ((with_reducible refine gate_dst (N := 122) rfl ?_); (try (refine gate_guard (by rfl) ?_; dsimp only)); refine Kd.R_lit (Kd.int .i64) _ 2 ?hg (N := 122) ?hd (xs := ([a4, wrap64 (-a5)] : List Int)) (inner := [.int .i64 a4, .int .i64 (wrap64 (-a5))]) (ok := fun _ => True) (okp := fun _ => True) ?hr ?hp (fun _ hk => hk) trivial (Below.refl _ _) (Nat.le_refl _) (by simp) ?_; (case hd => rfl); (case hg => rfl); (case hr => first | (go_simp; done) | (go_simp; rfl)); (case hp => exact (Reps.one (show Kd.M (Kd.int .i64) _ _ _ a4 [.int .i64 a4] from rfl) (Reps.one (show Kd.M (Kd.int .i64) _ _ _ (wrap64 (-a5)) [.int .i64 (wrap64 (-a5))] from rfl) (Reps.none _ _)))); intro v129 w39 ho40 hb hg_ hnew_; clear hg_ hnew_; (first | rw [← Ny128.out] at ho40 | (simp only [Int.reduceToNat] at ho40; rw [← Ny128.out] at ho40)); have n0_ := Aside0.mk (Kd.R_lower ho40 (below_size (by repeat (first | (with_reducible first | exact HB.out | apply below_alloc | apply pw_below_drewN | apply below_drew1) | exact HB.out)))); have n1_ := Aside0.mk (below_step (by repeat (first | (with_reducible first | exact HB.out | apply below_alloc | apply pw_below_drewN | apply below_drew1) | exact HB.out)) hb); clear HB; have HO130 := n0_; have HB := n1_; clear n0_ n1_; clear hb ho40; obtain ⟨Ao41, co41, eo41⟩ := Kd.R_slice HO130.out; subst eo41) | (go_at_call 25; (with_reducible refine (pluvialref01_AddInt.calls kj21 _ _ y128 t131 t132 _ ?side1 ?side2 A35.out).mono ?_); (case side1 => repeat (first | exact (Kd.R_reads' HO130.out).2.2 | (with_reducible refine Kd.C_alloc ?_ _) | (with_reducible refine Kd.C_drewN ?_ _) | (with_reducible refine Kd.C_drew ?_))); (case side2 => exact (Kd.R_reads' HO130.out).2.1); rintro e w' ⟨rfl, ⟨nd, rfl⟩⟩) | (go_at_call 11; (with_reducible refine (pluviallaw01_awake.calls  true _ A36.out).mono ?_); rintro e w' ⟨rfl, ⟨nd, rfl⟩⟩))
                                go_ret
                                exact ⟨by first | rfl | (simp [errW_none, errW_some] <;> rfl) | (simp [*, errW_none, errW_some] <;> rfl), by repeat (first | (with_reducible first | exact HB.out | apply below_alloc | apply pw_below_drewN | apply below_drew1) | exact HB.out)⟩
                              · rw [if_neg c38] at H
                                have c38b0 : (t125 == t131) = false := beq_eq_false_iff_ne.mpr c38
                                have c38b1 : (t125 != t131) = true := bne_iff_ne.mpr c38
                                obtain rfl := Option.some.inj H
                                go_wp2_with (first | (go_at_call 27; (with_reducible refine (num_SubInt.calls a4 a5 t125 t126 _ A31.out).mono ?_); rintro e w' ⟨rfl, ⟨nd, rfl⟩⟩) | ((with_reducible refine gate_dst (N := 122) rfl ?_); (try (refine gate_guard (by rfl) ?_; dsimp only)); refine Kd.R_lit (Kd.int .i64) _ 2 ?hg (N := 122) ?hd (xs := ([a4, wrap64 (-a5)] : List Int)) (inner := [.int .i64 a4, .int .i64 (wrap64 (-a5))]) (ok := fun _ => True) (okp := fun _ => True) ?hr ?hp (fun _ hk => hk) trivial (Below.refl _ _) (Nat.le_refl _) (by simp) ?_; (case hd => rfl); (case hg => rfl); (case hr => first | (go_simp; done) | (go_simp; rfl)); (case hp => exact (Reps.one (show Kd.M (Kd.int .i64) _ _ _ a4 [.int .i64 a4] from rfl) (Reps.one (show Kd.M (Kd.int .i64) _ _ _ (wrap64 (-a5)) [.int .i64 (wrap64 (-a5))] from rfl) (Reps.none _ _)))); intro v129 w42 ho43 hb hg_ hnew_; clear hg_ hnew_; (first | rw [← Ny128.out] at ho43 | (simp only [Int.reduceToNat] at ho43; rw [← Ny128.out] at ho43)); have n0_ := Aside0.mk (Kd.R_lower ho43 (below_size (by repeat (first | (with_reducible first | exact HB.out | apply below_alloc | apply pw_below_drewN | apply below_drew1) | exact HB.out)))); have n1_ := Aside0.mk (below_step (by repeat (first | (with_reducible first | exact HB.out | apply below_alloc | apply pw_below_drewN | apply below_drew1) | exact HB.out)) hb); clear HB; have HO130 := n0_; have HB := n1_; clear n0_ n1_; clear hb ho43; obtain ⟨Ao44, co44, eo44⟩ := Kd.R_slice HO130.out; subst eo44) | (go_at_call 25; (with_reducible refine (pluvialref01_AddInt.calls kj21 _ _ y128 t131 t132 _ ?side1 ?side2 A35.out).mono ?_); (case side1 => repeat (first | exact (Kd.R_reads' HO130.out).2.2 | (with_reducible refine Kd.C_alloc ?_ _) | (with_reducible refine Kd.C_drewN ?_ _) | (with_reducible refine Kd.C_drew ?_))); (case side2 => exact (Kd.R_reads' HO130.out).2.1); rintro e w' ⟨rfl, ⟨nd, rfl⟩⟩) | (go_at_call 11; (with_reducible refine (pluviallaw01_awake.calls  true _ A36.out).mono ?_); rintro e w' ⟨rfl, ⟨nd, rfl⟩⟩))
                                go_ret
                                exact ⟨by first | rfl | (simp [errW_none, errW_some] <;> rfl) | (simp [*, errW_none, errW_some] <;> rfl), by repeat (first | (with_reducible first | exact HB.out | apply below_alloc | apply pw_below_drewN | apply below_drew1) | exact HB.out)⟩
                            · replace c37 := Bool.eq_false_iff.mpr c37
                              subst c37
                              have H1 : (some false) = some r := by rw [if_neg (show ¬ (false = true) by decide)] at H; exact H
                              clear H
                              have H := H1
                              clear H1
                              obtain rfl := Option.some.inj H
                              go_wp2_with (first | (go_at_call 27; (with_reducible refine (num_SubInt.calls a4 a5 t125 t126 _ A31.out).mono ?_); rintro e w' ⟨rfl, ⟨nd, rfl⟩⟩) | ((with_reducible refine gate_dst (N := 122) rfl ?_); (try (refine gate_guard (by rfl) ?_; dsimp only)); refine Kd.R_lit (Kd.int .i64) _ 2 ?hg (N := 122) ?hd (xs := ([a4, wrap64 (-a5)] : List Int)) (inner := [.int .i64 a4, .int .i64 (wrap64 (-a5))]) (ok := fun _ => True) (okp := fun _ => True) ?hr ?hp (fun _ hk => hk) trivial (Below.refl _ _) (Nat.le_refl _) (by simp) ?_; (case hd => rfl); (case hg => rfl); (case hr => first | (go_simp; done) | (go_simp; rfl)); (case hp => exact (Reps.one (show Kd.M (Kd.int .i64) _ _ _ a4 [.int .i64 a4] from rfl) (Reps.one (show Kd.M (Kd.int .i64) _ _ _ (wrap64 (-a5)) [.int .i64 (wrap64 (-a5))] from rfl) (Reps.none _ _)))); intro v129 w45 ho46 hb hg_ hnew_; clear hg_ hnew_; (first | rw [← Ny128.out] at ho46 | (simp only [Int.reduceToNat] at ho46; rw [← Ny128.out] at ho46)); have n0_ := Aside0.mk (Kd.R_lower ho46 (below_size (by repeat (first | (with_reducible first | exact HB.out | apply below_alloc | apply pw_below_drewN | apply below_drew1) | exact HB.out)))); have n1_ := Aside0.mk (below_step (by repeat (first | (with_reducible first | exact HB.out | apply below_alloc | apply pw_below_drewN | apply below_drew1) | exact HB.out)) hb); clear HB; have HO130 := n0_; have HB := n1_; clear n0_ n1_; clear hb ho46; obtain ⟨Ao47, co47, eo47⟩ := Kd.R_slice HO130.out; subst eo47) | (go_at_call 25; (with_reducible refine (pluvialref01_AddInt.calls kj21 _ _ y128 t131 t132 _ ?side1 ?side2 A35.out).mono ?_); (case side1 => repeat (first | exact (Kd.R_reads' HO130.out).2.2 | (with_reducible refine Kd.C_alloc ?_ _) | (with_reducible refine Kd.C_drewN ?_ _) | (with_reducible refine Kd.C_drew ?_))); (case side2 => exact (Kd.R_reads' HO130.out).2.1); rintro e w' ⟨rfl, ⟨nd, rfl⟩⟩) | (go_at_call 11; (with_reducible refine (pluviallaw01_awake.calls  false _ A36.out).mono ?_); rintro e w' ⟨rfl, ⟨nd, rfl⟩⟩))
                              go_ret
                              exact ⟨by first | rfl | (simp [errW_none, errW_some] <;> rfl) | (simp [*, errW_none, errW_some] <;> rfl), by repeat (first | (with_reducible first | exact HB.out | apply below_alloc | apply pw_below_drewN | apply below_drew1) | exact HB.out)⟩

/-- THE ONE PURE STATEMENT of pluviallaw01_NumSums: yours. -/
def pluviallaw01_NumSums.Pure : Prop := ∀ (l0 : List Int) (l1 : List Int) (a2 : Int) (a3 : Int) (a4 : Int) (a5 : Int), l0.length ≤ maxLen → l0.length * 8 ≤ 140737488351232 → (∀ x ∈ l0, (Lit.int .u64 x).wf = true) → l1.length ≤ maxLen → l1.length * 8 ≤ 140737488351232 → (∀ x ∈ l1, (Lit.int .i64 x).wf = true) → (Lit.int .u64 a2).wf = true → (Lit.int .u64 a3).wf = true → (Lit.int .i64 a4).wf = true → (Lit.int .i64 a5).wf = true → ∃ k, pluviallaw01_NumSums.f k l0 l1 a2 a3 a4 a5 = some true
theorem pluviallaw01_NumSums.walk (P : pluviallaw01_NumSums.Pure) (a0 : Option Addr) (len0 cap0 : Nat) (z0 : List Int) (a1 : Option Addr) (len1 cap1 : Nat) (z1 : List Int) (a2 : Int) (a3 : Int) (a4 : Int) (a5 : Int) (w : World) (w0 : (a0 = none ∧ len0 = 0 ∧ cap0 = 0 ∧ z0 = []) ∨ ∃ x, a0 = some x ∧ len0 ≤ cap0 ∧ cap0 ≤ maxLen ∧ z0.length = cap0 ∧ (∀ i, i < z0.length → w.cell? (x.add i) = some (.int .u64 (z0.getD i 0))) ∧ ∀ n ∈ z0, (Lit.int .u64 n).wf = true) (y0 : len0 * 8 ≤ 140737488351232) (w1 : (a1 = none ∧ len1 = 0 ∧ cap1 = 0 ∧ z1 = []) ∨ ∃ x, a1 = some x ∧ len1 ≤ cap1 ∧ cap1 ≤ maxLen ∧ z1.length = cap1 ∧ (∀ i, i < z1.length → w.cell? (x.add i) = some (.int .i64 (z1.getD i 0))) ∧ ∀ n ∈ z1, (Lit.int .i64 n).wf = true) (y1 : len1 * 8 ≤ 140737488351232) (w2 : (Lit.int .u64 a2).wf = true) (w3 : (Lit.int .u64 a3).wf = true) (w4 : (Lit.int .i64 a4).wf = true) (w5 : (Lit.int .i64 a5).wf = true) :
    Calls Try.prog 6 #[.slice a0 len0 cap0, .slice a1 len1 cap1, .int .u64 a2, .int .u64 a3, .int .i64 a4, .int .i64 a5] w fun e w' => e = .returned (.bool true) ∧ Below w.heap.size w w' := by
  obtain ⟨l0, rfl, hr0, hm0, hw0, hc0⟩ := ReadsInt.ofRowC w0
  obtain ⟨l1, rfl, hr1, hm1, hw1, hc1⟩ := ReadsInt.ofRowC w1
  obtain ⟨k, h⟩ := P l0 l1 a2 a3 a4 a5 hm0 y0 hw0 hm1 y1 hw1 w2 w3 w4 w5
  refine (pluviallaw01_NumSums.calls k _ _ l0 _ _ l1 a2 a3 a4 a5 true w (Kd.C_of_reads (d := (0 : Int)) (h1 := fun _ => rfl) hr0) hc0 (Kd.C_of_reads (d := (0 : Int)) (h1 := fun _ => rfl) hr1) hc1 h).mono ?_
  rintro e w' ⟨rfl, hd⟩
  exact ⟨rfl, hd⟩

end Go.Proofs.Ytdonphglmeimbaa.QNumSums
