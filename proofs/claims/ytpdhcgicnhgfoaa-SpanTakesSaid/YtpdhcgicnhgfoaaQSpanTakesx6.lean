-- Written by a program of the session (wip/xprint.sh, wip/xpatch.py; a variant of the print) out of the translation. Lean checks it.
import Derived.Test.YtpdhcgicnhgfoaaQSpanTakesx0
import Derived.Test.YtpdhcgicnhgfoaaQSpanTakesx5
namespace Go.Proofs.Ytpdhcgicnhgfoaa.QSpanTakes
open Go.RowKit Go.Proofs.YtpdhcgicnhgfoaaW.PrintWords Go.Proofs.YtpdhcgicnhgfoaaW.PrintLast Go.Proofs.YtpdhcgicnhgfoaaW.PrintMore
attribute [local go_sem] max2_int min2_int max_two min_two max_three min_three max_four min_four   -- for this text's walks alone
set_option linter.unusedVariables false
set_option linter.unusedSimpArgs false

/-! ### pluvialref02_Count: function 26 -/
def pluvialref02_Count.l0 : Nat → Int → Int → Int → ByteArray → Int → Option (ByteArray)
  | 0, _, _, _, _, _ => none
  | k + 1, x0, x3, x4, x5, x6 => if x6 < x3 then (if x5.size + 1 ≤ 9223372036854775807 then (pluvialref02_Count.l0 k x0 x3 x4 (x5 ++ (⟨#[49]⟩ : ByteArray)) (wrap64 (x6 + 1))) else (none)) else (if x3 < 6 then (if x5.size + 1 ≤ 9223372036854775807 then ((pluvialref02_Put.f k x0 x4).bind fun t203 => (if (x5 ++ (⟨#[48]⟩ : ByteArray)).size + t203.size ≤ 9223372036854775807 then (some ((x5 ++ (⟨#[48]⟩ : ByteArray)) ++ t203)) else (none))) else (none)) else ((pluvialref02_Put.f k x0 x4).bind fun t204 => (if x5.size + t204.size ≤ 9223372036854775807 then (some (x5 ++ t204)) else (none))))
def pluvialref02_Count.f (k : Nat) (a0 : Int) : Option (ByteArray) := (pluvialref02_class.f k a0).bind fun bt201 => (pluvialref02_Count.l0 k a0 bt201.1 bt201.2 (⟨#[]⟩ : ByteArray) 0)
theorem pluvialref02_Count.mono_l : ∀ k, (∀ y0 y1 y2 y3 y4, LeO (pluvialref02_Count.l0 k y0 y1 y2 y3 y4) (pluvialref02_Count.l0 (k + 1) y0 y1 y2 y3 y4))
  | 0 => fun _ _ _ _ _ r h => by simp [pluvialref02_Count.l0] at h
  | k + 1 => by
    have ih0 := pluvialref02_Count.mono_l k
    · intro y0 y1 y2 y3 y4
      unfold pluvialref02_Count.l0
      repeat' first
      | (with_reducible exact ih0 _ _ _ _ _)
      | (with_reducible exact pluvialref02_Put.mono _ _ _)
      | (with_reducible exact pluvialref02_class.mono _ _)
      | (with_reducible exact LeO.refl _)
      | (with_reducible exact LeO.none _)
      | (with_reducible refine LeO.ite ?_ ?_)
      | (with_reducible refine LeO.bind ?_ (fun _ => ?_))
      | exact ih0 _ _ _ _ _
      | exact pluvialref02_Put.mono _ _ _
      | exact pluvialref02_class.mono _ _
      | exact LeO.none _
      | refine LeO.ite ?_ ?_
      | refine LeO.bind ?_ (fun _ => ?_)
theorem pluvialref02_Count.mono : ∀ a0 k, LeO (pluvialref02_Count.f k a0) (pluvialref02_Count.f (k + 1) a0) := by
  intro a0 k
  have ih0 := pluvialref02_Count.mono_l k
  unfold pluvialref02_Count.f
  repeat' first
      | (with_reducible exact ih0 _ _ _ _ _)
      | (with_reducible exact pluvialref02_Put.mono _ _ _)
      | (with_reducible exact pluvialref02_class.mono _ _)
      | (with_reducible exact LeO.refl _)
      | (with_reducible exact LeO.none _)
      | (with_reducible refine LeO.ite ?_ ?_)
      | (with_reducible refine LeO.bind ?_ (fun _ => ?_))
      | exact ih0 _ _ _ _ _
      | exact pluvialref02_Put.mono _ _ _
      | exact pluvialref02_class.mono _ _
      | exact LeO.none _
      | refine LeO.ite ?_ ?_
      | refine LeO.bind ?_ (fun _ => ?_)
set_option maxHeartbeats 8000000 in
set_option maxRecDepth 100000 in
theorem pluvialref02_Count.calls (k : Nat) (a0 : Int) (r : ByteArray) (w : World) (h : pluvialref02_Count.f k a0 = some r) :
    Calls Try.prog 26 #[.int .u64 a0] w fun e w' => e = .returned (.string r) ∧ Below w.heap.size w w' := by
  have HB := Aside0.mk (Below.refl w.heap.size w)
  have H : ((pluvialref02_class.f k a0).bind fun bt201 => (pluvialref02_Count.l0 k a0 bt201.1 bt201.2 (⟨#[]⟩ : ByteArray) 0)) = some r := h
  clear h
  replace H := Option.bind_eq_some_iff.mp H
  obtain ⟨⟨t201, t202⟩, A20, H⟩ := H
  replace H : (pluvialref02_Count.l0 k a0 t201 t202 (⟨#[]⟩ : ByteArray) 0) = some r := H
  have A2 := Aside0.mk A20
  clear A20
  have H' := Aside0.mk H
  clear H
  go_enter Try.func26, Try.ntmps26
  go_wp2_with (first | ((with_reducible refine gate_callee (f := 32) rfl ?_); refine goesL_ (some 9) rfl rfl Try.func32 (by kernel_rfl) rfl #[.int .u64 a0] rfl (by (try simp only [List.map_toArray, List.map_cons, List.map_nil]); first | done | rfl | (simp only [List.length_drop, List.length_take]; rfl)) ?_; (with_reducible refine (pluvialref02_class.calls k a0 t201 t202 _ A2.out).mono ?_); rintro e w3 ⟨rfl, hb⟩; refine ⟨_, rfl, ?_⟩; have n0_ := Aside0.mk (below_step (by repeat (first | (with_reducible first | exact HB.out | apply below_alloc | apply pw_below_drewN | apply below_drew1) | exact HB.out)) hb); clear HB; have HB := n0_; clear n0_; (try clear hb); (try clear hb2); (try clear hk); (try clear hi)))
  go_loopg [5, 6] k (fun kq v5 v6 w' => ∃ (x5_1 : ByteArray) (x6_1 : Int), v5 = .string x5_1 ∧ v6 = .int .i64 x6_1 ∧ Aside0 (pluvialref02_Count.l0 kq a0 t201 t202 x5_1 x6_1 = some r) ∧ Aside0 (kq ≤ k) ∧ Aside0 (Below w.heap.size w w'))
  case atStart => exact ⟨((⟨#[]⟩ : ByteArray)), (0), (by first | rfl | (simp; done) | (simp [*]; done)), (by first | rfl | (simp; done) | (simp [*]; done)), H', ⟨Nat.le_refl _⟩, ⟨by repeat (first | (with_reducible first | exact HB.out | apply below_alloc | apply pw_below_drewN | apply below_drew1) | exact HB.out)⟩⟩
  case round =>
    clear H'
    try clear c2
    try clear p2
    try clear c3
    obtain ⟨x5_1, x6_1, rfl, rfl, HA, HK1, HB⟩ := hrel
    cases gk with
    | zero => exact absurd HA.out (by simp [pluvialref02_Count.l0])
    | succ k1 =>
      have H := HA.out
      clear HA
      simp only [pluvialref02_Count.l0] at H
      by_cases c4 : x6_1 < t201
      · rw [if_pos c4] at H
        have c4b0 : decide (x6_1 < t201) = true := decide_eq_true c4
        clear c4
        by_cases c5 : x5_1.size + 1 ≤ 9223372036854775807
        · rw [if_pos c5] at H
          have c5b0 := eq_true c5
          have c5b1 : decide (x5_1.size + 1 ≤ 9223372036854775807) = true := decide_eq_true c5
          try have c5b2 : (9223372036854775807 < x5_1.size + 1) = False := eq_false (Nat.not_lt.2 c5)
          have H' := Aside0.mk H
          clear H
          go_wp2
          go_roundg k1
          case measure => have := HK1.out; omega
          case rel => exact ⟨(x5_1 ++ (⟨#[49]⟩ : ByteArray)), (wrap64 (x6_1 + 1)), (by first | rfl | (simp; done) | (simp [*]; done)), (by first | rfl | (simp; done) | (simp [*]; done)), H', ⟨by have := HK1.out; omega⟩, ⟨by repeat (first | (with_reducible first | exact HB.out | apply below_alloc | apply pw_below_drewN | apply below_drew1) | exact HB.out)⟩⟩
        · rw [if_neg c5] at H
          exact absurd H (by simp)
      · rw [if_neg c4] at H
        have c4b0 : decide (x6_1 < t201) = false := decide_eq_false c4
        clear c4
        by_cases c6 : t201 < 6
        · rw [if_pos c6] at H
          have c6b0 : decide (t201 < 6) = true := decide_eq_true c6
          clear c6
          by_cases c7 : x5_1.size + 1 ≤ 9223372036854775807
          · rw [if_pos c7] at H
            have c7b0 := eq_true c7
            have c7b1 : decide (x5_1.size + 1 ≤ 9223372036854775807) = true := decide_eq_true c7
            try have c7b2 : (9223372036854775807 < x5_1.size + 1) = False := eq_false (Nat.not_lt.2 c7)
            replace H := Option.bind_eq_some_iff.mp H
            obtain ⟨t203, A80, H⟩ := H
            replace H : (if (x5_1 ++ (⟨#[48]⟩ : ByteArray)).size + t203.size ≤ 9223372036854775807 then (some ((x5_1 ++ (⟨#[48]⟩ : ByteArray)) ++ t203)) else (none)) = some r := H
            have A8 := Aside0.mk A80
            clear A80
            by_cases c9 : (x5_1 ++ (⟨#[48]⟩ : ByteArray)).size + t203.size ≤ 9223372036854775807
            · rw [if_pos c9] at H
              have c9b0 := eq_true c9
              have c9b1 : decide ((x5_1 ++ (⟨#[48]⟩ : ByteArray)).size + t203.size ≤ 9223372036854775807) = true := decide_eq_true c9
              try have c9b2 : (9223372036854775807 < (x5_1 ++ (⟨#[48]⟩ : ByteArray)).size + t203.size) = False := eq_false (Nat.not_lt.2 c9)
              (try (have c9zb0 := c9b0; simp only [ByteArray.size_append] at c9zb0))
              (try (have c9zb1 := c9b1; simp only [ByteArray.size_append] at c9zb1))
              (try (have c9zb2 := c9b2; simp only [ByteArray.size_append] at c9zb2))
              obtain rfl := Option.some.inj H
              go_wp2_with (first | (go_at_call 28; (with_reducible refine (pluvialref02_Put.calls k1 a0 t202 t203 _ A8.out).mono ?_); rintro e w' ⟨rfl, ⟨nd, rfl⟩⟩))
              go_ret
              exact ⟨by first | rfl | (simp [errW_none, errW_some] <;> rfl) | (simp [*, errW_none, errW_some] <;> rfl), by repeat (first | (with_reducible first | exact HB.out | apply below_alloc | apply pw_below_drewN | apply below_drew1) | exact HB.out)⟩
            · rw [if_neg c9] at H
              exact absurd H (by simp)
          · rw [if_neg c7] at H
            exact absurd H (by simp)
        · rw [if_neg c6] at H
          have c6b0 : decide (t201 < 6) = false := decide_eq_false c6
          clear c6
          replace H := Option.bind_eq_some_iff.mp H
          obtain ⟨t204, A100, H⟩ := H
          replace H : (if x5_1.size + t204.size ≤ 9223372036854775807 then (some (x5_1 ++ t204)) else (none)) = some r := H
          have A10 := Aside0.mk A100
          clear A100
          by_cases c11 : x5_1.size + t204.size ≤ 9223372036854775807
          · rw [if_pos c11] at H
            have c11b0 := eq_true c11
            have c11b1 : decide (x5_1.size + t204.size ≤ 9223372036854775807) = true := decide_eq_true c11
            try have c11b2 : (9223372036854775807 < x5_1.size + t204.size) = False := eq_false (Nat.not_lt.2 c11)
            obtain rfl := Option.some.inj H
            go_wp2_with (first | (go_at_call 28; (with_reducible refine (pluvialref02_Put.calls k1 a0 t202 t204 _ A10.out).mono ?_); rintro e w' ⟨rfl, ⟨nd, rfl⟩⟩))
            go_ret
            exact ⟨by first | rfl | (simp [errW_none, errW_some] <;> rfl) | (simp [*, errW_none, errW_some] <;> rfl), by repeat (first | (with_reducible first | exact HB.out | apply below_alloc | apply pw_below_drewN | apply below_drew1) | exact HB.out)⟩
          · rw [if_neg c11] at H
            exact absurd H (by simp)

/-! ### pluvialref01_Zig: function 33 -/
def pluvialref01_Zig.f (a0 : Int) : Option (Int) := if a0 ≥ 0 then (some (IntKind.u64.wrap ((IntKind.u64.wrap (a0)) * 2))) else (some (IntKind.u64.wrap ((IntKind.u64.wrap ((IntKind.u64.wrap (wrap64 (-(wrap64 (a0 + 1))))) * 2)) + 1)))
set_option maxHeartbeats 8000000 in
set_option maxRecDepth 100000 in
theorem pluvialref01_Zig.calls (a0 : Int) (r : Int) (w : World) (h : pluvialref01_Zig.f a0 = some r) :
    Calls Try.prog 33 #[.int .i64 a0] w fun e w' => e = .returned (.int .u64 r) ∧ Drawn0 w w' := by
  have H : (if a0 ≥ 0 then (some (IntKind.u64.wrap ((IntKind.u64.wrap (a0)) * 2))) else (some (IntKind.u64.wrap ((IntKind.u64.wrap ((IntKind.u64.wrap (wrap64 (-(wrap64 (a0 + 1))))) * 2)) + 1)))) = some r := h
  clear h
  by_cases c2 : a0 ≥ 0
  · rw [if_pos c2] at H
    have c2b0 : decide (0 ≤ a0) = true := decide_eq_true c2
    clear c2
    obtain rfl := Option.some.inj H
    go_enter Try.func33, Try.ntmps33
    go_wp2
    go_ret
    exact ⟨by first | rfl | (simp; done) | (simp [*]; done), by repeat (first | exact Drawn0.refl _ | apply Drawn0.step)⟩
  · rw [if_neg c2] at H
    have c2b0 : decide (0 ≤ a0) = false := decide_eq_false c2
    clear c2
    obtain rfl := Option.some.inj H
    go_enter Try.func33, Try.ntmps33
    go_wp2
    go_ret
    exact ⟨by first | rfl | (simp; done) | (simp [*]; done), by repeat (first | exact Drawn0.refl _ | apply Drawn0.step)⟩

/-! ### pluvialref02_Int: function 27 -/
def pluvialref02_Int.f (k : Nat) (a0 : Int) : Option (ByteArray) := (pluvialref01_Zig.f a0).bind fun t205 => ((pluvialref02_Count.f k t205).bind fun t206 => (some t206))
theorem pluvialref02_Int.mono : ∀ a0 k, LeO (pluvialref02_Int.f k a0) (pluvialref02_Int.f (k + 1) a0) := by
  intro a0 k
  unfold pluvialref02_Int.f
  repeat' first
      | (with_reducible exact pluvialref02_Count.mono _ _)
      | (with_reducible exact LeO.refl _)
      | (with_reducible exact LeO.none _)
      | (with_reducible refine LeO.ite ?_ ?_)
      | (with_reducible refine LeO.bind ?_ (fun _ => ?_))
      | exact pluvialref02_Count.mono _ _
      | exact LeO.none _
      | refine LeO.ite ?_ ?_
      | refine LeO.bind ?_ (fun _ => ?_)
set_option maxHeartbeats 8000000 in
set_option maxRecDepth 100000 in
theorem pluvialref02_Int.calls (k : Nat) (a0 : Int) (r : ByteArray) (w : World) (h : pluvialref02_Int.f k a0 = some r) :
    Calls Try.prog 27 #[.int .i64 a0] w fun e w' => e = .returned (.string r) ∧ Below w.heap.size w w' := by
  have HB := Aside0.mk (Below.refl w.heap.size w)
  have H : ((pluvialref01_Zig.f a0).bind fun t205 => ((pluvialref02_Count.f k t205).bind fun t206 => (some t206))) = some r := h
  clear h
  replace H := Option.bind_eq_some_iff.mp H
  obtain ⟨t205, A20, H⟩ := H
  replace H : ((pluvialref02_Count.f k t205).bind fun t206 => (some t206)) = some r := H
  have A2 := Aside0.mk A20
  clear A20
  replace H := Option.bind_eq_some_iff.mp H
  obtain ⟨t206, A30, H⟩ := H
  replace H : (some t206) = some r := H
  have A3 := Aside0.mk A30
  clear A30
  obtain rfl := Option.some.inj H
  go_enter Try.func27, Try.ntmps27
  go_wp2_with (first | (go_at_call 33; (with_reducible refine (pluvialref01_Zig.calls a0 t205 _ A2.out).mono ?_); rintro e w' ⟨rfl, ⟨nd, rfl⟩⟩) | ((with_reducible refine gate_callee (f := 26) rfl ?_); refine goesL_ (some 5) rfl rfl Try.func26 (by kernel_rfl) rfl #[.int .u64 t205] rfl (by (try simp only [List.map_toArray, List.map_cons, List.map_nil]); first | done | rfl | (simp only [List.length_drop, List.length_take]; rfl)) ?_; (with_reducible refine (pluvialref02_Count.calls k t205 t206 _ A3.out).mono ?_); rintro e w4 ⟨rfl, hb⟩; refine ⟨_, rfl, ?_⟩; have n0_ := Aside0.mk (below_step (by repeat (first | (with_reducible first | exact HB.out | apply below_alloc | apply pw_below_drewN | apply below_drew1) | exact HB.out)) hb); clear HB; have HB := n0_; clear n0_; (try clear hb); (try clear hb2); (try clear hk); (try clear hi)))
  go_ret
  exact ⟨by first | rfl | (simp [errW_none, errW_some] <;> rfl) | (simp [*, errW_none, errW_some] <;> rfl), by repeat (first | (with_reducible first | exact HB.out | apply below_alloc | apply pw_below_drewN | apply below_drew1) | exact HB.out)⟩

/-! ### pluvialref06_Lay: function 19 -/
def pluvialref06_Lay.l0 : Nat → List (S38) → ByteArray → Int → Option (ByteArray)
  | 0, _, _, _ => none
  | k + 1, x1, x5, x6 => if x6 < (x1.length : Int) then (if x6 > 0 then (if 0 ≤ x6 then ((pluvialref02_Count.f k (IntKind.u64.wrap (wrap64 (((rd_T38 x1 x6).f0) - 1)))).bind fun t210 => (if x5.size + t210.size ≤ 9223372036854775807 then ((pluvialref02_Count.f k (IntKind.u64.wrap (wrap64 (((rd_T38 x1 x6).f1) - 1)))).bind fun t212 => (if (x5 ++ t210).size + t212.size ≤ 9223372036854775807 then (pluvialref06_Lay.l0 k x1 ((x5 ++ t210) ++ t212) (wrap64 (x6 + 1))) else (none))) else (none))) else (none)) else (if 0 ≤ x6 then ((pluvialref02_Count.f k (IntKind.u64.wrap (wrap64 (((rd_T38 x1 x6).f1) - 1)))).bind fun t214 => (if x5.size + t214.size ≤ 9223372036854775807 then (pluvialref06_Lay.l0 k x1 (x5 ++ t214) (wrap64 (x6 + 1))) else (none))) else (none))) else (some x5)
def pluvialref06_Lay.f (k : Nat) (a0 : Int) (l1 : List (S38)) : Option (ByteArray) := (pluvialref02_Count.f k (IntKind.u64.wrap ((l1.length : Int)))).bind fun t207 => (if (l1.length : Int) = 0 then (some t207) else ((pluvialref02_Int.f k a0).bind fun t208 => (if t207.size + t208.size ≤ 9223372036854775807 then (pluvialref06_Lay.l0 k l1 (t207 ++ t208) 0) else (none))))
theorem pluvialref06_Lay.mono_l : ∀ k, (∀ y0 y1 y2, LeO (pluvialref06_Lay.l0 k y0 y1 y2) (pluvialref06_Lay.l0 (k + 1) y0 y1 y2))
  | 0 => fun _ _ _ r h => by simp [pluvialref06_Lay.l0] at h
  | k + 1 => by
    have ih0 := pluvialref06_Lay.mono_l k
    · intro y0 y1 y2
      unfold pluvialref06_Lay.l0
      repeat' first
      | (with_reducible exact ih0 _ _ _)
      | (with_reducible exact pluvialref02_Count.mono _ _)
      | (with_reducible exact pluvialref02_Int.mono _ _)
      | (with_reducible exact LeO.refl _)
      | (with_reducible exact LeO.none _)
      | (with_reducible refine LeO.ite ?_ ?_)
      | (with_reducible refine LeO.bind ?_ (fun _ => ?_))
      | exact ih0 _ _ _
      | exact pluvialref02_Count.mono _ _
      | exact pluvialref02_Int.mono _ _
      | exact LeO.none _
      | refine LeO.ite ?_ ?_
      | refine LeO.bind ?_ (fun _ => ?_)
theorem pluvialref06_Lay.mono : ∀ a0 a1 k, LeO (pluvialref06_Lay.f k a0 a1) (pluvialref06_Lay.f (k + 1) a0 a1) := by
  intro a0 a1 k
  have ih0 := pluvialref06_Lay.mono_l k
  unfold pluvialref06_Lay.f
  repeat' first
      | (with_reducible exact ih0 _ _ _)
      | (with_reducible exact pluvialref02_Count.mono _ _)
      | (with_reducible exact pluvialref02_Int.mono _ _)
      | (with_reducible exact LeO.refl _)
      | (with_reducible exact LeO.none _)
      | (with_reducible refine LeO.ite ?_ ?_)
      | (with_reducible refine LeO.bind ?_ (fun _ => ?_))
      | exact ih0 _ _ _
      | exact pluvialref02_Count.mono _ _
      | exact pluvialref02_Int.mono _ _
      | exact LeO.none _
      | refine LeO.ite ?_ ?_
      | refine LeO.bind ?_ (fun _ => ?_)
set_option maxHeartbeats 8000000 in
set_option maxRecDepth 100000 in
theorem pluvialref06_Lay.calls (k : Nat) (a0 : Int) (A1 : Option Addr) (c1 : Nat) (l1 : List (S38)) (r : ByteArray) (w : World) (hr1 : Kd.C k38 w A1 l1.length l1) (hc1 : l1.length ≤ c1) (h : pluvialref06_Lay.f k a0 l1 = some r) :
    Calls Try.prog 19 #[.int .i64 a0, .slice A1 l1.length c1] w fun e w' => e = .returned (.string r) ∧ Below w.heap.size w w' := by
  have HR1 := Aside0.mk hr1
  have HC1 := Aside0.mk hc1
  clear hr1 hc1
  have HB := Aside0.mk (Below.refl w.heap.size w)
  have H : ((pluvialref02_Count.f k (IntKind.u64.wrap ((l1.length : Int)))).bind fun t207 => (if (l1.length : Int) = 0 then (some t207) else ((pluvialref02_Int.f k a0).bind fun t208 => (if t207.size + t208.size ≤ 9223372036854775807 then (pluvialref06_Lay.l0 k l1 (t207 ++ t208) 0) else (none))))) = some r := h
  clear h
  replace H := Option.bind_eq_some_iff.mp H
  obtain ⟨t207, A30, H⟩ := H
  replace H : (if (l1.length : Int) = 0 then (some t207) else ((pluvialref02_Int.f k a0).bind fun t208 => (if t207.size + t208.size ≤ 9223372036854775807 then (pluvialref06_Lay.l0 k l1 (t207 ++ t208) 0) else (none)))) = some r := H
  have A3 := Aside0.mk A30
  clear A30
  by_cases c4 : (l1.length : Int) = 0
  · rw [if_pos c4] at H
    have c4b0 : ((l1.length : Int) == 0) = true := beq_iff_eq.mpr c4
    have c4b1 : ((l1.length : Int) != 0) = false := bne_eq_false_iff_eq.mpr c4
    clear c4
    obtain rfl := Option.some.inj H
    go_enter Try.func19, Try.ntmps19
    go_wp2_with (first | ((with_reducible refine gate_callee (f := 26) rfl ?_); refine goesL_ (some 10) rfl rfl Try.func26 (by kernel_rfl) rfl #[.int .u64 (IntKind.u64.wrap ((l1.length : Int)))] rfl (by (try simp only [List.map_toArray, List.map_cons, List.map_nil]); first | done | rfl | (simp only [List.length_drop, List.length_take]; rfl)) ?_; (with_reducible refine (pluvialref02_Count.calls k (IntKind.u64.wrap ((l1.length : Int))) t207 _ A3.out).mono ?_); rintro e w5 ⟨rfl, hb⟩; refine ⟨_, rfl, ?_⟩; have n0_ := Aside0.mk (below_step (by repeat (first | (with_reducible first | exact HB.out | apply below_alloc | apply pw_below_drewN | apply below_drew1) | exact HB.out)) hb); clear HB; have HB := n0_; clear n0_; (try clear hb); (try clear hb2); (try clear hk); (try clear hi)))
    go_ret
    exact ⟨by first | rfl | (simp [errW_none, errW_some] <;> rfl) | (simp [*, errW_none, errW_some] <;> rfl), by repeat (first | (with_reducible first | exact HB.out | apply below_alloc | apply pw_below_drewN | apply below_drew1) | exact HB.out)⟩
  · rw [if_neg c4] at H
    have c4b0 : ((l1.length : Int) == 0) = false := beq_eq_false_iff_ne.mpr c4
    have c4b1 : ((l1.length : Int) != 0) = true := bne_iff_ne.mpr c4
    have c4b2 : ¬ (l1 = []) := fun h_ => c4 (by rw [h_]; rfl)
    replace H := Option.bind_eq_some_iff.mp H
    obtain ⟨t208, A60, H⟩ := H
    replace H : (if t207.size + t208.size ≤ 9223372036854775807 then (pluvialref06_Lay.l0 k l1 (t207 ++ t208) 0) else (none)) = some r := H
    have A6 := Aside0.mk A60
    clear A60
    by_cases c7 : t207.size + t208.size ≤ 9223372036854775807
    · rw [if_pos c7] at H
      have c7b0 := eq_true c7
      have c7b1 : decide (t207.size + t208.size ≤ 9223372036854775807) = true := decide_eq_true c7
      try have c7b2 : (9223372036854775807 < t207.size + t208.size) = False := eq_false (Nat.not_lt.2 c7)
      have H' := Aside0.mk H
      clear H
      go_enter Try.func19, Try.ntmps19
      go_wp2_with (first | ((with_reducible refine gate_callee (f := 26) rfl ?_); refine goesL_ (some 10) rfl rfl Try.func26 (by kernel_rfl) rfl #[.int .u64 (IntKind.u64.wrap ((l1.length : Int)))] rfl (by (try simp only [List.map_toArray, List.map_cons, List.map_nil]); first | done | rfl | (simp only [List.length_drop, List.length_take]; rfl)) ?_; (with_reducible refine (pluvialref02_Count.calls k (IntKind.u64.wrap ((l1.length : Int))) t207 _ A3.out).mono ?_); rintro e w8 ⟨rfl, hb⟩; refine ⟨_, rfl, ?_⟩; have n0_ := Aside0.mk (below_step (by repeat (first | (with_reducible first | exact HB.out | apply below_alloc | apply pw_below_drewN | apply below_drew1) | exact HB.out)) hb); clear HB; have HB := n0_; clear n0_; (try clear hb); (try clear hb2); (try clear hk); (try clear hi)) | ((with_reducible refine gate_callee (f := 27) rfl ?_); refine goesL_ (some 17) rfl rfl Try.func27 (by kernel_rfl) rfl #[.int .i64 a0] rfl (by (try simp only [List.map_toArray, List.map_cons, List.map_nil]); first | done | rfl | (simp only [List.length_drop, List.length_take]; rfl)) ?_; (with_reducible refine (pluvialref02_Int.calls k a0 t208 _ A6.out).mono ?_); rintro e w9 ⟨rfl, hb⟩; refine ⟨_, rfl, ?_⟩; have n0_ := Aside0.mk (below_step (by repeat (first | (with_reducible first | exact HB.out | apply below_alloc | apply pw_below_drewN | apply below_drew1) | exact HB.out)) hb); clear HB; have HB := n0_; clear n0_; (try clear hb); (try clear hb2); (try clear hk); (try clear hi)))
      go_loopg [5, 6] k (fun kq v5 v6 w' => ∃ (x5_1 : ByteArray) (x6_1 : Int), v5 = .string x5_1 ∧ v6 = .int .i64 x6_1 ∧ Aside0 (pluvialref06_Lay.l0 kq l1 x5_1 x6_1 = some r) ∧ Aside0 (kq ≤ k) ∧ Aside0 (Below w.heap.size w w'))
      case atStart => exact ⟨(t207 ++ t208), (0), (by first | rfl | (simp; done) | (simp [*]; done)), (by first | rfl | (simp; done) | (simp [*]; done)), H', ⟨Nat.le_refl _⟩, ⟨by repeat (first | (with_reducible first | exact HB.out | apply below_alloc | apply pw_below_drewN | apply below_drew1) | exact HB.out)⟩⟩
      case round =>
        clear H'
        try clear c1
        try clear c2
        try clear p2
        try clear c4
        try clear c4b0
        try clear c4b1
        try clear c4b2
        try clear c7
        try clear c7b0
        try clear c7b1
        try clear c7b2
        obtain ⟨x5_1, x6_1, rfl, rfl, HA, HK1, HB⟩ := hrel
        cases gk with
        | zero => exact absurd HA.out (by simp [pluvialref06_Lay.l0])
        | succ k1 =>
          have H := HA.out
          clear HA
          simp only [pluvialref06_Lay.l0] at H
          by_cases c10 : x6_1 < (l1.length : Int)
          · rw [if_pos c10] at H
            have c10b0 : decide (x6_1 < (l1.length : Int)) = true := decide_eq_true c10
            clear c10
            by_cases c11 : x6_1 > 0
            · rw [if_pos c11] at H
              have c11b0 : decide (0 < x6_1) = true := decide_eq_true c11
              clear c11
              by_cases c12 : 0 ≤ x6_1
              · rw [if_pos c12] at H
                have c12b0 : decide (0 ≤ x6_1) = true := decide_eq_true c12
                clear c12
                replace H := Option.bind_eq_some_iff.mp H
                obtain ⟨t210, A130, H⟩ := H
                replace H : (if x5_1.size + t210.size ≤ 9223372036854775807 then ((pluvialref02_Count.f k1 (IntKind.u64.wrap (wrap64 (((rd_T38 l1 x6_1).f1) - 1)))).bind fun t212 => (if (x5_1 ++ t210).size + t212.size ≤ 9223372036854775807 then (pluvialref06_Lay.l0 k1 l1 ((x5_1 ++ t210) ++ t212) (wrap64 (x6_1 + 1))) else (none))) else (none)) = some r := H
                have A13 := Aside0.mk A130
                clear A130
                by_cases c14 : x5_1.size + t210.size ≤ 9223372036854775807
                · rw [if_pos c14] at H
                  have c14b0 := eq_true c14
                  have c14b1 : decide (x5_1.size + t210.size ≤ 9223372036854775807) = true := decide_eq_true c14
                  try have c14b2 : (9223372036854775807 < x5_1.size + t210.size) = False := eq_false (Nat.not_lt.2 c14)
                  replace H := Option.bind_eq_some_iff.mp H
                  obtain ⟨t212, A150, H⟩ := H
                  replace H : (if (x5_1 ++ t210).size + t212.size ≤ 9223372036854775807 then (pluvialref06_Lay.l0 k1 l1 ((x5_1 ++ t210) ++ t212) (wrap64 (x6_1 + 1))) else (none)) = some r := H
                  have A15 := Aside0.mk A150
                  clear A150
                  by_cases c16 : (x5_1 ++ t210).size + t212.size ≤ 9223372036854775807
                  · rw [if_pos c16] at H
                    have c16b0 := eq_true c16
                    have c16b1 : decide ((x5_1 ++ t210).size + t212.size ≤ 9223372036854775807) = true := decide_eq_true c16
                    try have c16b2 : (9223372036854775807 < (x5_1 ++ t210).size + t212.size) = False := eq_false (Nat.not_lt.2 c16)
                    (try (have c16zb0 := c16b0; simp only [ByteArray.size_append] at c16zb0))
                    (try (have c16zb1 := c16b1; simp only [ByteArray.size_append] at c16zb1))
                    (try (have c16zb2 := c16b2; simp only [ByteArray.size_append] at c16zb2))
                    have H' := Aside0.mk H
                    clear H
                    have p209 : 0 ≤ (x6_1 : Int) := of_decide_eq_true (by first | (with_reducible assumption) | assumption)
                    have q209 : x6_1 < (l1.length : Int) := of_decide_eq_true (by first | (with_reducible assumption) | assumption)
                    obtain ⟨ad209, e209, hx209_0, hx209_1⟩ := at_T38 HR1.out x6_1 p209 q209
                    cases e209
                    replace hx209_0 := (HB.out.cell (World.block_lt_of_cell? w _ hx209_0)).trans hx209_0
                    replace hx209_1 := (HB.out.cell (World.block_lt_of_cell? w _ hx209_1)).trans hx209_1
                    replace p209 := eq_true p209
                    replace q209 := eq_true q209
                    go_wp2_with (first | ((with_reducible refine gate_callee (f := 26) rfl ?_); refine goesL_ (some 35) rfl rfl Try.func26 (by kernel_rfl) rfl #[.int .u64 (IntKind.u64.wrap (wrap64 (((rd_T38 l1 x6_1).f0) - 1)))] rfl (by (try simp only [List.map_toArray, List.map_cons, List.map_nil]); first | done | rfl | (simp only [List.length_drop, List.length_take]; rfl)) ?_; (with_reducible refine (pluvialref02_Count.calls k1 (IntKind.u64.wrap (wrap64 (((rd_T38 l1 x6_1).f0) - 1))) t210 _ A13.out).mono ?_); rintro e w17 ⟨rfl, hb⟩; refine ⟨_, rfl, ?_⟩; have n0_ := Aside0.mk (below_step (by repeat (first | (with_reducible first | exact HB.out | apply below_alloc | apply pw_below_drewN | apply below_drew1) | exact HB.out)) hb); clear HB; have HB := n0_; clear n0_; (try clear hb); (try clear hb2); (try clear hk); (try clear hi); have p211 : 0 ≤ (x6_1 : Int) := of_decide_eq_true (by first | (with_reducible assumption) | assumption); have q211 : x6_1 < (l1.length : Int) := of_decide_eq_true (by first | (with_reducible assumption) | assumption); obtain ⟨ad211, e211, hx211_0, hx211_1⟩ := at_T38 HR1.out x6_1 p211 q211; obtain rfl : ad209 = ad211 := (by injection e211); replace hx211_0 := (HB.out.cell (World.block_lt_of_cell? w _ hx211_0)).trans hx211_0; replace hx211_1 := (HB.out.cell (World.block_lt_of_cell? w _ hx211_1)).trans hx211_1; replace p211 := eq_true p211; replace q211 := eq_true q211) | ((with_reducible refine gate_callee (f := 26) rfl ?_); refine goesL_ (some 45) rfl rfl Try.func26 (by kernel_rfl) rfl #[.int .u64 (IntKind.u64.wrap (wrap64 (((rd_T38 l1 x6_1).f1) - 1)))] rfl (by (try simp only [List.map_toArray, List.map_cons, List.map_nil]); first | done | rfl | (simp only [List.length_drop, List.length_take]; rfl)) ?_; (with_reducible refine (pluvialref02_Count.calls k1 (IntKind.u64.wrap (wrap64 (((rd_T38 l1 x6_1).f1) - 1))) t212 _ A15.out).mono ?_); rintro e w18 ⟨rfl, hb⟩; refine ⟨_, rfl, ?_⟩; have n0_ := Aside0.mk (below_step (by repeat (first | (with_reducible first | exact HB.out | apply below_alloc | apply pw_below_drewN | apply below_drew1) | exact HB.out)) hb); clear HB; have HB := n0_; clear n0_; (try clear hb); (try clear hb2); (try clear hk); (try clear hi)))
                    go_roundg k1
                    case measure => have := HK1.out; omega
                    case rel => exact ⟨((x5_1 ++ t210) ++ t212), (wrap64 (x6_1 + 1)), (by first | rfl | (simp; done) | (simp [*]; done)), (by first | rfl | (simp; done) | (simp [*]; done)), H', ⟨by have := HK1.out; omega⟩, ⟨by repeat (first | (with_reducible first | exact HB.out | apply below_alloc | apply pw_below_drewN | apply below_drew1) | exact HB.out)⟩⟩
                  · rw [if_neg c16] at H
                    exact absurd H (by simp)
                · rw [if_neg c14] at H
                  exact absurd H (by simp)
              · rw [if_neg c12] at H
                exact absurd H (by simp)
            · rw [if_neg c11] at H
              have c11b0 : decide (0 < x6_1) = false := decide_eq_false c11
              clear c11
              by_cases c19 : 0 ≤ x6_1
              · rw [if_pos c19] at H
                have c19b0 : decide (0 ≤ x6_1) = true := decide_eq_true c19
                clear c19
                replace H := Option.bind_eq_some_iff.mp H
                obtain ⟨t214, A200, H⟩ := H
                replace H : (if x5_1.size + t214.size ≤ 9223372036854775807 then (pluvialref06_Lay.l0 k1 l1 (x5_1 ++ t214) (wrap64 (x6_1 + 1))) else (none)) = some r := H
                have A20 := Aside0.mk A200
                clear A200
                by_cases c21 : x5_1.size + t214.size ≤ 9223372036854775807
                · rw [if_pos c21] at H
                  have c21b0 := eq_true c21
                  have c21b1 : decide (x5_1.size + t214.size ≤ 9223372036854775807) = true := decide_eq_true c21
                  try have c21b2 : (9223372036854775807 < x5_1.size + t214.size) = False := eq_false (Nat.not_lt.2 c21)
                  have H' := Aside0.mk H
                  clear H
                  have p213 : 0 ≤ (x6_1 : Int) := of_decide_eq_true (by first | (with_reducible assumption) | assumption)
                  have q213 : x6_1 < (l1.length : Int) := of_decide_eq_true (by first | (with_reducible assumption) | assumption)
                  obtain ⟨ad213, e213, hx213_0, hx213_1⟩ := at_T38 HR1.out x6_1 p213 q213
                  cases e213
                  replace hx213_0 := (HB.out.cell (World.block_lt_of_cell? w _ hx213_0)).trans hx213_0
                  replace hx213_1 := (HB.out.cell (World.block_lt_of_cell? w _ hx213_1)).trans hx213_1
                  replace p213 := eq_true p213
                  replace q213 := eq_true q213
                  go_wp2_with (first | ((with_reducible refine gate_callee (f := 26) rfl ?_); refine goesL_ (some 45) rfl rfl Try.func26 (by kernel_rfl) rfl #[.int .u64 (IntKind.u64.wrap (wrap64 (((rd_T38 l1 x6_1).f1) - 1)))] rfl (by (try simp only [List.map_toArray, List.map_cons, List.map_nil]); first | done | rfl | (simp only [List.length_drop, List.length_take]; rfl)) ?_; (with_reducible refine (pluvialref02_Count.calls k1 (IntKind.u64.wrap (wrap64 (((rd_T38 l1 x6_1).f1) - 1))) t214 _ A20.out).mono ?_); rintro e w22 ⟨rfl, hb⟩; refine ⟨_, rfl, ?_⟩; have n0_ := Aside0.mk (below_step (by repeat (first | (with_reducible first | exact HB.out | apply below_alloc | apply pw_below_drewN | apply below_drew1) | exact HB.out)) hb); clear HB; have HB := n0_; clear n0_; (try clear hb); (try clear hb2); (try clear hk); (try clear hi)))
                  go_roundg k1
                  case measure => have := HK1.out; omega
                  case rel => exact ⟨(x5_1 ++ t214), (wrap64 (x6_1 + 1)), (by first | rfl | (simp; done) | (simp [*]; done)), (by first | rfl | (simp; done) | (simp [*]; done)), H', ⟨by have := HK1.out; omega⟩, ⟨by repeat (first | (with_reducible first | exact HB.out | apply below_alloc | apply pw_below_drewN | apply below_drew1) | exact HB.out)⟩⟩
                · rw [if_neg c21] at H
                  exact absurd H (by simp)
              · rw [if_neg c19] at H
                exact absurd H (by simp)
          · rw [if_neg c10] at H
            have c10b0 : decide (x6_1 < (l1.length : Int)) = false := decide_eq_false c10
            clear c10
            obtain rfl := Option.some.inj H
            go_wp2
            go_ret
            exact ⟨by first | rfl | (simp [errW_none, errW_some] <;> rfl) | (simp [*, errW_none, errW_some] <;> rfl), by repeat (first | (with_reducible first | exact HB.out | apply below_alloc | apply pw_below_drewN | apply below_drew1) | exact HB.out)⟩
    · rw [if_neg c7] at H
      exact absurd H (by simp)

/-! ### pluvialref02_Text: function 20 -/
def pluvialref02_Text.l0 : Nat → List Int → ByteArray → Int → Option (ByteArray)
  | 0, _, _, _ => none
  | k + 1, x0, x3, x4 => if x4 < (x0.length : Int) then (if 0 ≤ x4 then ((pluvialref02_Put.f k (IntKind.u64.wrap (rd x0 x4)) 8).bind fun t216 => (if x3.size + t216.size ≤ 9223372036854775807 then (pluvialref02_Text.l0 k x0 (x3 ++ t216) (wrap64 (x4 + 1))) else (none))) else (none)) else (some x3)
def pluvialref02_Text.f (k : Nat) (l0 : List Int) : Option (ByteArray) := pluvialref02_Text.l0 k l0 (⟨#[]⟩ : ByteArray) 0
theorem pluvialref02_Text.mono_l : ∀ k, (∀ y0 y1 y2, LeO (pluvialref02_Text.l0 k y0 y1 y2) (pluvialref02_Text.l0 (k + 1) y0 y1 y2))
  | 0 => fun _ _ _ r h => by simp [pluvialref02_Text.l0] at h
  | k + 1 => by
    have ih0 := pluvialref02_Text.mono_l k
    · intro y0 y1 y2
      unfold pluvialref02_Text.l0
      repeat' first
      | (with_reducible exact ih0 _ _ _)
      | (with_reducible exact pluvialref02_Put.mono _ _ _)
      | (with_reducible exact LeO.refl _)
      | (with_reducible exact LeO.none _)
      | (with_reducible refine LeO.ite ?_ ?_)
      | (with_reducible refine LeO.bind ?_ (fun _ => ?_))
      | exact ih0 _ _ _
      | exact pluvialref02_Put.mono _ _ _
      | exact LeO.none _
      | refine LeO.ite ?_ ?_
      | refine LeO.bind ?_ (fun _ => ?_)
theorem pluvialref02_Text.mono : ∀ a0 k, LeO (pluvialref02_Text.f k a0) (pluvialref02_Text.f (k + 1) a0) := by
  intro a0 k
  have ih0 := pluvialref02_Text.mono_l k
  unfold pluvialref02_Text.f
  repeat' first
      | (with_reducible exact ih0 _ _ _)
      | (with_reducible exact pluvialref02_Put.mono _ _ _)
      | (with_reducible exact LeO.refl _)
      | (with_reducible exact LeO.none _)
      | (with_reducible refine LeO.ite ?_ ?_)
      | (with_reducible refine LeO.bind ?_ (fun _ => ?_))
      | exact ih0 _ _ _
      | exact pluvialref02_Put.mono _ _ _
      | exact LeO.none _
      | refine LeO.ite ?_ ?_
      | refine LeO.bind ?_ (fun _ => ?_)
set_option maxHeartbeats 8000000 in
set_option maxRecDepth 100000 in
theorem pluvialref02_Text.calls (k : Nat) (A0 : Option Addr) (c0 : Nat) (l0 : List Int) (r : ByteArray) (w : World) (hr0 : Kd.C (Kd.int .u8) w A0 l0.length l0) (hc0 : l0.length ≤ c0) (h : pluvialref02_Text.f k l0 = some r) :
    Calls Try.prog 20 #[.slice A0 l0.length c0] w fun e w' => e = .returned (.string r) ∧ Drawn0 w w' := by
  have HR0 := Aside0.mk hr0
  have HC0 := Aside0.mk hc0
  clear hr0 hc0
  have H : (pluvialref02_Text.l0 k l0 (⟨#[]⟩ : ByteArray) 0) = some r := h
  clear h
  have H' := Aside0.mk H
  clear H
  go_enter Try.func20, Try.ntmps20
  go_wp2
  go_loopg [3, 4] k (fun kq v3 v4 w' => ∃ (x3_1 : ByteArray) (x4_1 : Int), v3 = .string x3_1 ∧ v4 = .int .i64 x4_1 ∧ Aside0 (pluvialref02_Text.l0 kq l0 x3_1 x4_1 = some r) ∧ Aside0 (kq ≤ k) ∧ Drawn0 w w')
  case atStart => exact ⟨((⟨#[]⟩ : ByteArray)), (0), (by first | rfl | (simp; done) | (simp [*]; done)), (by first | rfl | (simp; done) | (simp [*]; done)), H', ⟨Nat.le_refl _⟩, by repeat (first | exact Drawn0.refl _ | apply Drawn0.step)⟩
  case round =>
    clear H'
    obtain ⟨x3_1, x4_1, rfl, rfl, HA, HK1, ⟨m1, rfl⟩⟩ := hrel
    cases gk with
    | zero => exact absurd HA.out (by simp [pluvialref02_Text.l0])
    | succ k1 =>
      have H := HA.out
      clear HA
      simp only [pluvialref02_Text.l0] at H
      by_cases c2 : x4_1 < (l0.length : Int)
      · rw [if_pos c2] at H
        have c2b0 : decide (x4_1 < (l0.length : Int)) = true := decide_eq_true c2
        clear c2
        by_cases c3 : 0 ≤ x4_1
        · rw [if_pos c3] at H
          have c3b0 : decide (0 ≤ x4_1) = true := decide_eq_true c3
          clear c3
          replace H := Option.bind_eq_some_iff.mp H
          obtain ⟨t216, A40, H⟩ := H
          replace H : (if x3_1.size + t216.size ≤ 9223372036854775807 then (pluvialref02_Text.l0 k1 l0 (x3_1 ++ t216) (wrap64 (x4_1 + 1))) else (none)) = some r := H
          have A4 := Aside0.mk A40
          clear A40
          by_cases c5 : x3_1.size + t216.size ≤ 9223372036854775807
          · rw [if_pos c5] at H
            have c5b0 := eq_true c5
            have c5b1 : decide (x3_1.size + t216.size ≤ 9223372036854775807) = true := decide_eq_true c5
            try have c5b2 : (9223372036854775807 < x3_1.size + t216.size) = False := eq_false (Nat.not_lt.2 c5)
            have H' := Aside0.mk H
            clear H
            have p215 : 0 ≤ (x4_1 : Int) := of_decide_eq_true (by first | (with_reducible assumption) | assumption)
            have q215 : x4_1 < (l0.length : Int) := of_decide_eq_true (by first | (with_reducible assumption) | assumption)
            obtain ⟨ad215, e215, hx215_0⟩ := Kd.at_int HR0.out x4_1 p215 q215
            cases e215
            replace p215 := eq_true p215
            replace q215 := eq_true q215
            go_wp2_with (first | (go_at_call 28; (with_reducible refine (pluvialref02_Put.calls k1 (IntKind.u64.wrap (rd l0 x4_1)) 8 t216 _ A4.out).mono ?_); rintro e w' ⟨rfl, ⟨nd, rfl⟩⟩))
            go_roundg k1
            case measure => have := HK1.out; omega
            case rel => exact ⟨(x3_1 ++ t216), (wrap64 (x4_1 + 1)), (by first | rfl | (simp; done) | (simp [*]; done)), (by first | rfl | (simp; done) | (simp [*]; done)), H', ⟨by have := HK1.out; omega⟩, by repeat (first | exact Drawn0.refl _ | apply Drawn0.step)⟩
          · rw [if_neg c5] at H
            exact absurd H (by simp)
        · rw [if_neg c3] at H
          exact absurd H (by simp)
      · rw [if_neg c2] at H
        have c2b0 : decide (x4_1 < (l0.length : Int)) = false := decide_eq_false c2
        clear c2
        obtain rfl := Option.some.inj H
        go_wp2
        go_ret
        exact ⟨by first | rfl | (simp; done) | (simp [*]; done), by repeat (first | exact Drawn0.refl _ | apply Drawn0.step)⟩

end Go.Proofs.Ytpdhcgicnhgfoaa.QSpanTakes
