-- Written by a program of the session (wip/xprint.sh, wip/xpatch.py; a variant of the print) out of the translation. Lean checks it.
import Derived.Test.YtdonphglmeimbaaQNumTurnsx0
import Derived.Test.YtdonphglmeimbaaQNumTurnsx1
import Derived.Test.YtdonphglmeimbaaQNumTurnsx2
namespace Go.Proofs.Ytdonphglmeimbaa.QNumTurns
open Go.RowKit Go.Proofs.YtdonphglmeimbaaW.PrintWords Go.Proofs.YtdonphglmeimbaaW.PrintLast Go.Proofs.YtdonphglmeimbaaW.PrintMore
attribute [local go_sem] max2_int min2_int max_two min_two max_three min_three max_four min_four   -- for this text's walks alone
set_option linter.unusedVariables false
set_option linter.unusedSimpArgs false

attribute [local go_sem high] eqA32
/-! ### pluviallaw01_NumTurns: function 7 -/
mutual
def pluviallaw01_NumTurns.j0 : Nat → Int → Int → Int → Int → Int → Bool → Option (Bool)
  | 0, _, _, _, _, _, _ => none
  | k + 1, x0, x1, x2, x3, x4, x59 => if x59 = true then (some false) else ((num_Add.f k (([x0, x1] : List Int))).bind fun bt140 => (if bt140.2 = 0 then ((num_Sub.f bt140.1 x1).bind fun bt142 => (if bt142.1 = x0 then (if bt142.2 = 0 then (pluviallaw01_NumTurns.j1 k x0 x1 x2 x3 x4) else (some false)) else (some false))) else (pluviallaw01_NumTurns.j1 k x0 x1 x2 x3 x4)))
def pluviallaw01_NumTurns.j1 : Nat → Int → Int → Int → Int → Int → Option (Bool)
  | 0, _, _, _, _, _ => none
  | k + 1, x0, x1, x2, x3, x4 => (num_AddInt.f k (([x3, x4] : List Int))).bind fun bt147 => (if bt147.2 = 0 then ((num_SubInt.f bt147.1 x4).bind fun bt149 => (if bt149.1 = x3 then (if bt149.2 = 0 then (pluviallaw01_NumTurns.j2 k x0 x1 x2 x3 x4) else (some false)) else (some false))) else (pluviallaw01_NumTurns.j2 k x0 x1 x2 x3 x4))
def pluviallaw01_NumTurns.j2 : Nat → Int → Int → Int → Int → Int → Option (Bool)
  | 0, _, _, _, _, _ => none
  | k + 1, x0, x1, x2, x3, x4 => (num_AddInt.f k (([x3, x4, x3] : List Int))).bind fun bt154 => ((num_AddInt.f k (([x3, x3, x4] : List Int))).bind fun bt159 => ((pluviallaw01_awake.f).bind fun t161 => (if t161 = true then (if bt154.1 = bt159.1 then (if bt154.2 = bt159.2 then ((num_Ratio.f x0 x1 x2 x2).bind fun t162 => ((num_Ratio.f x2 x2 x0 x1).bind fun t163 => (some (t162 == (wrap64 (-t163)))))) else (some false)) else (some false)) else (some false))))
end
def pluviallaw01_NumTurns.f (k : Nat) (a0 : Int) (a1 : Int) (a2 : Int) (a3 : Int) (a4 : Int) : Option (Bool) := (num_Add.f k (([a0, a1, a2] : List Int))).bind fun bt126 => ((num_Add.f k (([a2, a0, a1] : List Int))).bind fun bt131 => (if bt126.1 = bt131.1 then (if bt126.2 = bt131.2 then ((num_Mul.f a0 a1).bind fun bt133 => ((num_Mul.f a1 a0).bind fun bt135 => (pluviallaw01_NumTurns.j0 k a0 a1 a2 a3 a4 (!(bt133.1 == bt135.1) || (!(bt133.2 == bt135.2)))))) else (pluviallaw01_NumTurns.j0 k a0 a1 a2 a3 a4 true)) else (pluviallaw01_NumTurns.j0 k a0 a1 a2 a3 a4 true)))
theorem pluviallaw01_NumTurns.mono_l : ∀ k, (∀ y0 y1 y2 y3 y4 y5, LeO (pluviallaw01_NumTurns.j0 k y0 y1 y2 y3 y4 y5) (pluviallaw01_NumTurns.j0 (k + 1) y0 y1 y2 y3 y4 y5)) ∧ (∀ y0 y1 y2 y3 y4, LeO (pluviallaw01_NumTurns.j1 k y0 y1 y2 y3 y4) (pluviallaw01_NumTurns.j1 (k + 1) y0 y1 y2 y3 y4)) ∧ (∀ y0 y1 y2 y3 y4, LeO (pluviallaw01_NumTurns.j2 k y0 y1 y2 y3 y4) (pluviallaw01_NumTurns.j2 (k + 1) y0 y1 y2 y3 y4))
  | 0 => ⟨fun _ _ _ _ _ _ r h => by simp [pluviallaw01_NumTurns.j0] at h, fun _ _ _ _ _ r h => by simp [pluviallaw01_NumTurns.j1] at h, fun _ _ _ _ _ r h => by simp [pluviallaw01_NumTurns.j2] at h⟩
  | k + 1 => by
    obtain ⟨ih0, ih1, ih2⟩ := pluviallaw01_NumTurns.mono_l k
    refine ⟨?_, ?_, ?_⟩
    · intro y0 y1 y2 y3 y4 y5
      unfold pluviallaw01_NumTurns.j0
      repeat' first
      | (with_reducible exact ih0 _ _ _ _ _ _)
      | (with_reducible exact ih1 _ _ _ _ _)
      | (with_reducible exact ih2 _ _ _ _ _)
      | (with_reducible exact num_Add.mono _ _)
      | (with_reducible exact num_AddInt.mono _ _)
      | (with_reducible exact LeO.refl _)
      | (with_reducible exact LeO.none _)
      | (with_reducible refine LeO.ite ?_ ?_)
      | (with_reducible refine LeO.bind ?_ (fun _ => ?_))
      | exact ih0 _ _ _ _ _ _
      | exact ih1 _ _ _ _ _
      | exact ih2 _ _ _ _ _
      | exact num_Add.mono _ _
      | exact num_AddInt.mono _ _
      | exact LeO.none _
      | refine LeO.ite ?_ ?_
      | refine LeO.bind ?_ (fun _ => ?_)
    · intro y0 y1 y2 y3 y4
      unfold pluviallaw01_NumTurns.j1
      repeat' first
      | (with_reducible exact ih0 _ _ _ _ _ _)
      | (with_reducible exact ih1 _ _ _ _ _)
      | (with_reducible exact ih2 _ _ _ _ _)
      | (with_reducible exact num_Add.mono _ _)
      | (with_reducible exact num_AddInt.mono _ _)
      | (with_reducible exact LeO.refl _)
      | (with_reducible exact LeO.none _)
      | (with_reducible refine LeO.ite ?_ ?_)
      | (with_reducible refine LeO.bind ?_ (fun _ => ?_))
      | exact ih0 _ _ _ _ _ _
      | exact ih1 _ _ _ _ _
      | exact ih2 _ _ _ _ _
      | exact num_Add.mono _ _
      | exact num_AddInt.mono _ _
      | exact LeO.none _
      | refine LeO.ite ?_ ?_
      | refine LeO.bind ?_ (fun _ => ?_)
    · intro y0 y1 y2 y3 y4
      unfold pluviallaw01_NumTurns.j2
      repeat' first
      | (with_reducible exact ih0 _ _ _ _ _ _)
      | (with_reducible exact ih1 _ _ _ _ _)
      | (with_reducible exact ih2 _ _ _ _ _)
      | (with_reducible exact num_Add.mono _ _)
      | (with_reducible exact num_AddInt.mono _ _)
      | (with_reducible exact LeO.refl _)
      | (with_reducible exact LeO.none _)
      | (with_reducible refine LeO.ite ?_ ?_)
      | (with_reducible refine LeO.bind ?_ (fun _ => ?_))
      | exact ih0 _ _ _ _ _ _
      | exact ih1 _ _ _ _ _
      | exact ih2 _ _ _ _ _
      | exact num_Add.mono _ _
      | exact num_AddInt.mono _ _
      | exact LeO.none _
      | refine LeO.ite ?_ ?_
      | refine LeO.bind ?_ (fun _ => ?_)
theorem pluviallaw01_NumTurns.mono : ∀ a0 a1 a2 a3 a4 k, LeO (pluviallaw01_NumTurns.f k a0 a1 a2 a3 a4) (pluviallaw01_NumTurns.f (k + 1) a0 a1 a2 a3 a4) := by
  intro a0 a1 a2 a3 a4 k
  obtain ⟨ih0, ih1, ih2⟩ := pluviallaw01_NumTurns.mono_l k
  unfold pluviallaw01_NumTurns.f
  repeat' first
      | (with_reducible exact ih0 _ _ _ _ _ _)
      | (with_reducible exact ih1 _ _ _ _ _)
      | (with_reducible exact ih2 _ _ _ _ _)
      | (with_reducible exact num_Add.mono _ _)
      | (with_reducible exact num_AddInt.mono _ _)
      | (with_reducible exact LeO.refl _)
      | (with_reducible exact LeO.none _)
      | (with_reducible refine LeO.ite ?_ ?_)
      | (with_reducible refine LeO.bind ?_ (fun _ => ?_))
      | exact ih0 _ _ _ _ _ _
      | exact ih1 _ _ _ _ _
      | exact ih2 _ _ _ _ _
      | exact num_Add.mono _ _
      | exact num_AddInt.mono _ _
      | exact LeO.none _
      | refine LeO.ite ?_ ?_
      | refine LeO.bind ?_ (fun _ => ?_)
set_option maxHeartbeats 8000000 in
set_option maxRecDepth 100000 in
theorem pluviallaw01_NumTurns.calls (k : Nat) (a0 : Int) (a1 : Int) (a2 : Int) (a3 : Int) (a4 : Int) (r : Bool) (w : World) (h : pluviallaw01_NumTurns.f k a0 a1 a2 a3 a4 = some r) :
    Calls Try.prog 7 #[.int .u64 a0, .int .u64 a1, .int .u64 a2, .int .i64 a3, .int .i64 a4] w fun e w' => e = .returned (.bool r) ∧ Below w.heap.size w w' := by
  have HB := Aside0.mk (Below.refl w.heap.size w)
  have H : ((num_Add.f k (([a0, a1, a2] : List Int))).bind fun bt126 => ((num_Add.f k (([a2, a0, a1] : List Int))).bind fun bt131 => (if bt126.1 = bt131.1 then (if bt126.2 = bt131.2 then ((num_Mul.f a0 a1).bind fun bt133 => ((num_Mul.f a1 a0).bind fun bt135 => (pluviallaw01_NumTurns.j0 k a0 a1 a2 a3 a4 (!(bt133.1 == bt135.1) || (!(bt133.2 == bt135.2)))))) else (pluviallaw01_NumTurns.j0 k a0 a1 a2 a3 a4 true)) else (pluviallaw01_NumTurns.j0 k a0 a1 a2 a3 a4 true)))) = some r := h
  clear h
  obtain ⟨y123, hy123⟩ : ∃ y_ : List Int, y_ = (([a0, a1, a2] : List Int)) := ⟨_, rfl⟩
  replace H : ((num_Add.f k y123).bind fun bt126 => ((num_Add.f k (([a2, a0, a1] : List Int))).bind fun bt131 => (if bt126.1 = bt131.1 then (if bt126.2 = bt131.2 then ((num_Mul.f a0 a1).bind fun bt133 => ((num_Mul.f a1 a0).bind fun bt135 => (pluviallaw01_NumTurns.j0 k a0 a1 a2 a3 a4 (!(bt133.1 == bt135.1) || (!(bt133.2 == bt135.2)))))) else (pluviallaw01_NumTurns.j0 k a0 a1 a2 a3 a4 true)) else (pluviallaw01_NumTurns.j0 k a0 a1 a2 a3 a4 true)))) = some r := by first | (rw [hy123]; with_reducible exact H) | (have H2_ := (Option.bind_some _ _).symm.trans H; rw [hy123]; with_reducible exact H2_) | (have H2_ := (Option.bind_some _ _).symm.trans H; with_reducible exact H2_) | with_reducible exact H | (rw [hy123]; exact H) | exact H
  have Ny123 := Aside0.mk hy123
  clear hy123
  replace H := Option.bind_eq_some_iff.mp H
  obtain ⟨⟨t126, t127⟩, A60, H⟩ := H
  replace H : ((num_Add.f k (([a2, a0, a1] : List Int))).bind fun bt131 => (if t126 = bt131.1 then (if t127 = bt131.2 then ((num_Mul.f a0 a1).bind fun bt133 => ((num_Mul.f a1 a0).bind fun bt135 => (pluviallaw01_NumTurns.j0 k a0 a1 a2 a3 a4 (!(bt133.1 == bt135.1) || (!(bt133.2 == bt135.2)))))) else (pluviallaw01_NumTurns.j0 k a0 a1 a2 a3 a4 true)) else (pluviallaw01_NumTurns.j0 k a0 a1 a2 a3 a4 true))) = some r := H
  have A6 := Aside0.mk A60
  clear A60
  obtain ⟨y128, hy128⟩ : ∃ y_ : List Int, y_ = (([a2, a0, a1] : List Int)) := ⟨_, rfl⟩
  replace H : ((num_Add.f k y128).bind fun bt131 => (if t126 = bt131.1 then (if t127 = bt131.2 then ((num_Mul.f a0 a1).bind fun bt133 => ((num_Mul.f a1 a0).bind fun bt135 => (pluviallaw01_NumTurns.j0 k a0 a1 a2 a3 a4 (!(bt133.1 == bt135.1) || (!(bt133.2 == bt135.2)))))) else (pluviallaw01_NumTurns.j0 k a0 a1 a2 a3 a4 true)) else (pluviallaw01_NumTurns.j0 k a0 a1 a2 a3 a4 true))) = some r := by first | (rw [hy128]; with_reducible exact H) | (have H2_ := (Option.bind_some _ _).symm.trans H; rw [hy128]; with_reducible exact H2_) | (have H2_ := (Option.bind_some _ _).symm.trans H; with_reducible exact H2_) | with_reducible exact H | (rw [hy128]; exact H) | exact H
  have Ny128 := Aside0.mk hy128
  clear hy128
  replace H := Option.bind_eq_some_iff.mp H
  obtain ⟨⟨t131, t132⟩, A70, H⟩ := H
  replace H : (if t126 = t131 then (if t127 = t132 then ((num_Mul.f a0 a1).bind fun bt133 => ((num_Mul.f a1 a0).bind fun bt135 => (pluviallaw01_NumTurns.j0 k a0 a1 a2 a3 a4 (!(bt133.1 == bt135.1) || (!(bt133.2 == bt135.2)))))) else (pluviallaw01_NumTurns.j0 k a0 a1 a2 a3 a4 true)) else (pluviallaw01_NumTurns.j0 k a0 a1 a2 a3 a4 true)) = some r := H
  have A7 := Aside0.mk A70
  clear A70
  have HC8 := Aside0.mk H
  clear H
  go_enter Try.func7, Try.ntmps7
  go_upto_region 3 with (first | ((with_reducible refine gate_dst (N := 31) rfl ?_); refine Kd.R_lit (Kd.int .u64) _ 26 ?hg (N := 31) ?hd (xs := ([a0, a1, a2] : List Int)) (inner := [.int .u64 a0, .int .u64 a1, .int .u64 a2]) (ok := fun _ => True) (okp := fun _ => True) ?hr ?hp (fun _ hk => hk) trivial (Below.refl _ _) (Nat.le_refl _) (by simp) ?_; (case hd => rfl); (case hg => rfl); (case hr => first | (go_simp; done) | (go_simp; rfl)); (case hp => exact (Reps.one (show Kd.M (Kd.int .u64) _ _ _ a0 [.int .u64 a0] from rfl) (Reps.one (show Kd.M (Kd.int .u64) _ _ _ a1 [.int .u64 a1] from rfl) (Reps.one (show Kd.M (Kd.int .u64) _ _ _ a2 [.int .u64 a2] from rfl) (Reps.none _ _))))); intro v124 w9 ho10 hb hg_ hnew_; clear hg_ hnew_; (first | rw [← Ny123.out] at ho10 | (simp only [Int.reduceToNat] at ho10; rw [← Ny123.out] at ho10)); have n0_ := Aside0.mk (Kd.R_lower ho10 (below_size (by repeat (first | (with_reducible first | exact HB.out | apply below_alloc | apply pw_below_drewN | apply below_drew1) | exact HB.out)))); have n1_ := Aside0.mk (below_step (by repeat (first | (with_reducible first | exact HB.out | apply below_alloc | apply pw_below_drewN | apply below_drew1) | exact HB.out)) hb); clear HB; have HO125 := n0_; have HB := n1_; clear n0_ n1_; clear hb ho10; obtain ⟨Ao11, co11, eo11⟩ := Kd.R_slice HO125.out; subst eo11) | (go_at_call 22; (with_reducible refine (num_Add.calls k _ _ y123 t126 t127 _ ?side1 ?side2 A6.out).mono ?_); (case side1 => repeat (first | exact (Kd.R_reads' HO125.out).2.2 | (with_reducible refine Kd.C_alloc ?_ _) | (with_reducible refine Kd.C_drewN ?_ _) | (with_reducible refine Kd.C_drew ?_))); (case side2 => exact (Kd.R_reads' HO125.out).2.1); rintro e w' ⟨rfl, ⟨nd, rfl⟩⟩) | ((with_reducible refine gate_dst (N := 39) rfl ?_); refine Kd.R_lit (Kd.int .u64) _ 26 ?hg (N := 39) ?hd (xs := ([a2, a0, a1] : List Int)) (inner := [.int .u64 a2, .int .u64 a0, .int .u64 a1]) (ok := fun _ => True) (okp := fun _ => True) ?hr ?hp (fun _ hk => hk) trivial (Below.refl _ _) (Nat.le_refl _) (by simp) ?_; (case hd => rfl); (case hg => rfl); (case hr => first | (go_simp; done) | (go_simp; rfl)); (case hp => exact (Reps.one (show Kd.M (Kd.int .u64) _ _ _ a2 [.int .u64 a2] from rfl) (Reps.one (show Kd.M (Kd.int .u64) _ _ _ a0 [.int .u64 a0] from rfl) (Reps.one (show Kd.M (Kd.int .u64) _ _ _ a1 [.int .u64 a1] from rfl) (Reps.none _ _))))); intro v129 w12 ho13 hb hg_ hnew_; clear hg_ hnew_; (first | rw [← Ny128.out] at ho13 | (simp only [Int.reduceToNat] at ho13; rw [← Ny128.out] at ho13)); have n0_ := Aside0.mk (Kd.R_elder' (by (with_reducible repeat (first | apply Kd.R_alloc | apply Kd.R_drewN | apply Kd.R_drew)); exact HO125.out) (Kd.R_base ho13) hb); have n1_ := Aside0.mk (Kd.R_lower (Kd.R_new' ho13 (Kd.R_lt (by (with_reducible repeat (first | apply Kd.R_alloc | apply Kd.R_drewN | apply Kd.R_drew)); exact HO125.out))) (below_size (by repeat (first | (with_reducible first | exact HB.out | apply below_alloc | apply pw_below_drewN | apply below_drew1) | exact HB.out)))); have n2_ := Aside0.mk (below_step (by repeat (first | (with_reducible first | exact HB.out | apply below_alloc | apply pw_below_drewN | apply below_drew1) | exact HB.out)) hb); clear HO125; clear HB; have HO125 := n0_; have HO130 := n1_; have HB := n2_; clear n0_ n1_ n2_; clear hb ho13; obtain ⟨Ao14, co14, eo14⟩ := Kd.R_slice HO130.out; subst eo14) | (go_at_call 22; (with_reducible refine (num_Add.calls k _ _ y128 t131 t132 _ ?side1 ?side2 A7.out).mono ?_); (case side1 => repeat (first | exact (Kd.R_reads' HO130.out).2.2 | (with_reducible refine Kd.C_alloc ?_ _) | (with_reducible refine Kd.C_drewN ?_ _) | (with_reducible refine Kd.C_drew ?_))); (case side2 => exact (Kd.R_reads' HO130.out).2.1); rintro e w' ⟨rfl, ⟨nd, rfl⟩⟩))
  (try simp only [Act.put, List.setIfInBounds_toArray, List.set_cons_zero, List.set_cons_succ])
  go_cut [59] (fun v59 wc => ∃ (kq : Nat) (x59_7 : Bool), v59 = .bool x59_7 ∧ Aside0 (pluviallaw01_NumTurns.j0 kq a0 a1 a2 a3 a4 x59_7 = some r) ∧ Aside0 (kq ≤ k) ∧ Aside0 (Below w.heap.size w wc))
  case first =>
    have H := HC8.out
    clear HC8
    by_cases c15 : t126 = t131
    · rw [if_pos c15] at H
      have c15b0 : (t126 == t131) = true := beq_iff_eq.mpr c15
      have c15b1 : (t126 != t131) = false := bne_eq_false_iff_eq.mpr c15
      clear c15
      (first | rw [c15b0] | (simp only [i64_w, i32_w]; rw [c15b0]) | skip)
      by_cases c16 : t127 = t132
      · rw [if_pos c16] at H
        have c16b0 : (t127 == t132) = true := beq_iff_eq.mpr c16
        have c16b1 : (t127 != t132) = false := bne_eq_false_iff_eq.mpr c16
        clear c16
        replace H := Option.bind_eq_some_iff.mp H
        obtain ⟨⟨t133, t134⟩, A170, H⟩ := H
        replace H : ((num_Mul.f a1 a0).bind fun bt135 => (pluviallaw01_NumTurns.j0 k a0 a1 a2 a3 a4 (!(t133 == bt135.1) || (!(t134 == bt135.2))))) = some r := H
        have A17 := Aside0.mk A170
        clear A170
        replace H := Option.bind_eq_some_iff.mp H
        obtain ⟨⟨t135, t136⟩, A180, H⟩ := H
        replace H : (pluviallaw01_NumTurns.j0 k a0 a1 a2 a3 a4 (!(t133 == t135) || (!(t134 == t136)))) = some r := H
        have A18 := Aside0.mk A180
        clear A180
        have H' := Aside0.mk H
        clear H
        go_wp2_with (first | (go_at_call 16; (with_reducible refine (num_Mul.calls a0 a1 t133 t134 _ A17.out).mono ?_); rintro e w19 ⟨rfl, hb⟩; have n0_ := Aside0.mk (Kd.R_below (by (with_reducible repeat (first | apply Kd.R_alloc | apply Kd.R_drewN | apply Kd.R_drew)); exact HO125.out) hb); have n1_ := Aside0.mk (Kd.R_below (by (with_reducible repeat (first | apply Kd.R_alloc | apply Kd.R_drewN | apply Kd.R_drew)); exact HO130.out) hb); have n2_ := Aside0.mk (below_step (by repeat (first | (with_reducible first | exact HB.out | apply below_alloc | apply pw_below_drewN | apply below_drew1) | exact HB.out)) hb); clear HO125; clear HO130; clear HB; have HO125 := n0_; have HO130 := n1_; have HB := n2_; clear n0_ n1_ n2_; (try clear hb); (try clear hb2); (try clear hk); (try clear hi)) | (go_at_call 16; (with_reducible refine (num_Mul.calls a1 a0 t135 t136 _ A18.out).mono ?_); rintro e w20 ⟨rfl, hb⟩; have n0_ := Aside0.mk (Kd.R_below (by (with_reducible repeat (first | apply Kd.R_alloc | apply Kd.R_drewN | apply Kd.R_drew)); exact HO125.out) hb); have n1_ := Aside0.mk (Kd.R_below (by (with_reducible repeat (first | apply Kd.R_alloc | apply Kd.R_drewN | apply Kd.R_drew)); exact HO130.out) hb); have n2_ := Aside0.mk (below_step (by repeat (first | (with_reducible first | exact HB.out | apply below_alloc | apply pw_below_drewN | apply below_drew1) | exact HB.out)) hb); clear HO125; clear HO130; clear HB; have HO125 := n0_; have HO130 := n1_; have HB := n2_; clear n0_ n1_ n2_; (try clear hb); (try clear hb2); (try clear hk); (try clear hi)))
        go_meet
        case rel => exact ⟨_, ((!(t133 == t135) || (!(t134 == t136)))), (by first | rfl | (simp; done) | (simp [*]; done)), H', ⟨by first | omega | exact Nat.le_refl _⟩, ⟨by repeat (first | (with_reducible first | exact HB.out | apply below_alloc | apply pw_below_drewN | apply below_drew1) | exact HB.out)⟩⟩
      · rw [if_neg c16] at H
        have c16b0 : (t127 == t132) = false := beq_eq_false_iff_ne.mpr c16
        have c16b1 : (t127 != t132) = true := bne_iff_ne.mpr c16
        have H' := Aside0.mk H
        clear H
        go_wp2
        go_meet
        case rel => exact ⟨_, (true), (by first | rfl | (simp; done) | (simp [*]; done)), H', ⟨by first | omega | exact Nat.le_refl _⟩, ⟨by repeat (first | (with_reducible first | exact HB.out | apply below_alloc | apply pw_below_drewN | apply below_drew1) | exact HB.out)⟩⟩
    · rw [if_neg c15] at H
      have c15b0 : (t126 == t131) = false := beq_eq_false_iff_ne.mpr c15
      have c15b1 : (t126 != t131) = true := bne_iff_ne.mpr c15
      (first | rw [c15b0] | (simp only [i64_w, i32_w]; rw [c15b0]) | skip)
      have H' := Aside0.mk H
      clear H
      go_wp2
      go_meet
      case rel => exact ⟨_, (true), (by first | rfl | (simp; done) | (simp [*]; done)), H', ⟨by first | omega | exact Nat.le_refl _⟩, ⟨by repeat (first | (with_reducible first | exact HB.out | apply below_alloc | apply pw_below_drewN | apply below_drew1) | exact HB.out)⟩⟩
  case rest =>
    clear HC8
    try clear c1
    try clear p2
    try clear c7
    try clear c15
    try clear c15b0
    try clear c15b1
    try clear c16
    try clear c16b0
    try clear c16b1
    obtain ⟨kq, x59_7, rfl, HA, HJ7, HB⟩ := hcut
    cases kq with
    | zero => exact absurd HA.out (by simp [pluviallaw01_NumTurns.j0])
    | succ kj7 =>
      have H := HA.out
      clear HA
      simp only [pluviallaw01_NumTurns.j0] at H
      by_cases c21 : x59_7 = true
      · subst c21
        have H1 : (some false) = some r := by rw [if_pos rfl] at H; exact H
        clear H
        have H := H1
        clear H1
        obtain rfl := Option.some.inj H
        go_wp2
        go_ret
        exact ⟨by first | rfl | (simp [errW_none, errW_some] <;> rfl) | (simp [*, errW_none, errW_some] <;> rfl), by repeat (first | (with_reducible first | exact HB.out | apply below_alloc | apply pw_below_drewN | apply below_drew1) | exact HB.out)⟩
      · replace c21 := Bool.eq_false_iff.mpr c21
        subst c21
        have H1 : ((num_Add.f kj7 (([a0, a1] : List Int))).bind fun bt140 => (if bt140.2 = 0 then ((num_Sub.f bt140.1 a1).bind fun bt142 => (if bt142.1 = a0 then (if bt142.2 = 0 then (pluviallaw01_NumTurns.j1 kj7 a0 a1 a2 a3 a4) else (some false)) else (some false))) else (pluviallaw01_NumTurns.j1 kj7 a0 a1 a2 a3 a4))) = some r := by rw [if_neg (show ¬ (false = true) by decide)] at H; exact H
        clear H
        have H := H1
        clear H1
        obtain ⟨y137, hy137⟩ : ∃ y_ : List Int, y_ = (([a0, a1] : List Int)) := ⟨_, rfl⟩
        replace H : ((num_Add.f kj7 y137).bind fun bt140 => (if bt140.2 = 0 then ((num_Sub.f bt140.1 a1).bind fun bt142 => (if bt142.1 = a0 then (if bt142.2 = 0 then (pluviallaw01_NumTurns.j1 kj7 a0 a1 a2 a3 a4) else (some false)) else (some false))) else (pluviallaw01_NumTurns.j1 kj7 a0 a1 a2 a3 a4))) = some r := by first | (rw [hy137]; with_reducible exact H) | (have H2_ := (Option.bind_some _ _).symm.trans H; rw [hy137]; with_reducible exact H2_) | (have H2_ := (Option.bind_some _ _).symm.trans H; with_reducible exact H2_) | with_reducible exact H | (rw [hy137]; exact H) | exact H
        have Ny137 := Aside0.mk hy137
        clear hy137
        replace H := Option.bind_eq_some_iff.mp H
        obtain ⟨⟨t140, t141⟩, A220, H⟩ := H
        replace H : (if t141 = 0 then ((num_Sub.f t140 a1).bind fun bt142 => (if bt142.1 = a0 then (if bt142.2 = 0 then (pluviallaw01_NumTurns.j1 kj7 a0 a1 a2 a3 a4) else (some false)) else (some false))) else (pluviallaw01_NumTurns.j1 kj7 a0 a1 a2 a3 a4)) = some r := H
        have A22 := Aside0.mk A220
        clear A220
        have HC23 := Aside0.mk H
        clear H
        go_upto_if 68 with (first | ((with_reducible refine gate_dst (N := 63) rfl ?_); refine Kd.R_lit (Kd.int .u64) _ 26 ?hg (N := 63) ?hd (xs := ([a0, a1] : List Int)) (inner := [.int .u64 a0, .int .u64 a1]) (ok := fun _ => True) (okp := fun _ => True) ?hr ?hp (fun _ hk => hk) trivial (Below.refl _ _) (Nat.le_refl _) (by simp) ?_; (case hd => rfl); (case hg => rfl); (case hr => first | (go_simp; done) | (go_simp; rfl)); (case hp => exact (Reps.one (show Kd.M (Kd.int .u64) _ _ _ a0 [.int .u64 a0] from rfl) (Reps.one (show Kd.M (Kd.int .u64) _ _ _ a1 [.int .u64 a1] from rfl) (Reps.none _ _)))); intro v138 w24 ho25 hb hg_ hnew_; clear hg_ hnew_; (first | rw [← Ny137.out] at ho25 | (simp only [Int.reduceToNat] at ho25; rw [← Ny137.out] at ho25)); have n0_ := Aside0.mk (Kd.R_lower ho25 (below_size (by repeat (first | (with_reducible first | exact HB.out | apply below_alloc | apply pw_below_drewN | apply below_drew1) | exact HB.out)))); have n1_ := Aside0.mk (below_step (by repeat (first | (with_reducible first | exact HB.out | apply below_alloc | apply pw_below_drewN | apply below_drew1) | exact HB.out)) hb); clear HB; have HO139 := n0_; have HB := n1_; clear n0_ n1_; clear hb ho25; obtain ⟨Ao26, co26, eo26⟩ := Kd.R_slice HO139.out; subst eo26) | (go_at_call 22; (with_reducible refine (num_Add.calls kj7 _ _ y137 t140 t141 _ ?side1 ?side2 A22.out).mono ?_); (case side1 => repeat (first | exact (Kd.R_reads' HO139.out).2.2 | (with_reducible refine Kd.C_alloc ?_ _) | (with_reducible refine Kd.C_drewN ?_ _) | (with_reducible refine Kd.C_drew ?_))); (case side2 => exact (Kd.R_reads' HO139.out).2.1); rintro e w' ⟨rfl, ⟨nd, rfl⟩⟩))
        (try simp only [Act.put, List.setIfInBounds_toArray, List.set_cons_zero, List.set_cons_succ])
        go_cut [] (fun wc => ∃ (kq : Nat), Aside0 (pluviallaw01_NumTurns.j1 kq a0 a1 a2 a3 a4 = some r) ∧ Aside0 (kq ≤ kj7) ∧ Aside0 (Below w.heap.size w wc))
        case first =>
          have H := HC23.out
          clear HC23
          by_cases c27 : t141 = 0
          · rw [if_pos c27] at H
            have c27b0 : (t141 == 0) = true := beq_iff_eq.mpr c27
            have c27b1 : (t141 != 0) = false := bne_eq_false_iff_eq.mpr c27
            clear c27
            (first | rw [c27b0] | (simp only [i64_w, i32_w]; rw [c27b0]) | skip)
            replace H := Option.bind_eq_some_iff.mp H
            obtain ⟨⟨t142, t143⟩, A280, H⟩ := H
            replace H : (if t142 = a0 then (if t143 = 0 then (pluviallaw01_NumTurns.j1 kj7 a0 a1 a2 a3 a4) else (some false)) else (some false)) = some r := H
            have A28 := Aside0.mk A280
            clear A280
            by_cases c29 : t142 = a0
            · rw [if_pos c29] at H
              have c29b0 : (t142 == a0) = true := beq_iff_eq.mpr c29
              have c29b1 : (t142 != a0) = false := bne_eq_false_iff_eq.mpr c29
              clear c29
              by_cases c30 : t143 = 0
              · rw [if_pos c30] at H
                have c30b0 : (t143 == 0) = true := beq_iff_eq.mpr c30
                have c30b1 : (t143 != 0) = false := bne_eq_false_iff_eq.mpr c30
                clear c30
                have H' := Aside0.mk H
                clear H
                go_wp2_with (first | (go_at_call 26; (with_reducible refine (num_Sub.calls t140 a1 t142 t143 _ A28.out).mono ?_); rintro e w' ⟨rfl, ⟨nd, rfl⟩⟩))
                go_meet
                case rel => exact ⟨_, H', ⟨by have := HJ7.out; first | omega | exact Nat.le_refl _⟩, ⟨by repeat (first | (with_reducible first | exact HB.out | apply below_alloc | apply pw_below_drewN | apply below_drew1) | exact HB.out)⟩⟩
              · rw [if_neg c30] at H
                have c30b0 : (t143 == 0) = false := beq_eq_false_iff_ne.mpr c30
                have c30b1 : (t143 != 0) = true := bne_iff_ne.mpr c30
                obtain rfl := Option.some.inj H
                go_wp2_with (first | (go_at_call 26; (with_reducible refine (num_Sub.calls t140 a1 t142 t143 _ A28.out).mono ?_); rintro e w' ⟨rfl, ⟨nd, rfl⟩⟩))
                go_ret
                exact ⟨by first | rfl | (simp [errW_none, errW_some] <;> rfl) | (simp [*, errW_none, errW_some] <;> rfl), by repeat (first | (with_reducible first | exact HB.out | apply below_alloc | apply pw_below_drewN | apply below_drew1) | exact HB.out)⟩
            · rw [if_neg c29] at H
              have c29b0 : (t142 == a0) = false := beq_eq_false_iff_ne.mpr c29
              have c29b1 : (t142 != a0) = true := bne_iff_ne.mpr c29
              obtain rfl := Option.some.inj H
              go_wp2_with (first | (go_at_call 26; (with_reducible refine (num_Sub.calls t140 a1 t142 t143 _ A28.out).mono ?_); rintro e w' ⟨rfl, ⟨nd, rfl⟩⟩))
              go_ret
              exact ⟨by first | rfl | (simp [errW_none, errW_some] <;> rfl) | (simp [*, errW_none, errW_some] <;> rfl), by repeat (first | (with_reducible first | exact HB.out | apply below_alloc | apply pw_below_drewN | apply below_drew1) | exact HB.out)⟩
          · rw [if_neg c27] at H
            have c27b0 : (t141 == 0) = false := beq_eq_false_iff_ne.mpr c27
            have c27b1 : (t141 != 0) = true := bne_iff_ne.mpr c27
            (first | rw [c27b0] | (simp only [i64_w, i32_w]; rw [c27b0]) | skip)
            have H' := Aside0.mk H
            clear H
            go_wp2
            go_meet
            case rel => exact ⟨_, H', ⟨by have := HJ7.out; first | omega | exact Nat.le_refl _⟩, ⟨by repeat (first | (with_reducible first | exact HB.out | apply below_alloc | apply pw_below_drewN | apply below_drew1) | exact HB.out)⟩⟩
        case rest =>
          clear HC23
          try clear c1
          try clear c2
          try clear p2
          try clear c3
          try clear c7
          try clear c15
          try clear c15b0
          try clear c15b1
          try clear c16
          try clear c16b0
          try clear c16b1
          try clear c21
          try clear c27
          try clear c27b0
          try clear c27b1
          try clear c29
          try clear c29b0
          try clear c29b1
          try clear c30
          try clear c30b0
          try clear c30b1
          try clear p2
          obtain ⟨kq, HA, HJ22, HB⟩ := hcut
          cases kq with
          | zero => exact absurd HA.out (by simp [pluviallaw01_NumTurns.j1])
          | succ kj22 =>
            have H := HA.out
            clear HA
            simp only [pluviallaw01_NumTurns.j1] at H
            obtain ⟨y144, hy144⟩ : ∃ y_ : List Int, y_ = (([a3, a4] : List Int)) := ⟨_, rfl⟩
            replace H : ((num_AddInt.f kj22 y144).bind fun bt147 => (if bt147.2 = 0 then ((num_SubInt.f bt147.1 a4).bind fun bt149 => (if bt149.1 = a3 then (if bt149.2 = 0 then (pluviallaw01_NumTurns.j2 kj22 a0 a1 a2 a3 a4) else (some false)) else (some false))) else (pluviallaw01_NumTurns.j2 kj22 a0 a1 a2 a3 a4))) = some r := by first | (rw [hy144]; with_reducible exact H) | (have H2_ := (Option.bind_some _ _).symm.trans H; rw [hy144]; with_reducible exact H2_) | (have H2_ := (Option.bind_some _ _).symm.trans H; with_reducible exact H2_) | with_reducible exact H | (rw [hy144]; exact H) | exact H
            have Ny144 := Aside0.mk hy144
            clear hy144
            replace H := Option.bind_eq_some_iff.mp H
            obtain ⟨⟨t147, t148⟩, A310, H⟩ := H
            replace H : (if t148 = 0 then ((num_SubInt.f t147 a4).bind fun bt149 => (if bt149.1 = a3 then (if bt149.2 = 0 then (pluviallaw01_NumTurns.j2 kj22 a0 a1 a2 a3 a4) else (some false)) else (some false))) else (pluviallaw01_NumTurns.j2 kj22 a0 a1 a2 a3 a4)) = some r := H
            have A31 := Aside0.mk A310
            clear A310
            have HC32 := Aside0.mk H
            clear H
            go_upto_if 90 with (first | ((with_reducible refine gate_dst (N := 85) rfl ?_); refine Kd.R_lit (Kd.int .i64) _ 2 ?hg (N := 85) ?hd (xs := ([a3, a4] : List Int)) (inner := [.int .i64 a3, .int .i64 a4]) (ok := fun _ => True) (okp := fun _ => True) ?hr ?hp (fun _ hk => hk) trivial (Below.refl _ _) (Nat.le_refl _) (by simp) ?_; (case hd => rfl); (case hg => rfl); (case hr => first | (go_simp; done) | (go_simp; rfl)); (case hp => exact (Reps.one (show Kd.M (Kd.int .i64) _ _ _ a3 [.int .i64 a3] from rfl) (Reps.one (show Kd.M (Kd.int .i64) _ _ _ a4 [.int .i64 a4] from rfl) (Reps.none _ _)))); intro v145 w33 ho34 hb hg_ hnew_; clear hg_ hnew_; (first | rw [← Ny144.out] at ho34 | (simp only [Int.reduceToNat] at ho34; rw [← Ny144.out] at ho34)); have n0_ := Aside0.mk (Kd.R_lower ho34 (below_size (by repeat (first | (with_reducible first | exact HB.out | apply below_alloc | apply pw_below_drewN | apply below_drew1) | exact HB.out)))); have n1_ := Aside0.mk (below_step (by repeat (first | (with_reducible first | exact HB.out | apply below_alloc | apply pw_below_drewN | apply below_drew1) | exact HB.out)) hb); clear HB; have HO146 := n0_; have HB := n1_; clear n0_ n1_; clear hb ho34; obtain ⟨Ao35, co35, eo35⟩ := Kd.R_slice HO146.out; subst eo35) | (go_at_call 24; (with_reducible refine (num_AddInt.calls kj22 _ _ y144 t147 t148 _ ?side1 ?side2 A31.out).mono ?_); (case side1 => repeat (first | exact (Kd.R_reads' HO146.out).2.2 | (with_reducible refine Kd.C_alloc ?_ _) | (with_reducible refine Kd.C_drewN ?_ _) | (with_reducible refine Kd.C_drew ?_))); (case side2 => exact (Kd.R_reads' HO146.out).2.1); rintro e w' ⟨rfl, ⟨nd, rfl⟩⟩))
            (try simp only [Act.put, List.setIfInBounds_toArray, List.set_cons_zero, List.set_cons_succ])
            go_cut [] (fun wc => ∃ (kq : Nat), Aside0 (pluviallaw01_NumTurns.j2 kq a0 a1 a2 a3 a4 = some r) ∧ Aside0 (kq ≤ kj22) ∧ Aside0 (Below w.heap.size w wc))
            case first =>
              have H := HC32.out
              clear HC32
              by_cases c36 : t148 = 0
              · rw [if_pos c36] at H
                have c36b0 : (t148 == 0) = true := beq_iff_eq.mpr c36
                have c36b1 : (t148 != 0) = false := bne_eq_false_iff_eq.mpr c36
                clear c36
                (first | rw [c36b0] | (simp only [i64_w, i32_w]; rw [c36b0]) | skip)
                replace H := Option.bind_eq_some_iff.mp H
                obtain ⟨⟨t149, t150⟩, A370, H⟩ := H
                replace H : (if t149 = a3 then (if t150 = 0 then (pluviallaw01_NumTurns.j2 kj22 a0 a1 a2 a3 a4) else (some false)) else (some false)) = some r := H
                have A37 := Aside0.mk A370
                clear A370
                by_cases c38 : t149 = a3
                · rw [if_pos c38] at H
                  have c38b0 : (t149 == a3) = true := beq_iff_eq.mpr c38
                  have c38b1 : (t149 != a3) = false := bne_eq_false_iff_eq.mpr c38
                  clear c38
                  by_cases c39 : t150 = 0
                  · rw [if_pos c39] at H
                    have c39b0 : (t150 == 0) = true := beq_iff_eq.mpr c39
                    have c39b1 : (t150 != 0) = false := bne_eq_false_iff_eq.mpr c39
                    clear c39
                    have H' := Aside0.mk H
                    clear H
                    go_wp2_with (first | (go_at_call 27; (with_reducible refine (num_SubInt.calls t147 a4 t149 t150 _ A37.out).mono ?_); rintro e w' ⟨rfl, ⟨nd, rfl⟩⟩))
                    go_meet
                    case rel => exact ⟨_, H', ⟨by have := HJ7.out; have := HJ22.out; first | omega | exact Nat.le_refl _⟩, ⟨by repeat (first | (with_reducible first | exact HB.out | apply below_alloc | apply pw_below_drewN | apply below_drew1) | exact HB.out)⟩⟩
                  · rw [if_neg c39] at H
                    have c39b0 : (t150 == 0) = false := beq_eq_false_iff_ne.mpr c39
                    have c39b1 : (t150 != 0) = true := bne_iff_ne.mpr c39
                    obtain rfl := Option.some.inj H
                    go_wp2_with (first | (go_at_call 27; (with_reducible refine (num_SubInt.calls t147 a4 t149 t150 _ A37.out).mono ?_); rintro e w' ⟨rfl, ⟨nd, rfl⟩⟩))
                    go_ret
                    exact ⟨by first | rfl | (simp [errW_none, errW_some] <;> rfl) | (simp [*, errW_none, errW_some] <;> rfl), by repeat (first | (with_reducible first | exact HB.out | apply below_alloc | apply pw_below_drewN | apply below_drew1) | exact HB.out)⟩
                · rw [if_neg c38] at H
                  have c38b0 : (t149 == a3) = false := beq_eq_false_iff_ne.mpr c38
                  have c38b1 : (t149 != a3) = true := bne_iff_ne.mpr c38
                  obtain rfl := Option.some.inj H
                  go_wp2_with (first | (go_at_call 27; (with_reducible refine (num_SubInt.calls t147 a4 t149 t150 _ A37.out).mono ?_); rintro e w' ⟨rfl, ⟨nd, rfl⟩⟩))
                  go_ret
                  exact ⟨by first | rfl | (simp [errW_none, errW_some] <;> rfl) | (simp [*, errW_none, errW_some] <;> rfl), by repeat (first | (with_reducible first | exact HB.out | apply below_alloc | apply pw_below_drewN | apply below_drew1) | exact HB.out)⟩
              · rw [if_neg c36] at H
                have c36b0 : (t148 == 0) = false := beq_eq_false_iff_ne.mpr c36
                have c36b1 : (t148 != 0) = true := bne_iff_ne.mpr c36
                (first | rw [c36b0] | (simp only [i64_w, i32_w]; rw [c36b0]) | skip)
                have H' := Aside0.mk H
                clear H
                go_wp2
                go_meet
                case rel => exact ⟨_, H', ⟨by have := HJ7.out; have := HJ22.out; first | omega | exact Nat.le_refl _⟩, ⟨by repeat (first | (with_reducible first | exact HB.out | apply below_alloc | apply pw_below_drewN | apply below_drew1) | exact HB.out)⟩⟩
            case rest =>
              clear HC32
              try clear c1
              try clear c2
              try clear p2
              try clear c3
              try clear c7
              try clear c15
              try clear c15b0
              try clear c15b1
              try clear c16
              try clear c16b0
              try clear c16b1
              try clear c21
              try clear c27
              try clear c27b0
              try clear c27b1
              try clear c29
              try clear c29b0
              try clear c29b1
              try clear c30
              try clear c30b0
              try clear c30b1
              try clear c36
              try clear c36b0
              try clear c36b1
              try clear c38
              try clear c38b0
              try clear c38b1
              try clear c39
              try clear c39b0
              try clear c39b1
              try clear p2
              obtain ⟨kq, HA, HJ31, HB⟩ := hcut
              cases kq with
              | zero => exact absurd HA.out (by simp [pluviallaw01_NumTurns.j2])
              | succ kj31 =>
                have H := HA.out
                clear HA
                simp only [pluviallaw01_NumTurns.j2] at H
                obtain ⟨y151, hy151⟩ : ∃ y_ : List Int, y_ = (([a3, a4, a3] : List Int)) := ⟨_, rfl⟩
                replace H : ((num_AddInt.f kj31 y151).bind fun bt154 => ((num_AddInt.f kj31 (([a3, a3, a4] : List Int))).bind fun bt159 => ((pluviallaw01_awake.f).bind fun t161 => (if t161 = true then (if bt154.1 = bt159.1 then (if bt154.2 = bt159.2 then ((num_Ratio.f a0 a1 a2 a2).bind fun t162 => ((num_Ratio.f a2 a2 a0 a1).bind fun t163 => (some (t162 == (wrap64 (-t163)))))) else (some false)) else (some false)) else (some false))))) = some r := by first | (rw [hy151]; with_reducible exact H) | (have H2_ := (Option.bind_some _ _).symm.trans H; rw [hy151]; with_reducible exact H2_) | (have H2_ := (Option.bind_some _ _).symm.trans H; with_reducible exact H2_) | with_reducible exact H | (rw [hy151]; exact H) | exact H
                have Ny151 := Aside0.mk hy151
                clear hy151
                replace H := Option.bind_eq_some_iff.mp H
                obtain ⟨⟨t154, t155⟩, A400, H⟩ := H
                replace H : ((num_AddInt.f kj31 (([a3, a3, a4] : List Int))).bind fun bt159 => ((pluviallaw01_awake.f).bind fun t161 => (if t161 = true then (if t154 = bt159.1 then (if t155 = bt159.2 then ((num_Ratio.f a0 a1 a2 a2).bind fun t162 => ((num_Ratio.f a2 a2 a0 a1).bind fun t163 => (some (t162 == (wrap64 (-t163)))))) else (some false)) else (some false)) else (some false)))) = some r := H
                have A40 := Aside0.mk A400
                clear A400
                obtain ⟨y156, hy156⟩ : ∃ y_ : List Int, y_ = (([a3, a3, a4] : List Int)) := ⟨_, rfl⟩
                replace H : ((num_AddInt.f kj31 y156).bind fun bt159 => ((pluviallaw01_awake.f).bind fun t161 => (if t161 = true then (if t154 = bt159.1 then (if t155 = bt159.2 then ((num_Ratio.f a0 a1 a2 a2).bind fun t162 => ((num_Ratio.f a2 a2 a0 a1).bind fun t163 => (some (t162 == (wrap64 (-t163)))))) else (some false)) else (some false)) else (some false)))) = some r := by first | (rw [hy156]; with_reducible exact H) | (have H2_ := (Option.bind_some _ _).symm.trans H; rw [hy156]; with_reducible exact H2_) | (have H2_ := (Option.bind_some _ _).symm.trans H; with_reducible exact H2_) | with_reducible exact H | (rw [hy156]; exact H) | exact H
                have Ny156 := Aside0.mk hy156
                clear hy156
                replace H := Option.bind_eq_some_iff.mp H
                obtain ⟨⟨t159, t160⟩, A410, H⟩ := H
                replace H : ((pluviallaw01_awake.f).bind fun t161 => (if t161 = true then (if t154 = t159 then (if t155 = t160 then ((num_Ratio.f a0 a1 a2 a2).bind fun t162 => ((num_Ratio.f a2 a2 a0 a1).bind fun t163 => (some (t162 == (wrap64 (-t163)))))) else (some false)) else (some false)) else (some false))) = some r := H
                have A41 := Aside0.mk A410
                clear A410
                replace H := Option.bind_eq_some_iff.mp H
                obtain ⟨t161, A420, H⟩ := H
                replace H : (if t161 = true then (if t154 = t159 then (if t155 = t160 then ((num_Ratio.f a0 a1 a2 a2).bind fun t162 => ((num_Ratio.f a2 a2 a0 a1).bind fun t163 => (some (t162 == (wrap64 (-t163)))))) else (some false)) else (some false)) else (some false)) = some r := H
                have A42 := Aside0.mk A420
                clear A420
                by_cases c43 : t161 = true
                · subst c43
                  have H1 : (if t154 = t159 then (if t155 = t160 then ((num_Ratio.f a0 a1 a2 a2).bind fun t162 => ((num_Ratio.f a2 a2 a0 a1).bind fun t163 => (some (t162 == (wrap64 (-t163)))))) else (some false)) else (some false)) = some r := by rw [if_pos rfl] at H; exact H
                  clear H
                  have H := H1
                  clear H1
                  by_cases c44 : t154 = t159
                  · rw [if_pos c44] at H
                    have c44b0 : (t154 == t159) = true := beq_iff_eq.mpr c44
                    have c44b1 : (t154 != t159) = false := bne_eq_false_iff_eq.mpr c44
                    clear c44
                    by_cases c45 : t155 = t160
                    · rw [if_pos c45] at H
                      have c45b0 : (t155 == t160) = true := beq_iff_eq.mpr c45
                      have c45b1 : (t155 != t160) = false := bne_eq_false_iff_eq.mpr c45
                      clear c45
                      replace H := Option.bind_eq_some_iff.mp H
                      obtain ⟨t162, A460, H⟩ := H
                      replace H : ((num_Ratio.f a2 a2 a0 a1).bind fun t163 => (some (t162 == (wrap64 (-t163))))) = some r := H
                      have A46 := Aside0.mk A460
                      clear A460
                      replace H := Option.bind_eq_some_iff.mp H
                      obtain ⟨t163, A470, H⟩ := H
                      replace H : (some (t162 == (wrap64 (-t163)))) = some r := H
                      have A47 := Aside0.mk A470
                      clear A470
                      obtain rfl := Option.some.inj H
                      go_wp2_with (first | ((with_reducible refine gate_dst (N := 108) rfl ?_); refine Kd.R_lit (Kd.int .i64) _ 2 ?hg (N := 108) ?hd (xs := ([a3, a4, a3] : List Int)) (inner := [.int .i64 a3, .int .i64 a4, .int .i64 a3]) (ok := fun _ => True) (okp := fun _ => True) ?hr ?hp (fun _ hk => hk) trivial (Below.refl _ _) (Nat.le_refl _) (by simp) ?_; (case hd => rfl); (case hg => rfl); (case hr => first | (go_simp; done) | (go_simp; rfl)); (case hp => exact (Reps.one (show Kd.M (Kd.int .i64) _ _ _ a3 [.int .i64 a3] from rfl) (Reps.one (show Kd.M (Kd.int .i64) _ _ _ a4 [.int .i64 a4] from rfl) (Reps.one (show Kd.M (Kd.int .i64) _ _ _ a3 [.int .i64 a3] from rfl) (Reps.none _ _))))); intro v152 w48 ho49 hb hg_ hnew_; clear hg_ hnew_; (first | rw [← Ny151.out] at ho49 | (simp only [Int.reduceToNat] at ho49; rw [← Ny151.out] at ho49)); have n0_ := Aside0.mk (Kd.R_lower ho49 (below_size (by repeat (first | (with_reducible first | exact HB.out | apply below_alloc | apply pw_below_drewN | apply below_drew1) | exact HB.out)))); have n1_ := Aside0.mk (below_step (by repeat (first | (with_reducible first | exact HB.out | apply below_alloc | apply pw_below_drewN | apply below_drew1) | exact HB.out)) hb); clear HB; have HO153 := n0_; have HB := n1_; clear n0_ n1_; clear hb ho49; obtain ⟨Ao50, co50, eo50⟩ := Kd.R_slice HO153.out; subst eo50) | (go_at_call 24; (with_reducible refine (num_AddInt.calls kj31 _ _ y151 t154 t155 _ ?side1 ?side2 A40.out).mono ?_); (case side1 => repeat (first | exact (Kd.R_reads' HO153.out).2.2 | (with_reducible refine Kd.C_alloc ?_ _) | (with_reducible refine Kd.C_drewN ?_ _) | (with_reducible refine Kd.C_drew ?_))); (case side2 => exact (Kd.R_reads' HO153.out).2.1); rintro e w' ⟨rfl, ⟨nd, rfl⟩⟩) | ((with_reducible refine gate_dst (N := 116) rfl ?_); refine Kd.R_lit (Kd.int .i64) _ 2 ?hg (N := 116) ?hd (xs := ([a3, a3, a4] : List Int)) (inner := [.int .i64 a3, .int .i64 a3, .int .i64 a4]) (ok := fun _ => True) (okp := fun _ => True) ?hr ?hp (fun _ hk => hk) trivial (Below.refl _ _) (Nat.le_refl _) (by simp) ?_; (case hd => rfl); (case hg => rfl); (case hr => first | (go_simp; done) | (go_simp; rfl)); (case hp => exact (Reps.one (show Kd.M (Kd.int .i64) _ _ _ a3 [.int .i64 a3] from rfl) (Reps.one (show Kd.M (Kd.int .i64) _ _ _ a3 [.int .i64 a3] from rfl) (Reps.one (show Kd.M (Kd.int .i64) _ _ _ a4 [.int .i64 a4] from rfl) (Reps.none _ _))))); intro v157 w51 ho52 hb hg_ hnew_; clear hg_ hnew_; (first | rw [← Ny156.out] at ho52 | (simp only [Int.reduceToNat] at ho52; rw [← Ny156.out] at ho52)); have n0_ := Aside0.mk (Kd.R_elder' (by (with_reducible repeat (first | apply Kd.R_alloc | apply Kd.R_drewN | apply Kd.R_drew)); exact HO153.out) (Kd.R_base ho52) hb); have n1_ := Aside0.mk (Kd.R_lower (Kd.R_new' ho52 (Kd.R_lt (by (with_reducible repeat (first | apply Kd.R_alloc | apply Kd.R_drewN | apply Kd.R_drew)); exact HO153.out))) (below_size (by repeat (first | (with_reducible first | exact HB.out | apply below_alloc | apply pw_below_drewN | apply below_drew1) | exact HB.out)))); have n2_ := Aside0.mk (below_step (by repeat (first | (with_reducible first | exact HB.out | apply below_alloc | apply pw_below_drewN | apply below_drew1) | exact HB.out)) hb); clear HO153; clear HB; have HO153 := n0_; have HO158 := n1_; have HB := n2_; clear n0_ n1_ n2_; clear hb ho52; obtain ⟨Ao53, co53, eo53⟩ := Kd.R_slice HO158.out; subst eo53) | (go_at_call 24; (with_reducible refine (num_AddInt.calls kj31 _ _ y156 t159 t160 _ ?side1 ?side2 A41.out).mono ?_); (case side1 => repeat (first | exact (Kd.R_reads' HO158.out).2.2 | (with_reducible refine Kd.C_alloc ?_ _) | (with_reducible refine Kd.C_drewN ?_ _) | (with_reducible refine Kd.C_drew ?_))); (case side2 => exact (Kd.R_reads' HO158.out).2.1); rintro e w' ⟨rfl, ⟨nd, rfl⟩⟩) | (go_at_call 11; (with_reducible refine (pluviallaw01_awake.calls  true _ A42.out).mono ?_); rintro e w' ⟨rfl, ⟨nd, rfl⟩⟩) | (go_at_call 20; (with_reducible refine (num_Ratio.calls a0 a1 a2 a2 t162 _ A46.out).mono ?_); rintro e w54 ⟨rfl, hb⟩; have n0_ := Aside0.mk (Kd.R_below (by (with_reducible repeat (first | apply Kd.R_alloc | apply Kd.R_drewN | apply Kd.R_drew)); exact HO153.out) hb); have n1_ := Aside0.mk (Kd.R_below (by (with_reducible repeat (first | apply Kd.R_alloc | apply Kd.R_drewN | apply Kd.R_drew)); exact HO158.out) hb); have n2_ := Aside0.mk (below_step (by repeat (first | (with_reducible first | exact HB.out | apply below_alloc | apply pw_below_drewN | apply below_drew1) | exact HB.out)) hb); clear HO153; clear HO158; clear HB; have HO153 := n0_; have HO158 := n1_; have HB := n2_; clear n0_ n1_ n2_; (try clear hb); (try clear hb2); (try clear hk); (try clear hi)) | (go_at_call 20; (with_reducible refine (num_Ratio.calls a2 a2 a0 a1 t163 _ A47.out).mono ?_); rintro e w55 ⟨rfl, hb⟩; have n0_ := Aside0.mk (Kd.R_below (by (with_reducible repeat (first | apply Kd.R_alloc | apply Kd.R_drewN | apply Kd.R_drew)); exact HO153.out) hb); have n1_ := Aside0.mk (Kd.R_below (by (with_reducible repeat (first | apply Kd.R_alloc | apply Kd.R_drewN | apply Kd.R_drew)); exact HO158.out) hb); have n2_ := Aside0.mk (below_step (by repeat (first | (with_reducible first | exact HB.out | apply below_alloc | apply pw_below_drewN | apply below_drew1) | exact HB.out)) hb); clear HO153; clear HO158; clear HB; have HO153 := n0_; have HO158 := n1_; have HB := n2_; clear n0_ n1_ n2_; (try clear hb); (try clear hb2); (try clear hk); (try clear hi)))
                      go_ret
                      exact ⟨by first | rfl | (simp [errW_none, errW_some] <;> rfl) | (simp [*, errW_none, errW_some] <;> rfl), by repeat (first | (with_reducible first | exact HB.out | apply below_alloc | apply pw_below_drewN | apply below_drew1) | exact HB.out)⟩
                    · rw [if_neg c45] at H
                      have c45b0 : (t155 == t160) = false := beq_eq_false_iff_ne.mpr c45
                      have c45b1 : (t155 != t160) = true := bne_iff_ne.mpr c45
                      obtain rfl := Option.some.inj H
                      go_wp2_with (first | ((with_reducible refine gate_dst (N := 108) rfl ?_); refine Kd.R_lit (Kd.int .i64) _ 2 ?hg (N := 108) ?hd (xs := ([a3, a4, a3] : List Int)) (inner := [.int .i64 a3, .int .i64 a4, .int .i64 a3]) (ok := fun _ => True) (okp := fun _ => True) ?hr ?hp (fun _ hk => hk) trivial (Below.refl _ _) (Nat.le_refl _) (by simp) ?_; (case hd => rfl); (case hg => rfl); (case hr => first | (go_simp; done) | (go_simp; rfl)); (case hp => exact (Reps.one (show Kd.M (Kd.int .i64) _ _ _ a3 [.int .i64 a3] from rfl) (Reps.one (show Kd.M (Kd.int .i64) _ _ _ a4 [.int .i64 a4] from rfl) (Reps.one (show Kd.M (Kd.int .i64) _ _ _ a3 [.int .i64 a3] from rfl) (Reps.none _ _))))); intro v152 w56 ho57 hb hg_ hnew_; clear hg_ hnew_; (first | rw [← Ny151.out] at ho57 | (simp only [Int.reduceToNat] at ho57; rw [← Ny151.out] at ho57)); have n0_ := Aside0.mk (Kd.R_lower ho57 (below_size (by repeat (first | (with_reducible first | exact HB.out | apply below_alloc | apply pw_below_drewN | apply below_drew1) | exact HB.out)))); have n1_ := Aside0.mk (below_step (by repeat (first | (with_reducible first | exact HB.out | apply below_alloc | apply pw_below_drewN | apply below_drew1) | exact HB.out)) hb); clear HB; have HO153 := n0_; have HB := n1_; clear n0_ n1_; clear hb ho57; obtain ⟨Ao58, co58, eo58⟩ := Kd.R_slice HO153.out; subst eo58) | (go_at_call 24; (with_reducible refine (num_AddInt.calls kj31 _ _ y151 t154 t155 _ ?side1 ?side2 A40.out).mono ?_); (case side1 => repeat (first | exact (Kd.R_reads' HO153.out).2.2 | (with_reducible refine Kd.C_alloc ?_ _) | (with_reducible refine Kd.C_drewN ?_ _) | (with_reducible refine Kd.C_drew ?_))); (case side2 => exact (Kd.R_reads' HO153.out).2.1); rintro e w' ⟨rfl, ⟨nd, rfl⟩⟩) | ((with_reducible refine gate_dst (N := 116) rfl ?_); refine Kd.R_lit (Kd.int .i64) _ 2 ?hg (N := 116) ?hd (xs := ([a3, a3, a4] : List Int)) (inner := [.int .i64 a3, .int .i64 a3, .int .i64 a4]) (ok := fun _ => True) (okp := fun _ => True) ?hr ?hp (fun _ hk => hk) trivial (Below.refl _ _) (Nat.le_refl _) (by simp) ?_; (case hd => rfl); (case hg => rfl); (case hr => first | (go_simp; done) | (go_simp; rfl)); (case hp => exact (Reps.one (show Kd.M (Kd.int .i64) _ _ _ a3 [.int .i64 a3] from rfl) (Reps.one (show Kd.M (Kd.int .i64) _ _ _ a3 [.int .i64 a3] from rfl) (Reps.one (show Kd.M (Kd.int .i64) _ _ _ a4 [.int .i64 a4] from rfl) (Reps.none _ _))))); intro v157 w59 ho60 hb hg_ hnew_; clear hg_ hnew_; (first | rw [← Ny156.out] at ho60 | (simp only [Int.reduceToNat] at ho60; rw [← Ny156.out] at ho60)); have n0_ := Aside0.mk (Kd.R_elder' (by (with_reducible repeat (first | apply Kd.R_alloc | apply Kd.R_drewN | apply Kd.R_drew)); exact HO153.out) (Kd.R_base ho60) hb); have n1_ := Aside0.mk (Kd.R_lower (Kd.R_new' ho60 (Kd.R_lt (by (with_reducible repeat (first | apply Kd.R_alloc | apply Kd.R_drewN | apply Kd.R_drew)); exact HO153.out))) (below_size (by repeat (first | (with_reducible first | exact HB.out | apply below_alloc | apply pw_below_drewN | apply below_drew1) | exact HB.out)))); have n2_ := Aside0.mk (below_step (by repeat (first | (with_reducible first | exact HB.out | apply below_alloc | apply pw_below_drewN | apply below_drew1) | exact HB.out)) hb); clear HO153; clear HB; have HO153 := n0_; have HO158 := n1_; have HB := n2_; clear n0_ n1_ n2_; clear hb ho60; obtain ⟨Ao61, co61, eo61⟩ := Kd.R_slice HO158.out; subst eo61) | (go_at_call 24; (with_reducible refine (num_AddInt.calls kj31 _ _ y156 t159 t160 _ ?side1 ?side2 A41.out).mono ?_); (case side1 => repeat (first | exact (Kd.R_reads' HO158.out).2.2 | (with_reducible refine Kd.C_alloc ?_ _) | (with_reducible refine Kd.C_drewN ?_ _) | (with_reducible refine Kd.C_drew ?_))); (case side2 => exact (Kd.R_reads' HO158.out).2.1); rintro e w' ⟨rfl, ⟨nd, rfl⟩⟩) | (go_at_call 11; (with_reducible refine (pluviallaw01_awake.calls  true _ A42.out).mono ?_); rintro e w' ⟨rfl, ⟨nd, rfl⟩⟩))
                      go_ret
                      exact ⟨by first | rfl | (simp [errW_none, errW_some] <;> rfl) | (simp [*, errW_none, errW_some] <;> rfl), by repeat (first | (with_reducible first | exact HB.out | apply below_alloc | apply pw_below_drewN | apply below_drew1) | exact HB.out)⟩
                  · rw [if_neg c44] at H
                    have c44b0 : (t154 == t159) = false := beq_eq_false_iff_ne.mpr c44
                    have c44b1 : (t154 != t159) = true := bne_iff_ne.mpr c44
                    obtain rfl := Option.some.inj H
                    go_wp2_with (first | ((with_reducible refine gate_dst (N := 108) rfl ?_); refine Kd.R_lit (Kd.int .i64) _ 2 ?hg (N := 108) ?hd (xs := ([a3, a4, a3] : List Int)) (inner := [.int .i64 a3, .int .i64 a4, .int .i64 a3]) (ok := fun _ => True) (okp := fun _ => True) ?hr ?hp (fun _ hk => hk) trivial (Below.refl _ _) (Nat.le_refl _) (by simp) ?_; (case hd => rfl); (case hg => rfl); (case hr => first | (go_simp; done) | (go_simp; rfl)); (case hp => exact (Reps.one (show Kd.M (Kd.int .i64) _ _ _ a3 [.int .i64 a3] from rfl) (Reps.one (show Kd.M (Kd.int .i64) _ _ _ a4 [.int .i64 a4] from rfl) (Reps.one (show Kd.M (Kd.int .i64) _ _ _ a3 [.int .i64 a3] from rfl) (Reps.none _ _))))); intro v152 w62 ho63 hb hg_ hnew_; clear hg_ hnew_; (first | rw [← Ny151.out] at ho63 | (simp only [Int.reduceToNat] at ho63; rw [← Ny151.out] at ho63)); have n0_ := Aside0.mk (Kd.R_lower ho63 (below_size (by repeat (first | (with_reducible first | exact HB.out | apply below_alloc | apply pw_below_drewN | apply below_drew1) | exact HB.out)))); have n1_ := Aside0.mk (below_step (by repeat (first | (with_reducible first | exact HB.out | apply below_alloc | apply pw_below_drewN | apply below_drew1) | exact HB.out)) hb); clear HB; have HO153 := n0_; have HB := n1_; clear n0_ n1_; clear hb ho63; obtain ⟨Ao64, co64, eo64⟩ := Kd.R_slice HO153.out; subst eo64) | (go_at_call 24; (with_reducible refine (num_AddInt.calls kj31 _ _ y151 t154 t155 _ ?side1 ?side2 A40.out).mono ?_); (case side1 => repeat (first | exact (Kd.R_reads' HO153.out).2.2 | (with_reducible refine Kd.C_alloc ?_ _) | (with_reducible refine Kd.C_drewN ?_ _) | (with_reducible refine Kd.C_drew ?_))); (case side2 => exact (Kd.R_reads' HO153.out).2.1); rintro e w' ⟨rfl, ⟨nd, rfl⟩⟩) | ((with_reducible refine gate_dst (N := 116) rfl ?_); refine Kd.R_lit (Kd.int .i64) _ 2 ?hg (N := 116) ?hd (xs := ([a3, a3, a4] : List Int)) (inner := [.int .i64 a3, .int .i64 a3, .int .i64 a4]) (ok := fun _ => True) (okp := fun _ => True) ?hr ?hp (fun _ hk => hk) trivial (Below.refl _ _) (Nat.le_refl _) (by simp) ?_; (case hd => rfl); (case hg => rfl); (case hr => first | (go_simp; done) | (go_simp; rfl)); (case hp => exact (Reps.one (show Kd.M (Kd.int .i64) _ _ _ a3 [.int .i64 a3] from rfl) (Reps.one (show Kd.M (Kd.int .i64) _ _ _ a3 [.int .i64 a3] from rfl) (Reps.one (show Kd.M (Kd.int .i64) _ _ _ a4 [.int .i64 a4] from rfl) (Reps.none _ _))))); intro v157 w65 ho66 hb hg_ hnew_; clear hg_ hnew_; (first | rw [← Ny156.out] at ho66 | (simp only [Int.reduceToNat] at ho66; rw [← Ny156.out] at ho66)); have n0_ := Aside0.mk (Kd.R_elder' (by (with_reducible repeat (first | apply Kd.R_alloc | apply Kd.R_drewN | apply Kd.R_drew)); exact HO153.out) (Kd.R_base ho66) hb); have n1_ := Aside0.mk (Kd.R_lower (Kd.R_new' ho66 (Kd.R_lt (by (with_reducible repeat (first | apply Kd.R_alloc | apply Kd.R_drewN | apply Kd.R_drew)); exact HO153.out))) (below_size (by repeat (first | (with_reducible first | exact HB.out | apply below_alloc | apply pw_below_drewN | apply below_drew1) | exact HB.out)))); have n2_ := Aside0.mk (below_step (by repeat (first | (with_reducible first | exact HB.out | apply below_alloc | apply pw_below_drewN | apply below_drew1) | exact HB.out)) hb); clear HO153; clear HB; have HO153 := n0_; have HO158 := n1_; have HB := n2_; clear n0_ n1_ n2_; clear hb ho66; obtain ⟨Ao67, co67, eo67⟩ := Kd.R_slice HO158.out; subst eo67) | (go_at_call 24; (with_reducible refine (num_AddInt.calls kj31 _ _ y156 t159 t160 _ ?side1 ?side2 A41.out).mono ?_); (case side1 => repeat (first | exact (Kd.R_reads' HO158.out).2.2 | (with_reducible refine Kd.C_alloc ?_ _) | (with_reducible refine Kd.C_drewN ?_ _) | (with_reducible refine Kd.C_drew ?_))); (case side2 => exact (Kd.R_reads' HO158.out).2.1); rintro e w' ⟨rfl, ⟨nd, rfl⟩⟩) | (go_at_call 11; (with_reducible refine (pluviallaw01_awake.calls  true _ A42.out).mono ?_); rintro e w' ⟨rfl, ⟨nd, rfl⟩⟩))
                    go_ret
                    exact ⟨by first | rfl | (simp [errW_none, errW_some] <;> rfl) | (simp [*, errW_none, errW_some] <;> rfl), by repeat (first | (with_reducible first | exact HB.out | apply below_alloc | apply pw_below_drewN | apply below_drew1) | exact HB.out)⟩
                · replace c43 := Bool.eq_false_iff.mpr c43
                  subst c43
                  have H1 : (some false) = some r := by rw [if_neg (show ¬ (false = true) by decide)] at H; exact H
                  clear H
                  have H := H1
                  clear H1
                  obtain rfl := Option.some.inj H
                  go_wp2_with (first | ((with_reducible refine gate_dst (N := 108) rfl ?_); refine Kd.R_lit (Kd.int .i64) _ 2 ?hg (N := 108) ?hd (xs := ([a3, a4, a3] : List Int)) (inner := [.int .i64 a3, .int .i64 a4, .int .i64 a3]) (ok := fun _ => True) (okp := fun _ => True) ?hr ?hp (fun _ hk => hk) trivial (Below.refl _ _) (Nat.le_refl _) (by simp) ?_; (case hd => rfl); (case hg => rfl); (case hr => first | (go_simp; done) | (go_simp; rfl)); (case hp => exact (Reps.one (show Kd.M (Kd.int .i64) _ _ _ a3 [.int .i64 a3] from rfl) (Reps.one (show Kd.M (Kd.int .i64) _ _ _ a4 [.int .i64 a4] from rfl) (Reps.one (show Kd.M (Kd.int .i64) _ _ _ a3 [.int .i64 a3] from rfl) (Reps.none _ _))))); intro v152 w68 ho69 hb hg_ hnew_; clear hg_ hnew_; (first | rw [← Ny151.out] at ho69 | (simp only [Int.reduceToNat] at ho69; rw [← Ny151.out] at ho69)); have n0_ := Aside0.mk (Kd.R_lower ho69 (below_size (by repeat (first | (with_reducible first | exact HB.out | apply below_alloc | apply pw_below_drewN | apply below_drew1) | exact HB.out)))); have n1_ := Aside0.mk (below_step (by repeat (first | (with_reducible first | exact HB.out | apply below_alloc | apply pw_below_drewN | apply below_drew1) | exact HB.out)) hb); clear HB; have HO153 := n0_; have HB := n1_; clear n0_ n1_; clear hb ho69; obtain ⟨Ao70, co70, eo70⟩ := Kd.R_slice HO153.out; subst eo70) | (go_at_call 24; (with_reducible refine (num_AddInt.calls kj31 _ _ y151 t154 t155 _ ?side1 ?side2 A40.out).mono ?_); (case side1 => repeat (first | exact (Kd.R_reads' HO153.out).2.2 | (with_reducible refine Kd.C_alloc ?_ _) | (with_reducible refine Kd.C_drewN ?_ _) | (with_reducible refine Kd.C_drew ?_))); (case side2 => exact (Kd.R_reads' HO153.out).2.1); rintro e w' ⟨rfl, ⟨nd, rfl⟩⟩) | ((with_reducible refine gate_dst (N := 116) rfl ?_); refine Kd.R_lit (Kd.int .i64) _ 2 ?hg (N := 116) ?hd (xs := ([a3, a3, a4] : List Int)) (inner := [.int .i64 a3, .int .i64 a3, .int .i64 a4]) (ok := fun _ => True) (okp := fun _ => True) ?hr ?hp (fun _ hk => hk) trivial (Below.refl _ _) (Nat.le_refl _) (by simp) ?_; (case hd => rfl); (case hg => rfl); (case hr => first | (go_simp; done) | (go_simp; rfl)); (case hp => exact (Reps.one (show Kd.M (Kd.int .i64) _ _ _ a3 [.int .i64 a3] from rfl) (Reps.one (show Kd.M (Kd.int .i64) _ _ _ a3 [.int .i64 a3] from rfl) (Reps.one (show Kd.M (Kd.int .i64) _ _ _ a4 [.int .i64 a4] from rfl) (Reps.none _ _))))); intro v157 w71 ho72 hb hg_ hnew_; clear hg_ hnew_; (first | rw [← Ny156.out] at ho72 | (simp only [Int.reduceToNat] at ho72; rw [← Ny156.out] at ho72)); have n0_ := Aside0.mk (Kd.R_elder' (by (with_reducible repeat (first | apply Kd.R_alloc | apply Kd.R_drewN | apply Kd.R_drew)); exact HO153.out) (Kd.R_base ho72) hb); have n1_ := Aside0.mk (Kd.R_lower (Kd.R_new' ho72 (Kd.R_lt (by (with_reducible repeat (first | apply Kd.R_alloc | apply Kd.R_drewN | apply Kd.R_drew)); exact HO153.out))) (below_size (by repeat (first | (with_reducible first | exact HB.out | apply below_alloc | apply pw_below_drewN | apply below_drew1) | exact HB.out)))); have n2_ := Aside0.mk (below_step (by repeat (first | (with_reducible first | exact HB.out | apply below_alloc | apply pw_below_drewN | apply below_drew1) | exact HB.out)) hb); clear HO153; clear HB; have HO153 := n0_; have HO158 := n1_; have HB := n2_; clear n0_ n1_ n2_; clear hb ho72; obtain ⟨Ao73, co73, eo73⟩ := Kd.R_slice HO158.out; subst eo73) | (go_at_call 24; (with_reducible refine (num_AddInt.calls kj31 _ _ y156 t159 t160 _ ?side1 ?side2 A41.out).mono ?_); (case side1 => repeat (first | exact (Kd.R_reads' HO158.out).2.2 | (with_reducible refine Kd.C_alloc ?_ _) | (with_reducible refine Kd.C_drewN ?_ _) | (with_reducible refine Kd.C_drew ?_))); (case side2 => exact (Kd.R_reads' HO158.out).2.1); rintro e w' ⟨rfl, ⟨nd, rfl⟩⟩) | (go_at_call 11; (with_reducible refine (pluviallaw01_awake.calls  false _ A42.out).mono ?_); rintro e w' ⟨rfl, ⟨nd, rfl⟩⟩))
                  go_ret
                  exact ⟨by first | rfl | (simp [errW_none, errW_some] <;> rfl) | (simp [*, errW_none, errW_some] <;> rfl), by repeat (first | (with_reducible first | exact HB.out | apply below_alloc | apply pw_below_drewN | apply below_drew1) | exact HB.out)⟩

/-- THE ONE PURE STATEMENT of pluviallaw01_NumTurns: yours. -/
def pluviallaw01_NumTurns.Pure : Prop := ∀ (a0 : Int) (a1 : Int) (a2 : Int) (a3 : Int) (a4 : Int), (Lit.int .u64 a0).wf = true → (Lit.int .u64 a1).wf = true → (Lit.int .u64 a2).wf = true → (Lit.int .i64 a3).wf = true → (Lit.int .i64 a4).wf = true → ∃ k, pluviallaw01_NumTurns.f k a0 a1 a2 a3 a4 = some true
theorem pluviallaw01_NumTurns.walk (P : pluviallaw01_NumTurns.Pure) (a0 : Int) (a1 : Int) (a2 : Int) (a3 : Int) (a4 : Int) (w : World) (w0 : (Lit.int .u64 a0).wf = true) (w1 : (Lit.int .u64 a1).wf = true) (w2 : (Lit.int .u64 a2).wf = true) (w3 : (Lit.int .i64 a3).wf = true) (w4 : (Lit.int .i64 a4).wf = true) :
    Calls Try.prog 7 #[.int .u64 a0, .int .u64 a1, .int .u64 a2, .int .i64 a3, .int .i64 a4] w fun e w' => e = .returned (.bool true) ∧ Below w.heap.size w w' := by
  obtain ⟨k, h⟩ := P a0 a1 a2 a3 a4 w0 w1 w2 w3 w4
  refine (pluviallaw01_NumTurns.calls k a0 a1 a2 a3 a4 true w h).mono ?_
  rintro e w' ⟨rfl, hd⟩
  exact ⟨rfl, hd⟩

end Go.Proofs.Ytdonphglmeimbaa.QNumTurns
