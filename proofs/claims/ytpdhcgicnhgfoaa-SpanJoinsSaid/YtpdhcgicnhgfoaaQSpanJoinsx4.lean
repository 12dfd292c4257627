-- Written by a program of the session (wip/xprint.sh, wip/xpatch.py; a variant of the print) out of the translation. Lean checks it.
import Derived.Test.YtpdhcgicnhgfoaaQSpanJoinsx0
namespace Go.Proofs.Ytpdhcgicnhgfoaa.QSpanJoins
open Go.RowKit Go.Proofs.YtpdhcgicnhgfoaaW.PrintWords Go.Proofs.YtpdhcgicnhgfoaaW.PrintLast Go.Proofs.YtpdhcgicnhgfoaaW.PrintMore
attribute [local go_sem] max2_int min2_int max_two min_two max_three min_three max_four min_four   -- for this text's walks alone
set_option linter.unusedVariables false
set_option linter.unusedSimpArgs false

/-! ### pluviallaw06_Rising: function 8 -/
def pluviallaw06_Rising.l0 : Nat → List Int → List (S36) → List Int → Int → List Int → Int → Int → Option ((List (S36)) × List Int)
  | 0, _, _, _, _, _, _, _ => none
  | k + 1, x2, x8, x9, x10, x16, x17, x18 => if x18 < x17 then (if 0 ≤ x18 then (if x18 < (x16.length : Int) then (if x18 < (x2.length : Int) then (if x8.length < 8796093022208 then (if x9.length < 17592186044416 then (pluviallaw06_Rising.l0 k x2 (x8 ++ [(⟨wrap64 (x10 + (wrap64 (1 + (wrap64 ((wrap64 (Int.tdiv (wrap64 (Int.tmod (rd x16 x18) 5)) 3)) * (wrap64 (Int.tmod (rd x16 x18) 7))))))), rd x2 x18⟩ : S36)]) (x9 ++ [wrap64 (x10 + (wrap64 (1 + (wrap64 ((wrap64 (Int.tdiv (wrap64 (Int.tmod (rd x16 x18) 5)) 3)) * (wrap64 (Int.tmod (rd x16 x18) 7)))))))]) (wrap64 (x10 + (wrap64 (1 + (wrap64 ((wrap64 (Int.tdiv (wrap64 (Int.tmod (rd x16 x18) 5)) 3)) * (wrap64 (Int.tmod (rd x16 x18) 7)))))))) x16 x17 (wrap64 (x18 + 1))) else (none)) else (none)) else (if x8.length < 8796093022208 then (if x9.length < 17592186044416 then (pluviallaw06_Rising.l0 k x2 (x8 ++ [(⟨wrap64 (x10 + (wrap64 (1 + (wrap64 ((wrap64 (Int.tdiv (wrap64 (Int.tmod (rd x16 x18) 5)) 3)) * (wrap64 (Int.tmod (rd x16 x18) 7))))))), 0⟩ : S36)]) (x9 ++ [wrap64 (x10 + (wrap64 (1 + (wrap64 ((wrap64 (Int.tdiv (wrap64 (Int.tmod (rd x16 x18) 5)) 3)) * (wrap64 (Int.tmod (rd x16 x18) 7)))))))]) (wrap64 (x10 + (wrap64 (1 + (wrap64 ((wrap64 (Int.tdiv (wrap64 (Int.tmod (rd x16 x18) 5)) 3)) * (wrap64 (Int.tmod (rd x16 x18) 7)))))))) x16 x17 (wrap64 (x18 + 1))) else (none)) else (none))) else (none)) else (none)) else (some (x8, x9))
def pluviallaw06_Rising.f (k : Nat) (l0 : List Int) (a1 : Int) (l2 : List Int) : Option ((List (S36)) × List Int) := pluviallaw06_Rising.l0 k l2 ([] : List (S36)) ([] : List Int) (wrap64 (a1)) l0 (l0.length : Int) 0
theorem pluviallaw06_Rising.mono_l : ∀ k, (∀ y0 y1 y2 y3 y4 y5 y6, LeO (pluviallaw06_Rising.l0 k y0 y1 y2 y3 y4 y5 y6) (pluviallaw06_Rising.l0 (k + 1) y0 y1 y2 y3 y4 y5 y6))
  | 0 => fun _ _ _ _ _ _ _ r h => by simp [pluviallaw06_Rising.l0] at h
  | k + 1 => by
    have ih0 := pluviallaw06_Rising.mono_l k
    · intro y0 y1 y2 y3 y4 y5 y6
      unfold pluviallaw06_Rising.l0
      repeat' first
      | (with_reducible exact ih0 _ _ _ _ _ _ _)
      | (with_reducible exact LeO.refl _)
      | (with_reducible exact LeO.none _)
      | (with_reducible refine LeO.ite ?_ ?_)
      | (with_reducible refine LeO.bind ?_ (fun _ => ?_))
      | exact ih0 _ _ _ _ _ _ _
      | exact LeO.none _
      | refine LeO.ite ?_ ?_
      | refine LeO.bind ?_ (fun _ => ?_)
theorem pluviallaw06_Rising.mono : ∀ a0 a1 a2 k, LeO (pluviallaw06_Rising.f k a0 a1 a2) (pluviallaw06_Rising.f (k + 1) a0 a1 a2) := by
  intro a0 a1 a2 k
  have ih0 := pluviallaw06_Rising.mono_l k
  unfold pluviallaw06_Rising.f
  repeat' first
      | (with_reducible exact ih0 _ _ _ _ _ _ _)
      | (with_reducible exact LeO.refl _)
      | (with_reducible exact LeO.none _)
      | (with_reducible refine LeO.ite ?_ ?_)
      | (with_reducible refine LeO.bind ?_ (fun _ => ?_))
      | exact ih0 _ _ _ _ _ _ _
      | exact LeO.none _
      | refine LeO.ite ?_ ?_
      | refine LeO.bind ?_ (fun _ => ?_)
set_option maxHeartbeats 8000000 in
set_option maxRecDepth 100000 in
theorem pluviallaw06_Rising.calls (k : Nat) (A0 : Option Addr) (c0 : Nat) (l0 : List Int) (a1 : Int) (A2 : Option Addr) (c2 : Nat) (l2 : List Int) (r1 : List (S36)) (r2 : List Int) (w : World) (hr0 : Kd.C (Kd.int .u8) w A0 l0.length l0) (hc0 : l0.length ≤ c0) (hr2 : Kd.C (Kd.int .u64) w A2 l2.length l2) (hc2 : l2.length ≤ c2) (h : pluviallaw06_Rising.f k l0 a1 l2 = some (r1, r2)) :
    Calls Try.prog 8 #[.slice A0 l0.length c0, .int .i16 a1, .slice A2 l2.length c2] w fun e w' => ∃ v0_ v1_ : Value, e = .returned (.tuple #[v0_, v1_]) ∧ Kd.R k36 36 w' w.heap.size (fun _ => True) v0_ r1 ∧ Kd.R (Kd.int .i64) 3 w' w.heap.size (fun _ => True) v1_ r2 ∧ Below w.heap.size w w' := by
  have hu36 := Try.underlying36
  have HR0 := Aside0.mk hr0
  have HC0 := Aside0.mk hc0
  clear hr0 hc0
  have HR2 := Aside0.mk hr2
  have HC2 := Aside0.mk hc2
  clear hr2 hc2
  have HB := Aside0.mk (Below.refl w.heap.size w)
  have H : (pluviallaw06_Rising.l0 k l2 ([] : List (S36)) ([] : List Int) (wrap64 (a1)) l0 (l0.length : Int) 0) = some (r1, r2) := h
  clear h
  have H' := Aside0.mk H
  clear H
  go_enter Try.func8, Try.ntmps8
  go_wp2
  go_loopg [8, 9, 10, 18] k (fun kq v8 v9 v10 v18 w' => ∃ (x8_1 : List (S36)) (x9_1 : List Int) (x10_1 : Int) (x18_1 : Int), v10 = .int .i64 x10_1 ∧ v18 = .int .i64 x18_1 ∧ Aside0 (pluviallaw06_Rising.l0 kq l2 x8_1 x9_1 x10_1 l0 (l0.length : Int) x18_1 = some (r1, r2)) ∧ Aside0 (kq ≤ k) ∧ Aside0 (Kd.R k36 36 w' w.heap.size (fun _ => True) v8 x8_1) ∧ Aside0 (Kd.R (Kd.int .i64) 3 w' w.heap.size (fun _ => True) v9 x9_1) ∧ Aside0 (Below w.heap.size w w'))
  case atStart => exact ⟨(([] : List (S36))), (([] : List Int)), (wrap64 (a1)), (0), (by first | rfl | (simp; done) | (simp [*]; done) | (simp [*]; omega)), (by first | rfl | (simp; done) | (simp [*]; done) | (simp [*]; omega)), H', ⟨Nat.le_refl _⟩, ⟨by first | exact Kd.R_nil _ _ _ _ _ | exact Kd.N_nil _ _ _ _ _ | exact Kd.V_nil _ _ _ _ _ | exact Kd.Q_nil _ _ _ _ _ | exact Kd.S_nil _ _ _ _ _⟩, ⟨by first | exact Kd.R_nil _ _ _ _ _ | exact Kd.N_nil _ _ _ _ _ | exact Kd.V_nil _ _ _ _ _ | exact Kd.Q_nil _ _ _ _ _ | exact Kd.S_nil _ _ _ _ _⟩, ⟨by repeat (first | (with_reducible first | exact HB.out | apply below_alloc | apply pw_below_drewN | apply below_drew1) | exact HB.out)⟩⟩
  case round =>
    clear H'
    try clear c2
    try clear p2
    obtain ⟨x8_1, x9_1, x10_1, x18_1, rfl, rfl, HA, HK1, HO_8, HO_9, HB⟩ := hrel
    cases gk with
    | zero => exact absurd HA.out (by simp [pluviallaw06_Rising.l0])
    | succ k1 =>
      have H := HA.out
      clear HA
      simp only [pluviallaw06_Rising.l0] at H
      by_cases c4 : x18_1 < (l0.length : Int)
      · rw [if_pos c4] at H
        have c4b0 : decide (x18_1 < (l0.length : Int)) = true := decide_eq_true c4
        clear c4
        by_cases c5 : 0 ≤ x18_1
        · rw [if_pos c5] at H
          have c5b0 : decide (0 ≤ x18_1) = true := decide_eq_true c5
          clear c5
          by_cases c6 : x18_1 < (l0.length : Int)
          · rw [if_pos c6] at H
            have c6b0 : decide (x18_1 < (l0.length : Int)) = true := decide_eq_true c6
            clear c6
            by_cases c7 : x18_1 < (l2.length : Int)
            · rw [if_pos c7] at H
              have c7b0 : decide (x18_1 < (l2.length : Int)) = true := decide_eq_true c7
              clear c7
              by_cases c8 : x8_1.length < 8796093022208
              · rw [if_pos c8] at H
                have LMc8 := Aside0.mk c8
                clear c8
                obtain ⟨y128, hy128⟩ : ∃ y_ : List (S36), y_ = (x8_1 ++ [(⟨wrap64 (x10_1 + (wrap64 (1 + (wrap64 ((wrap64 (Int.tdiv (wrap64 (Int.tmod (rd l0 x18_1) 5)) 3)) * (wrap64 (Int.tmod (rd l0 x18_1) 7))))))), rd l2 x18_1⟩ : S36)]) := ⟨_, rfl⟩
                replace H : (if x9_1.length < 17592186044416 then (pluviallaw06_Rising.l0 k1 l2 y128 (x9_1 ++ [wrap64 (x10_1 + (wrap64 (1 + (wrap64 ((wrap64 (Int.tdiv (wrap64 (Int.tmod (rd l0 x18_1) 5)) 3)) * (wrap64 (Int.tmod (rd l0 x18_1) 7)))))))]) (wrap64 (x10_1 + (wrap64 (1 + (wrap64 ((wrap64 (Int.tdiv (wrap64 (Int.tmod (rd l0 x18_1) 5)) 3)) * (wrap64 (Int.tmod (rd l0 x18_1) 7)))))))) l0 (l0.length : Int) (wrap64 (x18_1 + 1))) else (none)) = some (r1, r2) := by first | (rw [hy128]; with_reducible exact H) | (have H2_ := (Option.bind_some _ _).symm.trans H; rw [hy128]; with_reducible exact H2_) | (have H2_ := (Option.bind_some _ _).symm.trans H; with_reducible exact H2_) | with_reducible exact H | (rw [hy128]; exact H) | exact H
                have Ny128 := Aside0.mk hy128
                clear hy128
                by_cases c9 : x9_1.length < 17592186044416
                · rw [if_pos c9] at H
                  have LMc9 := Aside0.mk c9
                  clear c9
                  obtain ⟨y131, hy131⟩ : ∃ y_ : List Int, y_ = (x9_1 ++ [wrap64 (x10_1 + (wrap64 (1 + (wrap64 ((wrap64 (Int.tdiv (wrap64 (Int.tmod (rd l0 x18_1) 5)) 3)) * (wrap64 (Int.tmod (rd l0 x18_1) 7)))))))]) := ⟨_, rfl⟩
                  replace H : (pluviallaw06_Rising.l0 k1 l2 y128 y131 (wrap64 (x10_1 + (wrap64 (1 + (wrap64 ((wrap64 (Int.tdiv (wrap64 (Int.tmod (rd l0 x18_1) 5)) 3)) * (wrap64 (Int.tmod (rd l0 x18_1) 7)))))))) l0 (l0.length : Int) (wrap64 (x18_1 + 1))) = some (r1, r2) := by first | (rw [hy131]; with_reducible exact H) | (have H2_ := (Option.bind_some _ _).symm.trans H; rw [hy131]; with_reducible exact H2_) | (have H2_ := (Option.bind_some _ _).symm.trans H; with_reducible exact H2_) | with_reducible exact H | (rw [hy131]; exact H) | exact H
                  have Ny131 := Aside0.mk hy131
                  clear hy131
                  have H' := Aside0.mk H
                  clear H
                  have p125 : 0 ≤ (x18_1 : Int) := of_decide_eq_true (by first | (with_reducible assumption) | assumption)
                  have q125 : x18_1 < (l0.length : Int) := of_decide_eq_true (by first | (with_reducible assumption) | assumption)
                  obtain ⟨ad125, e125, hx125_0⟩ := Kd.at_int HR0.out x18_1 p125 q125
                  cases e125
                  replace hx125_0 := (HB.out.cell (World.block_lt_of_cell? w _ hx125_0)).trans hx125_0
                  replace p125 := eq_true p125
                  replace q125 := eq_true q125
                  go_wp2_with (first | ((with_reducible refine gate_dst (N := 13) rfl ?_); refine box_event ?hg (N := 13) ?hd (cs := #[.int .i64 0, .int .u64 0]) (t := 36) ?hr ?_; (case hd => rfl); (case hg => rfl); (case hr => first | (go_simp; done) | (go_simp; rfl)); intro gb126 hg w10 hbox hb; have n0_ := Aside0.mk (Kd.R_below (Kd.R_elderB (by (with_reducible repeat (first | apply Kd.R_alloc | apply Kd.R_drewN | apply Kd.R_drew)); exact HO_8.out) gb126 (Nat.le_of_eq hg.symm)) hb); have n1_ := Aside0.mk (Kd.R_below (by (with_reducible repeat (first | apply Kd.R_alloc | apply Kd.R_drewN | apply Kd.R_drew)); exact HO_9.out) hb); have n2_ := Aside0.mk (below_step (by repeat (first | (with_reducible first | exact HB.out | apply below_alloc | apply pw_below_drewN | apply below_drew1) | exact HB.out)) hb); have n3_ := Aside0.mk (hbox); have n4_ := Aside0.mk ((by rw [hg]; exact (below_size (by repeat (first | (with_reducible first | exact HB.out | apply below_alloc | apply pw_below_drewN | apply below_drew1) | exact HB.out))) : w.heap.size ≤ gb126)); have n5_ := Aside0.mk ((by rw [hg]; exact (below_size (by repeat (first | (with_reducible first | exact HB.out | apply below_alloc | apply pw_below_drewN | apply below_drew1) | exact HB.out))) : w.heap.size ≤ gb126)); clear HO_8; clear HO_9; clear HB; have HO_8 := n0_; have HO_9 := n1_; have HB := n2_; have BK126 := n3_; have GW126 := n4_; have GE126 := n5_; clear n0_ n1_ n2_ n3_ n4_ n5_; clear hb hbox hg; have hcz11_0 : w10.cell? ⟨gb126, 0, none⟩ = some (.int .i64 0) := (blk_cell BK126.out 0).trans rfl; have hcz11_1 : w10.cell? ⟨gb126, 1, none⟩ = some (.int .u64 0) := (blk_cell BK126.out 1).trans rfl; have hfz11_0 := blk_frozen BK126.out 0; have hfz11_1 := blk_frozen BK126.out 1; have hsz11_1 : ∀ A_ B_ : Value, ((w10.setCell ⟨gb126, 0, none⟩ A_).setCell ⟨gb126, 1, none⟩ B_).cell? ⟨gb126, 1, none⟩ = some B_ := fun A_ B_ => World.cell?_setCell_same _ _ _ ((World.cell?_setCell_other _ _ _ _ (by simp)).trans hcz11_1); have p127 : 0 ≤ (x18_1 : Int) := of_decide_eq_true (by first | (with_reducible assumption) | assumption); have q127 : x18_1 < (l2.length : Int) := of_decide_eq_true (by first | (with_reducible assumption) | assumption); obtain ⟨ad127, e127, hx127_0⟩ := Kd.at_int HR2.out x18_1 p127 q127; cases e127; have hn127_0 : ad127.block ≠ gb126 := Nat.ne_of_lt (Nat.lt_of_lt_of_le (by have := World.block_lt_of_cell? _ _ hx127_0; first | rwa [add_block] at this | exact this) GW126.out); have hn127_1 : ad127.block ≠ gb126 := Nat.ne_of_lt (Nat.lt_of_lt_of_le (by have := World.block_lt_of_cell? _ _ hx127_0; first | rwa [add_block] at this | exact this) GW126.out); replace hx127_0 := (HB.out.cell (World.block_lt_of_cell? w _ hx127_0)).trans hx127_0; replace hx127_0 := (cell_far (p := ⟨gb126, 0, none⟩) (by first | (rw [add_block]; exact hn127_0) | (show (Addr.add _ _).block ≠ _; rw [add_block]; exact hn127_0) | exact hn127_0) (.int .i64 (wrap64 (x10_1 + (wrap64 (1 + (wrap64 ((wrap64 (Int.tdiv (wrap64 (Int.tmod (rd l0 x18_1) 5)) 3)) * (wrap64 (Int.tmod (rd l0 x18_1) 7)))))))))).trans hx127_0; replace hx127_0 := (cell_far (p := ⟨gb126, 1, none⟩) (by first | (rw [add_block]; exact hn127_1) | (show (Addr.add _ _).block ≠ _; rw [add_block]; exact hn127_1) | exact hn127_1) (.int .u64 0)).trans hx127_0; clear hn127_0; clear hn127_1; replace p127 := eq_true p127; replace q127 := eq_true q127) | ((with_reducible refine gate_builtin (b := .append) (xs := #[.tmp 45, .tmp 47]) rfl ?_); at_builtin; refine Kd.R_append k36 (w0 := w) w.heap.size rfl (.tmp 45) (.tmp 47) 25 36 (.agg #[(.int .i64 0), (.int .u64 0)]) 16 rfl Try.underlying25 info36 rfl (by decide) (by omega) u8 x8_1 (⟨wrap64 (x10_1 + (wrap64 (1 + (wrap64 ((wrap64 (Int.tdiv (wrap64 (Int.tmod (rd l0 x18_1) 5)) 3)) * (wrap64 (Int.tmod (rd l0 x18_1) 7))))))), rd l2 x18_1⟩ : S36) [.int .i64 (wrap64 (x10_1 + (wrap64 (1 + (wrap64 ((wrap64 (Int.tdiv (wrap64 (Int.tmod (rd l0 x18_1) 5)) 3)) * (wrap64 (Int.tmod (rd l0 x18_1) 7)))))))), .int .u64 (rd l2 x18_1)] (fun k_ => k_ ≠ gb126) (fun _ => False) rfl (by first | (go_simp; done) | (go_simp; rfl)) ?aP (fun _ hk => hk.elim) ?aF ?aO ?aB ?aS ?aL ?_; (case aP => exact k36_mkM _ _ _ (⟨wrap64 (x10_1 + (wrap64 (1 + (wrap64 ((wrap64 (Int.tdiv (wrap64 (Int.tmod (rd l0 x18_1) 5)) 3)) * (wrap64 (Int.tmod (rd l0 x18_1) 7))))))), rd l2 x18_1⟩ : S36)); (case aB => exact (by repeat (first | (with_reducible first | exact HB.out | apply below_alloc | apply pw_below_drewN | apply below_drew1 | refine below_set ?_ GE126.out) | exact HB.out))); (case aF => exact (fun k_ hk => Kd.freshB (g := gb126) (o := .cells #[.int .i64 (wrap64 (x10_1 + (wrap64 (1 + (wrap64 ((wrap64 (Int.tdiv (wrap64 (Int.tmod (rd l0 x18_1) 5)) 3)) * (wrap64 (Int.tmod (rd l0 x18_1) 7)))))))), .int .u64 (rd l2 x18_1)] 36 (0, 0)) (by (with_reducible repeat (first | refine blk_drewN ?_ _ | refine blk_drew ?_ | refine blk_alloc ?_ _)); refine blk_put (cs := #[.int .i64 (wrap64 (x10_1 + (wrap64 (1 + (wrap64 ((wrap64 (Int.tdiv (wrap64 (Int.tmod (rd l0 x18_1) 5)) 3)) * (wrap64 (Int.tmod (rd l0 x18_1) 7)))))))), .int .u64 0]) ?_ 1 _ rfl; (with_reducible repeat (first | refine blk_drewN ?_ _ | refine blk_drew ?_ | refine blk_alloc ?_ _)); refine blk_put (cs := #[.int .i64 (wrap64 (x10_1 + (wrap64 (1 + (wrap64 ((wrap64 (Int.tdiv (wrap64 (Int.tmod (rd l0 x18_1) 5)) 3)) * (wrap64 (Int.tmod (rd l0 x18_1) 7)))))))), .int .u64 0]) ?_ 1 _ rfl; (with_reducible repeat (first | refine blk_drewN ?_ _ | refine blk_drew ?_ | refine blk_alloc ?_ _)); refine blk_put (cs := #[.int .i64 0, .int .u64 0]) ?_ 0 _ rfl; (with_reducible repeat (first | refine blk_drewN ?_ _ | refine blk_drew ?_ | refine blk_alloc ?_ _)); exact BK126.out) k_ hk)); (case aO => exact (by (with_reducible repeat (first | apply Kd.R_alloc | apply Kd.R_drewN | apply Kd.R_drew)); exact Kd.R_mono (Kd.R_far (p := ⟨gb126, 1, none⟩) (Kd.R_far (p := ⟨gb126, 1, none⟩) (Kd.R_far (p := ⟨gb126, 0, none⟩) (Kd.R_mono HO_8.out (fun k_ hk => (⟨hk, hk.2⟩ : _ ∧ k_ ≠ gb126))) (fun _ hk => hk.2) (.int .i64 (wrap64 (x10_1 + (wrap64 (1 + (wrap64 ((wrap64 (Int.tdiv (wrap64 (Int.tmod (rd l0 x18_1) 5)) 3)) * (wrap64 (Int.tmod (rd l0 x18_1) 7)))))))))) (fun _ hk => hk.2) (.int .u64 0)) (fun _ hk => hk.2) (.int .u64 (rd l2 x18_1))) (fun _ hk => hk.1.2))); (case aS => exact (below_size (by repeat (first | (with_reducible first | exact HB.out | apply below_alloc | apply pw_below_drewN | apply below_drew1 | refine below_set ?_ GE126.out) | exact HB.out)))); (case aL => have := LMc8.out; omega); intro v129 w12 ho hb hg hat; rw [← Ny128.out] at ho; have n0_ := Aside0.mk (Kd.R_over' (by (with_reducible repeat (first | apply Kd.R_alloc | apply Kd.R_drewN | apply Kd.R_drew)); exact (Kd.R_mono (Kd.R_far (p := ⟨gb126, 1, none⟩) (Kd.R_far (p := ⟨gb126, 1, none⟩) (Kd.R_far (p := ⟨gb126, 0, none⟩) (Kd.R_types HO_9.out BK126.out (by decide)) (fun _ hk => hk.2) (.int .i64 (wrap64 (x10_1 + (wrap64 (1 + (wrap64 ((wrap64 (Int.tdiv (wrap64 (Int.tmod (rd l0 x18_1) 5)) 3)) * (wrap64 (Int.tmod (rd l0 x18_1) 7)))))))))) (fun _ hk => hk.2) (.int .u64 0)) (fun _ hk => hk.2) (.int .u64 (rd l2 x18_1))) (fun _ h_ => h_.1))) (Kd.R_typed (by (with_reducible repeat (first | apply Kd.R_alloc | apply Kd.R_drewN | apply Kd.R_drew)); exact (Kd.R_mono (Kd.R_far (p := ⟨gb126, 1, none⟩) (Kd.R_far (p := ⟨gb126, 1, none⟩) (Kd.R_far (p := ⟨gb126, 0, none⟩) (Kd.R_mono HO_8.out (fun k_ hk => (⟨hk, hk.2⟩ : _ ∧ k_ ≠ gb126))) (fun _ hk => hk.2) (.int .i64 (wrap64 (x10_1 + (wrap64 (1 + (wrap64 ((wrap64 (Int.tdiv (wrap64 (Int.tmod (rd l0 x18_1) 5)) 3)) * (wrap64 (Int.tmod (rd l0 x18_1) 7)))))))))) (fun _ hk => hk.2) (.int .u64 0)) (fun _ hk => hk.2) (.int .u64 (rd l2 x18_1))) (fun _ h_ => h_.1)))) (by decide) hg); have n1_ := Aside0.mk (blk_grown (g := gb126) (o := .cells #[.int .i64 (wrap64 (x10_1 + (wrap64 (1 + (wrap64 ((wrap64 (Int.tdiv (wrap64 (Int.tmod (rd l0 x18_1) 5)) 3)) * (wrap64 (Int.tmod (rd l0 x18_1) 7)))))))), .int .u64 (rd l2 x18_1)] 36 (0, 0)) (by (with_reducible repeat (first | refine blk_drewN ?_ _ | refine blk_drew ?_ | refine blk_alloc ?_ _)); refine blk_put (cs := #[.int .i64 (wrap64 (x10_1 + (wrap64 (1 + (wrap64 ((wrap64 (Int.tdiv (wrap64 (Int.tmod (rd l0 x18_1) 5)) 3)) * (wrap64 (Int.tmod (rd l0 x18_1) 7)))))))), .int .u64 0]) ?_ 1 _ rfl; (with_reducible repeat (first | refine blk_drewN ?_ _ | refine blk_drew ?_ | refine blk_alloc ?_ _)); refine blk_put (cs := #[.int .i64 (wrap64 (x10_1 + (wrap64 (1 + (wrap64 ((wrap64 (Int.tdiv (wrap64 (Int.tmod (rd l0 x18_1) 5)) 3)) * (wrap64 (Int.tmod (rd l0 x18_1) 7)))))))), .int .u64 0]) ?_ 1 _ rfl; (with_reducible repeat (first | refine blk_drewN ?_ _ | refine blk_drew ?_ | refine blk_alloc ?_ _)); refine blk_put (cs := #[.int .i64 0, .int .u64 0]) ?_ 0 _ rfl; (with_reducible repeat (first | refine blk_drewN ?_ _ | refine blk_drew ?_ | refine blk_alloc ?_ _)); exact BK126.out) hg (Kd.R_away HO_8.out (fun _ hk => hk.2))); have n2_ := Aside0.mk (hb); have n3_ := Aside0.mk (ho); clear HO_9; clear BK126; clear HB; clear HO_8; have HO_9 := n0_; have BK126 := n1_; have HB := n2_; have HO130 := n3_; clear n0_ n1_ n2_ n3_; clear ho hb hg hat) | ((with_reducible refine gate_builtin (b := .append) (xs := #[.tmp 49, .tmp 51]) rfl ?_); at_builtin; refine Kd.R_append (Kd.int .i64) (w0 := w) w.heap.size rfl (.tmp 49) (.tmp 51) 26 3 (.int .i64 0) 8 rfl Try.underlying26 info3 rfl (by decide) (by omega) u9 x9_1 (wrap64 (x10_1 + (wrap64 (1 + (wrap64 ((wrap64 (Int.tdiv (wrap64 (Int.tmod (rd l0 x18_1) 5)) 3)) * (wrap64 (Int.tmod (rd l0 x18_1) 7)))))))) [.int .i64 (wrap64 (x10_1 + (wrap64 (1 + (wrap64 ((wrap64 (Int.tdiv (wrap64 (Int.tmod (rd l0 x18_1) 5)) 3)) * (wrap64 (Int.tmod (rd l0 x18_1) 7))))))))] (fun _ => True) (fun _ => False) rfl rfl ?aP (fun _ hk => hk.elim) ?aF ?aO ?aB ?aS ?aL ?_; (case aP => exact rfl); (case aB => exact (by repeat (first | (with_reducible first | exact HB.out | apply below_alloc | apply pw_below_drewN | apply below_drew1 | refine below_set ?_ GE126.out) | exact HB.out))); (case aF => exact (fun _ _ => trivial)); (case aO => exact (by (with_reducible repeat (first | apply Kd.R_alloc | apply Kd.R_drewN | apply Kd.R_drew)); exact HO_9.out)); (case aS => exact (below_size (by repeat (first | (with_reducible first | exact HB.out | apply below_alloc | apply pw_below_drewN | apply below_drew1 | refine below_set ?_ GE126.out) | exact HB.out)))); (case aL => have := LMc9.out; omega); intro v132 w13 ho hb hg hat; rw [← Ny131.out] at ho; have n0_ := Aside0.mk (blk_grown (g := gb126) (o := .cells #[.int .i64 (wrap64 (x10_1 + (wrap64 (1 + (wrap64 ((wrap64 (Int.tdiv (wrap64 (Int.tmod (rd l0 x18_1) 5)) 3)) * (wrap64 (Int.tmod (rd l0 x18_1) 7)))))))), .int .u64 (rd l2 x18_1)] 36 (0, 0)) (by (with_reducible repeat (first | refine blk_drewN ?_ _ | refine blk_drew ?_ | refine blk_alloc ?_ _)); exact BK126.out) hg (Kd.R_ne HO_9.out BK126.out (by decide))); have n1_ := Aside0.mk (Kd.R_over' (by (with_reducible repeat (first | apply Kd.R_alloc | apply Kd.R_drewN | apply Kd.R_drew)); exact HO130.out) (Kd.R_typed (by (with_reducible repeat (first | apply Kd.R_alloc | apply Kd.R_drewN | apply Kd.R_drew)); exact HO_9.out)) (by decide) hg); have n2_ := Aside0.mk (hb); have n3_ := Aside0.mk (ho); clear BK126; clear HO130; clear HB; clear HO_9; have BK126 := n0_; have HO130 := n1_; have HB := n2_; have HO133 := n3_; clear n0_ n1_ n2_ n3_; clear ho hb hg hat))
                  go_roundg k1
                  case measure => have := HK1.out; omega
                  case rel => exact ⟨(y128), (y131), (wrap64 (x10_1 + (wrap64 (1 + (wrap64 ((wrap64 (Int.tdiv (wrap64 (Int.tmod (rd l0 x18_1) 5)) 3)) * (wrap64 (Int.tmod (rd l0 x18_1) 7)))))))), (wrap64 (x18_1 + 1)), (by first | rfl | (simp; done) | (simp [*]; done) | (simp [*]; omega)), (by first | rfl | (simp; done) | (simp [*]; done) | (simp [*]; omega)), H', ⟨by have := HK1.out; omega⟩, ⟨by (with_reducible repeat (first | apply Kd.R_alloc | apply Kd.R_drewN | apply Kd.R_drew)); exact Kd.R_mono HO130.out (fun _ hk => trivial)⟩, ⟨by (with_reducible repeat (first | apply Kd.R_alloc | apply Kd.R_drewN | apply Kd.R_drew)); exact HO133.out⟩, ⟨by repeat (first | (with_reducible first | exact HB.out | apply below_alloc | apply pw_below_drewN | apply below_drew1 | refine below_set ?_ GE126.out) | exact HB.out)⟩⟩
                · rw [if_neg c9] at H
                  exact absurd H (by simp)
              · rw [if_neg c8] at H
                exact absurd H (by simp)
            · rw [if_neg c7] at H
              have c7b0 : decide (x18_1 < (l2.length : Int)) = false := decide_eq_false c7
              clear c7
              by_cases c14 : x8_1.length < 8796093022208
              · rw [if_pos c14] at H
                have LMc14 := Aside0.mk c14
                clear c14
                obtain ⟨y134, hy134⟩ : ∃ y_ : List (S36), y_ = (x8_1 ++ [(⟨wrap64 (x10_1 + (wrap64 (1 + (wrap64 ((wrap64 (Int.tdiv (wrap64 (Int.tmod (rd l0 x18_1) 5)) 3)) * (wrap64 (Int.tmod (rd l0 x18_1) 7))))))), 0⟩ : S36)]) := ⟨_, rfl⟩
                replace H : (if x9_1.length < 17592186044416 then (pluviallaw06_Rising.l0 k1 l2 y134 (x9_1 ++ [wrap64 (x10_1 + (wrap64 (1 + (wrap64 ((wrap64 (Int.tdiv (wrap64 (Int.tmod (rd l0 x18_1) 5)) 3)) * (wrap64 (Int.tmod (rd l0 x18_1) 7)))))))]) (wrap64 (x10_1 + (wrap64 (1 + (wrap64 ((wrap64 (Int.tdiv (wrap64 (Int.tmod (rd l0 x18_1) 5)) 3)) * (wrap64 (Int.tmod (rd l0 x18_1) 7)))))))) l0 (l0.length : Int) (wrap64 (x18_1 + 1))) else (none)) = some (r1, r2) := by first | (rw [hy134]; with_reducible exact H) | (have H2_ := (Option.bind_some _ _).symm.trans H; rw [hy134]; with_reducible exact H2_) | (have H2_ := (Option.bind_some _ _).symm.trans H; with_reducible exact H2_) | with_reducible exact H | (rw [hy134]; exact H) | exact H
                have Ny134 := Aside0.mk hy134
                clear hy134
                by_cases c15 : x9_1.length < 17592186044416
                · rw [if_pos c15] at H
                  have LMc15 := Aside0.mk c15
                  clear c15
                  obtain ⟨y137, hy137⟩ : ∃ y_ : List Int, y_ = (x9_1 ++ [wrap64 (x10_1 + (wrap64 (1 + (wrap64 ((wrap64 (Int.tdiv (wrap64 (Int.tmod (rd l0 x18_1) 5)) 3)) * (wrap64 (Int.tmod (rd l0 x18_1) 7)))))))]) := ⟨_, rfl⟩
                  replace H : (pluviallaw06_Rising.l0 k1 l2 y134 y137 (wrap64 (x10_1 + (wrap64 (1 + (wrap64 ((wrap64 (Int.tdiv (wrap64 (Int.tmod (rd l0 x18_1) 5)) 3)) * (wrap64 (Int.tmod (rd l0 x18_1) 7)))))))) l0 (l0.length : Int) (wrap64 (x18_1 + 1))) = some (r1, r2) := by first | (rw [hy137]; with_reducible exact H) | (have H2_ := (Option.bind_some _ _).symm.trans H; rw [hy137]; with_reducible exact H2_) | (have H2_ := (Option.bind_some _ _).symm.trans H; with_reducible exact H2_) | with_reducible exact H | (rw [hy137]; exact H) | exact H
                  have Ny137 := Aside0.mk hy137
                  clear hy137
                  have H' := Aside0.mk H
                  clear H
                  have p125 : 0 ≤ (x18_1 : Int) := of_decide_eq_true (by first | (with_reducible assumption) | assumption)
                  have q125 : x18_1 < (l0.length : Int) := of_decide_eq_true (by first | (with_reducible assumption) | assumption)
                  obtain ⟨ad125, e125, hx125_0⟩ := Kd.at_int HR0.out x18_1 p125 q125
                  cases e125
                  replace hx125_0 := (HB.out.cell (World.block_lt_of_cell? w _ hx125_0)).trans hx125_0
                  replace p125 := eq_true p125
                  replace q125 := eq_true q125
                  go_wp2_with (first | ((with_reducible refine gate_dst (N := 13) rfl ?_); refine box_event ?hg (N := 13) ?hd (cs := #[.int .i64 0, .int .u64 0]) (t := 36) ?hr ?_; (case hd => rfl); (case hg => rfl); (case hr => first | (go_simp; done) | (go_simp; rfl)); intro gb126 hg w16 hbox hb; have n0_ := Aside0.mk (Kd.R_below (Kd.R_elderB (by (with_reducible repeat (first | apply Kd.R_alloc | apply Kd.R_drewN | apply Kd.R_drew)); exact HO_8.out) gb126 (Nat.le_of_eq hg.symm)) hb); have n1_ := Aside0.mk (Kd.R_below (by (with_reducible repeat (first | apply Kd.R_alloc | apply Kd.R_drewN | apply Kd.R_drew)); exact HO_9.out) hb); have n2_ := Aside0.mk (below_step (by repeat (first | (with_reducible first | exact HB.out | apply below_alloc | apply pw_below_drewN | apply below_drew1) | exact HB.out)) hb); have n3_ := Aside0.mk (hbox); have n4_ := Aside0.mk ((by rw [hg]; exact (below_size (by repeat (first | (with_reducible first | exact HB.out | apply below_alloc | apply pw_below_drewN | apply below_drew1) | exact HB.out))) : w.heap.size ≤ gb126)); have n5_ := Aside0.mk ((by rw [hg]; exact (below_size (by repeat (first | (with_reducible first | exact HB.out | apply below_alloc | apply pw_below_drewN | apply below_drew1) | exact HB.out))) : w.heap.size ≤ gb126)); clear HO_8; clear HO_9; clear HB; have HO_8 := n0_; have HO_9 := n1_; have HB := n2_; have BK126 := n3_; have GW126 := n4_; have GE126 := n5_; clear n0_ n1_ n2_ n3_ n4_ n5_; clear hb hbox hg; have hcz17_0 : w16.cell? ⟨gb126, 0, none⟩ = some (.int .i64 0) := (blk_cell BK126.out 0).trans rfl; have hcz17_1 : w16.cell? ⟨gb126, 1, none⟩ = some (.int .u64 0) := (blk_cell BK126.out 1).trans rfl; have hfz17_0 := blk_frozen BK126.out 0; have hfz17_1 := blk_frozen BK126.out 1; have hsz17_1 : ∀ A_ B_ : Value, ((w16.setCell ⟨gb126, 0, none⟩ A_).setCell ⟨gb126, 1, none⟩ B_).cell? ⟨gb126, 1, none⟩ = some B_ := fun A_ B_ => World.cell?_setCell_same _ _ _ ((World.cell?_setCell_other _ _ _ _ (by simp)).trans hcz17_1)) | ((with_reducible refine gate_builtin (b := .append) (xs := #[.tmp 45, .tmp 47]) rfl ?_); at_builtin; refine Kd.R_append k36 (w0 := w) w.heap.size rfl (.tmp 45) (.tmp 47) 25 36 (.agg #[(.int .i64 0), (.int .u64 0)]) 16 rfl Try.underlying25 info36 rfl (by decide) (by omega) u8 x8_1 (⟨wrap64 (x10_1 + (wrap64 (1 + (wrap64 ((wrap64 (Int.tdiv (wrap64 (Int.tmod (rd l0 x18_1) 5)) 3)) * (wrap64 (Int.tmod (rd l0 x18_1) 7))))))), 0⟩ : S36) [.int .i64 (wrap64 (x10_1 + (wrap64 (1 + (wrap64 ((wrap64 (Int.tdiv (wrap64 (Int.tmod (rd l0 x18_1) 5)) 3)) * (wrap64 (Int.tmod (rd l0 x18_1) 7)))))))), .int .u64 0] (fun k_ => k_ ≠ gb126) (fun _ => False) rfl (by first | (go_simp; done) | (go_simp; rfl)) ?aP (fun _ hk => hk.elim) ?aF ?aO ?aB ?aS ?aL ?_; (case aP => exact k36_mkM _ _ _ (⟨wrap64 (x10_1 + (wrap64 (1 + (wrap64 ((wrap64 (Int.tdiv (wrap64 (Int.tmod (rd l0 x18_1) 5)) 3)) * (wrap64 (Int.tmod (rd l0 x18_1) 7))))))), 0⟩ : S36)); (case aB => exact (by repeat (first | (with_reducible first | exact HB.out | apply below_alloc | apply pw_below_drewN | apply below_drew1 | refine below_set ?_ GE126.out) | exact HB.out))); (case aF => exact (fun k_ hk => Kd.freshB (g := gb126) (o := .cells #[.int .i64 (wrap64 (x10_1 + (wrap64 (1 + (wrap64 ((wrap64 (Int.tdiv (wrap64 (Int.tmod (rd l0 x18_1) 5)) 3)) * (wrap64 (Int.tmod (rd l0 x18_1) 7)))))))), .int .u64 0] 36 (0, 0)) (by (with_reducible repeat (first | refine blk_drewN ?_ _ | refine blk_drew ?_ | refine blk_alloc ?_ _)); refine blk_put (cs := #[.int .i64 (wrap64 (x10_1 + (wrap64 (1 + (wrap64 ((wrap64 (Int.tdiv (wrap64 (Int.tmod (rd l0 x18_1) 5)) 3)) * (wrap64 (Int.tmod (rd l0 x18_1) 7)))))))), .int .u64 0]) ?_ 1 _ rfl; (with_reducible repeat (first | refine blk_drewN ?_ _ | refine blk_drew ?_ | refine blk_alloc ?_ _)); refine blk_put (cs := #[.int .i64 0, .int .u64 0]) ?_ 0 _ rfl; (with_reducible repeat (first | refine blk_drewN ?_ _ | refine blk_drew ?_ | refine blk_alloc ?_ _)); exact BK126.out) k_ hk)); (case aO => exact (by (with_reducible repeat (first | apply Kd.R_alloc | apply Kd.R_drewN | apply Kd.R_drew)); exact Kd.R_mono (Kd.R_far (p := ⟨gb126, 1, none⟩) (Kd.R_far (p := ⟨gb126, 0, none⟩) (Kd.R_mono HO_8.out (fun k_ hk => (⟨hk, hk.2⟩ : _ ∧ k_ ≠ gb126))) (fun _ hk => hk.2) (.int .i64 (wrap64 (x10_1 + (wrap64 (1 + (wrap64 ((wrap64 (Int.tdiv (wrap64 (Int.tmod (rd l0 x18_1) 5)) 3)) * (wrap64 (Int.tmod (rd l0 x18_1) 7)))))))))) (fun _ hk => hk.2) (.int .u64 0)) (fun _ hk => hk.1.2))); (case aS => exact (below_size (by repeat (first | (with_reducible first | exact HB.out | apply below_alloc | apply pw_below_drewN | apply below_drew1 | refine below_set ?_ GE126.out) | exact HB.out)))); (case aL => have := LMc14.out; omega); intro v135 w18 ho hb hg hat; rw [← Ny134.out] at ho; have n0_ := Aside0.mk (Kd.R_over' (by (with_reducible repeat (first | apply Kd.R_alloc | apply Kd.R_drewN | apply Kd.R_drew)); exact (Kd.R_mono (Kd.R_far (p := ⟨gb126, 1, none⟩) (Kd.R_far (p := ⟨gb126, 0, none⟩) (Kd.R_types HO_9.out BK126.out (by decide)) (fun _ hk => hk.2) (.int .i64 (wrap64 (x10_1 + (wrap64 (1 + (wrap64 ((wrap64 (Int.tdiv (wrap64 (Int.tmod (rd l0 x18_1) 5)) 3)) * (wrap64 (Int.tmod (rd l0 x18_1) 7)))))))))) (fun _ hk => hk.2) (.int .u64 0)) (fun _ h_ => h_.1))) (Kd.R_typed (by (with_reducible repeat (first | apply Kd.R_alloc | apply Kd.R_drewN | apply Kd.R_drew)); exact (Kd.R_mono (Kd.R_far (p := ⟨gb126, 1, none⟩) (Kd.R_far (p := ⟨gb126, 0, none⟩) (Kd.R_mono HO_8.out (fun k_ hk => (⟨hk, hk.2⟩ : _ ∧ k_ ≠ gb126))) (fun _ hk => hk.2) (.int .i64 (wrap64 (x10_1 + (wrap64 (1 + (wrap64 ((wrap64 (Int.tdiv (wrap64 (Int.tmod (rd l0 x18_1) 5)) 3)) * (wrap64 (Int.tmod (rd l0 x18_1) 7)))))))))) (fun _ hk => hk.2) (.int .u64 0)) (fun _ h_ => h_.1)))) (by decide) hg); have n1_ := Aside0.mk (blk_grown (g := gb126) (o := .cells #[.int .i64 (wrap64 (x10_1 + (wrap64 (1 + (wrap64 ((wrap64 (Int.tdiv (wrap64 (Int.tmod (rd l0 x18_1) 5)) 3)) * (wrap64 (Int.tmod (rd l0 x18_1) 7)))))))), .int .u64 0] 36 (0, 0)) (by (with_reducible repeat (first | refine blk_drewN ?_ _ | refine blk_drew ?_ | refine blk_alloc ?_ _)); refine blk_put (cs := #[.int .i64 (wrap64 (x10_1 + (wrap64 (1 + (wrap64 ((wrap64 (Int.tdiv (wrap64 (Int.tmod (rd l0 x18_1) 5)) 3)) * (wrap64 (Int.tmod (rd l0 x18_1) 7)))))))), .int .u64 0]) ?_ 1 _ rfl; (with_reducible repeat (first | refine blk_drewN ?_ _ | refine blk_drew ?_ | refine blk_alloc ?_ _)); refine blk_put (cs := #[.int .i64 0, .int .u64 0]) ?_ 0 _ rfl; (with_reducible repeat (first | refine blk_drewN ?_ _ | refine blk_drew ?_ | refine blk_alloc ?_ _)); exact BK126.out) hg (Kd.R_away HO_8.out (fun _ hk => hk.2))); have n2_ := Aside0.mk (hb); have n3_ := Aside0.mk (ho); clear HO_9; clear BK126; clear HB; clear HO_8; have HO_9 := n0_; have BK126 := n1_; have HB := n2_; have HO136 := n3_; clear n0_ n1_ n2_ n3_; clear ho hb hg hat) | ((with_reducible refine gate_builtin (b := .append) (xs := #[.tmp 49, .tmp 51]) rfl ?_); at_builtin; refine Kd.R_append (Kd.int .i64) (w0 := w) w.heap.size rfl (.tmp 49) (.tmp 51) 26 3 (.int .i64 0) 8 rfl Try.underlying26 info3 rfl (by decide) (by omega) u9 x9_1 (wrap64 (x10_1 + (wrap64 (1 + (wrap64 ((wrap64 (Int.tdiv (wrap64 (Int.tmod (rd l0 x18_1) 5)) 3)) * (wrap64 (Int.tmod (rd l0 x18_1) 7)))))))) [.int .i64 (wrap64 (x10_1 + (wrap64 (1 + (wrap64 ((wrap64 (Int.tdiv (wrap64 (Int.tmod (rd l0 x18_1) 5)) 3)) * (wrap64 (Int.tmod (rd l0 x18_1) 7))))))))] (fun _ => True) (fun _ => False) rfl rfl ?aP (fun _ hk => hk.elim) ?aF ?aO ?aB ?aS ?aL ?_; (case aP => exact rfl); (case aB => exact (by repeat (first | (with_reducible first | exact HB.out | apply below_alloc | apply pw_below_drewN | apply below_drew1 | refine below_set ?_ GE126.out) | exact HB.out))); (case aF => exact (fun _ _ => trivial)); (case aO => exact (by (with_reducible repeat (first | apply Kd.R_alloc | apply Kd.R_drewN | apply Kd.R_drew)); exact HO_9.out)); (case aS => exact (below_size (by repeat (first | (with_reducible first | exact HB.out | apply below_alloc | apply pw_below_drewN | apply below_drew1 | refine below_set ?_ GE126.out) | exact HB.out)))); (case aL => have := LMc15.out; omega); intro v138 w19 ho hb hg hat; rw [← Ny137.out] at ho; have n0_ := Aside0.mk (blk_grown (g := gb126) (o := .cells #[.int .i64 (wrap64 (x10_1 + (wrap64 (1 + (wrap64 ((wrap64 (Int.tdiv (wrap64 (Int.tmod (rd l0 x18_1) 5)) 3)) * (wrap64 (Int.tmod (rd l0 x18_1) 7)))))))), .int .u64 0] 36 (0, 0)) (by (with_reducible repeat (first | refine blk_drewN ?_ _ | refine blk_drew ?_ | refine blk_alloc ?_ _)); exact BK126.out) hg (Kd.R_ne HO_9.out BK126.out (by decide))); have n1_ := Aside0.mk (Kd.R_over' (by (with_reducible repeat (first | apply Kd.R_alloc | apply Kd.R_drewN | apply Kd.R_drew)); exact HO136.out) (Kd.R_typed (by (with_reducible repeat (first | apply Kd.R_alloc | apply Kd.R_drewN | apply Kd.R_drew)); exact HO_9.out)) (by decide) hg); have n2_ := Aside0.mk (hb); have n3_ := Aside0.mk (ho); clear BK126; clear HO136; clear HB; clear HO_9; have BK126 := n0_; have HO136 := n1_; have HB := n2_; have HO139 := n3_; clear n0_ n1_ n2_ n3_; clear ho hb hg hat))
                  go_roundg k1
                  case measure => have := HK1.out; omega
                  case rel => exact ⟨(y134), (y137), (wrap64 (x10_1 + (wrap64 (1 + (wrap64 ((wrap64 (Int.tdiv (wrap64 (Int.tmod (rd l0 x18_1) 5)) 3)) * (wrap64 (Int.tmod (rd l0 x18_1) 7)))))))), (wrap64 (x18_1 + 1)), (by first | rfl | (simp; done) | (simp [*]; done) | (simp [*]; omega)), (by first | rfl | (simp; done) | (simp [*]; done) | (simp [*]; omega)), H', ⟨by have := HK1.out; omega⟩, ⟨by (with_reducible repeat (first | apply Kd.R_alloc | apply Kd.R_drewN | apply Kd.R_drew)); exact Kd.R_mono HO136.out (fun _ hk => trivial)⟩, ⟨by (with_reducible repeat (first | apply Kd.R_alloc | apply Kd.R_drewN | apply Kd.R_drew)); exact HO139.out⟩, ⟨by repeat (first | (with_reducible first | exact HB.out | apply below_alloc | apply pw_below_drewN | apply below_drew1 | refine below_set ?_ GE126.out) | exact HB.out)⟩⟩
                · rw [if_neg c15] at H
                  exact absurd H (by simp)
              · rw [if_neg c14] at H
                exact absurd H (by simp)
          · rw [if_neg c6] at H
            exact absurd H (by simp)
        · rw [if_neg c5] at H
          exact absurd H (by simp)
      · rw [if_neg c4] at H
        have c4b0 : decide (x18_1 < (l0.length : Int)) = false := decide_eq_false c4
        clear c4
        simp only [Option.some.injEq, Prod.mk.injEq] at H
        obtain ⟨rfl, rfl⟩ := H
        go_wp2
        go_ret2
        exact ⟨_, _, by first | rfl | (simp [errW_none, errW_some] <;> rfl) | (simp [*, errW_none, errW_some] <;> rfl), by (with_reducible repeat (first | apply Kd.R_alloc | apply Kd.R_drewN | apply Kd.R_drew)); exact HO_8.out, by (with_reducible repeat (first | apply Kd.R_alloc | apply Kd.R_drewN | apply Kd.R_drew)); exact HO_9.out, by repeat (first | (with_reducible first | exact HB.out | apply below_alloc | apply pw_below_drewN | apply below_drew1) | exact HB.out)⟩

/-! ### span_Indices: function 10 -/
mutual
def span_Indices.l0 : Nat → List Int → Int → List (S38) → Int → Int → Option (List Int)
  | 0, _, _, _, _, _ => none
  | k + 1, x3, x4, x10, x11, x12 => if x12 < x11 then (if 0 ≤ x12 then (if x12 < (x10.length : Int) then (span_Indices.l1 k x3 (wrap64 (x4 + ((rd_T38 x10 x12).f0))) x10 x11 x12 ((rd_T38 x10 x12).f1) 0) else (none)) else (none)) else (some x3)
def span_Indices.l1 : Nat → List Int → Int → List (S38) → Int → Int → Int → Int → Option (List Int)
  | 0, _, _, _, _, _, _, _ => none
  | k + 1, x3, x4, x10, x11, x12, x21, x22 => if x22 < x21 then (if x3.length < 17592186044416 then (span_Indices.l1 k (x3 ++ [x4]) (wrap64 (x4 + 1)) x10 x11 x12 x21 (wrap64 (x22 + 1))) else (none)) else (span_Indices.l0 k x3 x4 x10 x11 (wrap64 (x12 + 1)))
end
def span_Indices.f (k : Nat) (a0_0 : Int) (l0_1 : List (S38)) : Option (List Int) := span_Indices.l0 k ([] : List Int) a0_0 l0_1 (l0_1.length : Int) 0
theorem span_Indices.mono_l : ∀ k, (∀ y0 y1 y2 y3 y4, LeO (span_Indices.l0 k y0 y1 y2 y3 y4) (span_Indices.l0 (k + 1) y0 y1 y2 y3 y4)) ∧ (∀ y0 y1 y2 y3 y4 y5 y6, LeO (span_Indices.l1 k y0 y1 y2 y3 y4 y5 y6) (span_Indices.l1 (k + 1) y0 y1 y2 y3 y4 y5 y6))
  | 0 => ⟨fun _ _ _ _ _ r h => by simp [span_Indices.l0] at h, fun _ _ _ _ _ _ _ r h => by simp [span_Indices.l1] at h⟩
  | k + 1 => by
    obtain ⟨ih0, ih1⟩ := span_Indices.mono_l k
    refine ⟨?_, ?_⟩
    · intro y0 y1 y2 y3 y4
      unfold span_Indices.l0
      repeat' first
      | (with_reducible exact ih0 _ _ _ _ _)
      | (with_reducible exact ih1 _ _ _ _ _ _ _)
      | (with_reducible exact LeO.refl _)
      | (with_reducible exact LeO.none _)
      | (with_reducible refine LeO.ite ?_ ?_)
      | (with_reducible refine LeO.bind ?_ (fun _ => ?_))
      | exact ih0 _ _ _ _ _
      | exact ih1 _ _ _ _ _ _ _
      | exact LeO.none _
      | refine LeO.ite ?_ ?_
      | refine LeO.bind ?_ (fun _ => ?_)
    · intro y0 y1 y2 y3 y4 y5 y6
      unfold span_Indices.l1
      repeat' first
      | (with_reducible exact ih0 _ _ _ _ _)
      | (with_reducible exact ih1 _ _ _ _ _ _ _)
      | (with_reducible exact LeO.refl _)
      | (with_reducible exact LeO.none _)
      | (with_reducible refine LeO.ite ?_ ?_)
      | (with_reducible refine LeO.bind ?_ (fun _ => ?_))
      | exact ih0 _ _ _ _ _
      | exact ih1 _ _ _ _ _ _ _
      | exact LeO.none _
      | refine LeO.ite ?_ ?_
      | refine LeO.bind ?_ (fun _ => ?_)
theorem span_Indices.mono : ∀ a0 a1 k, LeO (span_Indices.f k a0 a1) (span_Indices.f (k + 1) a0 a1) := by
  intro a0 a1 k
  obtain ⟨ih0, ih1⟩ := span_Indices.mono_l k
  unfold span_Indices.f
  repeat' first
      | (with_reducible exact ih0 _ _ _ _ _)
      | (with_reducible exact ih1 _ _ _ _ _ _ _)
      | (with_reducible exact LeO.refl _)
      | (with_reducible exact LeO.none _)
      | (with_reducible refine LeO.ite ?_ ?_)
      | (with_reducible refine LeO.bind ?_ (fun _ => ?_))
      | exact ih0 _ _ _ _ _
      | exact ih1 _ _ _ _ _ _ _
      | exact LeO.none _
      | refine LeO.ite ?_ ?_
      | refine LeO.bind ?_ (fun _ => ?_)
set_option maxHeartbeats 8000000 in
set_option maxRecDepth 100000 in
theorem span_Indices.calls (k : Nat) (a0_0 : Int) (A0_1 : Option Addr) (c0_1 : Nat) (l0_1 : List (S38)) (r : List Int) (w : World) (hr0_1 : Kd.C k38 w A0_1 l0_1.length l0_1) (hc0_1 : l0_1.length ≤ c0_1) (h : span_Indices.f k a0_0 l0_1 = some r) :
    Calls Try.prog 10 #[.agg #[.int .i64 a0_0, .slice A0_1 l0_1.length c0_1]] w fun e w' => ∃ v0_ : Value, e = .returned (v0_) ∧ Kd.R (Kd.int .i64) 3 w' w.heap.size (fun _ => True) v0_ r ∧ Below w.heap.size w w' := by
  have hu31 := Try.underlying31
  have hu38 := Try.underlying38
  have HR0_1 := Aside0.mk hr0_1
  have HC0_1 := Aside0.mk hc0_1
  clear hr0_1 hc0_1
  have HB := Aside0.mk (Below.refl w.heap.size w)
  have H : (span_Indices.l0 k ([] : List Int) a0_0 l0_1 (l0_1.length : Int) 0) = some r := h
  clear h
  have H' := Aside0.mk H
  clear H
  go_enter Try.func10, Try.ntmps10
  go_wp2_with (first | ((with_reducible refine gate_dst (N := 1) rfl ?_); refine box_event ?hg (N := 1) ?hd (cs := #[.int .i64 a0_0, .slice A0_1 l0_1.length c0_1]) (t := 31) ?hr ?_; (case hd => rfl); (case hg => rfl); (case hr => first | (go_simp; done) | (go_simp; rfl)); intro gb140 hg w2 hbox hb; have n0_ := Aside0.mk (below_step (by repeat (first | (with_reducible first | exact HB.out | apply below_alloc | apply pw_below_drewN | apply below_drew1) | exact HB.out)) hb); have n1_ := Aside0.mk (hbox); have n2_ := Aside0.mk ((by rw [hg]; exact (below_size (by repeat (first | (with_reducible first | exact HB.out | apply below_alloc | apply pw_below_drewN | apply below_drew1) | exact HB.out))) : w.heap.size ≤ gb140)); have n3_ := Aside0.mk ((by rw [hg]; exact (below_size (by repeat (first | (with_reducible first | exact HB.out | apply below_alloc | apply pw_below_drewN | apply below_drew1) | exact HB.out))) : w.heap.size ≤ gb140)); clear HB; have HB := n0_; have BK140 := n1_; have GW140 := n2_; have GE140 := n3_; clear n0_ n1_ n2_ n3_; clear hb hbox hg; have hcz3_0 : w2.cell? ⟨gb140, 0, none⟩ = some (.int .i64 a0_0) := (blk_cell BK140.out 0).trans rfl; have hcz3_1 : w2.cell? ⟨gb140, 1, none⟩ = some (.slice A0_1 l0_1.length c0_1) := (blk_cell BK140.out 1).trans rfl; have hfz3_0 := blk_frozen BK140.out 0; have hfz3_1 := blk_frozen BK140.out 1; have hsz3_1 : ∀ A_ B_ : Value, ((w2.setCell ⟨gb140, 0, none⟩ A_).setCell ⟨gb140, 1, none⟩ B_).cell? ⟨gb140, 1, none⟩ = some B_ := fun A_ B_ => World.cell?_setCell_same _ _ _ ((World.cell?_setCell_other _ _ _ _ (by simp)).trans hcz3_1)))
  go_loopg [3, 4, 12] k (fun kq v3 v4 v12 w' => ∃ (x3_1 : List Int) (x4_1 : Int) (x12_1 : Int), v4 = .int .i64 x4_1 ∧ v12 = .int .i64 x12_1 ∧ Aside0 (span_Indices.l0 kq x3_1 x4_1 l0_1 (l0_1.length : Int) x12_1 = some r) ∧ Aside0 (kq ≤ k) ∧ Aside0 (Kd.R (Kd.int .i64) 3 w' w.heap.size (fun _ => True) v3 x3_1) ∧ Aside0 (w'.heap[gb140]? = some (.cells #[.int .i64 a0_0, (.slice A0_1 l0_1.length c0_1)] 31 (0, 0))) ∧ Aside0 (Below w.heap.size w w'))
  case atStart => exact ⟨(([] : List Int)), (a0_0), (0), (by first | rfl | (simp; done) | (simp [*]; done) | (simp [*]; omega)), (by first | rfl | (simp; done) | (simp [*]; done) | (simp [*]; omega)), H', ⟨Nat.le_refl _⟩, ⟨by first | exact Kd.R_nil _ _ _ _ _ | exact Kd.N_nil _ _ _ _ _ | exact Kd.V_nil _ _ _ _ _ | exact Kd.Q_nil _ _ _ _ _ | exact Kd.S_nil _ _ _ _ _⟩, ⟨by (with_reducible repeat (first | refine blk_drewN ?_ _ | refine blk_drew ?_ | refine blk_alloc ?_ _)); exact BK140.out⟩, ⟨by repeat (first | (with_reducible first | exact HB.out | apply below_alloc | apply pw_below_drewN | apply below_drew1 | refine below_set ?_ GE140.out) | exact HB.out)⟩⟩
  case round =>
    clear H'
    try clear c1
    try clear p2
    try clear hcz3_0
    try clear hcz3_1
    try clear hfz3_0
    try clear hfz3_1
    obtain ⟨x3_1, x4_1, x12_1, rfl, rfl, HA, HK1, HO_3, BK140, HB⟩ := hrel
    cases gk with
    | zero => exact absurd HA.out (by simp [span_Indices.l0])
    | succ k1 =>
      have H := HA.out
      clear HA
      simp only [span_Indices.l0] at H
      by_cases c4 : x12_1 < (l0_1.length : Int)
      · rw [if_pos c4] at H
        have c4b0 : decide (x12_1 < (l0_1.length : Int)) = true := decide_eq_true c4
        clear c4
        by_cases c5 : 0 ≤ x12_1
        · rw [if_pos c5] at H
          have c5b0 : decide (0 ≤ x12_1) = true := decide_eq_true c5
          clear c5
          by_cases c6 : x12_1 < (l0_1.length : Int)
          · rw [if_pos c6] at H
            have c6b0 : decide (x12_1 < (l0_1.length : Int)) = true := decide_eq_true c6
            clear c6
            have H' := Aside0.mk H
            clear H
            have p141 : 0 ≤ (x12_1 : Int) := of_decide_eq_true (by first | (with_reducible assumption) | assumption)
            have q141 : x12_1 < (l0_1.length : Int) := of_decide_eq_true (by first | (with_reducible assumption) | assumption)
            obtain ⟨ad141, e141, hx141_0, hx141_1⟩ := at_T38 HR0_1.out x12_1 p141 q141
            cases e141
            replace hx141_0 := (HB.out.cell (World.block_lt_of_cell? w _ hx141_0)).trans hx141_0
            replace hx141_1 := (HB.out.cell (World.block_lt_of_cell? w _ hx141_1)).trans hx141_1
            replace p141 := eq_true p141
            replace q141 := eq_true q141
            go_wp2_with (first | ((with_reducible refine gate_dst (N := 6) rfl ?_); refine box_event ?hg (N := 6) ?hd (cs := #[.int .i64 0, .int .i64 0]) (t := 38) ?hr ?_; (case hd => rfl); (case hg => rfl); (case hr => first | (go_simp; done) | (go_simp; rfl)); intro gb142 hg w7 hbox hb; have n0_ := Aside0.mk (Kd.R_below (by (with_reducible repeat (first | apply Kd.R_alloc | apply Kd.R_drewN | apply Kd.R_drew)); exact HO_3.out) hb); have n1_ := Aside0.mk (blk_below (g := gb140) (o := .cells #[.int .i64 a0_0, .slice (some ad141) l0_1.length c0_1] 31 (0, 0)) (by (with_reducible repeat (first | refine blk_drewN ?_ _ | refine blk_drew ?_ | refine blk_alloc ?_ _)); exact BK140.out) hb); have n2_ := Aside0.mk (below_step (by repeat (first | (with_reducible first | exact HB.out | apply below_alloc | apply pw_below_drewN | apply below_drew1 | refine below_set ?_ GE140.out) | exact HB.out)) hb); have n3_ := Aside0.mk (hbox); have n4_ := Aside0.mk ((by rw [hg]; exact (below_size (by repeat (first | (with_reducible first | exact HB.out | apply below_alloc | apply pw_below_drewN | apply below_drew1 | refine below_set ?_ GE140.out) | exact HB.out))) : w.heap.size ≤ gb142)); have n5_ := Aside0.mk ((by rw [hg]; exact (below_size (by repeat (first | (with_reducible first | exact HB.out | apply below_alloc | apply pw_below_drewN | apply below_drew1 | refine below_set ?_ GE140.out) | exact HB.out))) : w.heap.size ≤ gb142)); have n6_ := Aside0.mk ((by rw [hg]; exact Nat.ne_of_lt (blk_lt (g := gb140) (o := .cells #[.int .i64 a0_0, .slice (some ad141) l0_1.length c0_1] 31 (0, 0)) (by (with_reducible repeat (first | refine blk_drewN ?_ _ | refine blk_drew ?_ | refine blk_alloc ?_ _)); exact BK140.out)) : gb140 ≠ gb142)); have n7_ := Aside0.mk ((by rw [hg]; exact Nat.ne_of_gt (blk_lt (g := gb140) (o := .cells #[.int .i64 a0_0, .slice (some ad141) l0_1.length c0_1] 31 (0, 0)) (by (with_reducible repeat (first | refine blk_drewN ?_ _ | refine blk_drew ?_ | refine blk_alloc ?_ _)); exact BK140.out)) : gb142 ≠ gb140)); clear HO_3; clear BK140; clear HB; have HO_3 := n0_; have BK140 := n1_; have HB := n2_; have BK142 := n3_; have GW142 := n4_; have GE142 := n5_; have NB140_142 := n6_; have NB142_140 := n7_; clear n0_ n1_ n2_ n3_ n4_ n5_ n6_ n7_; clear hb hbox hg; have hnb8 := NB142_140.out; have hnc8 := NB140_142.out; have hcz9_0 : w7.cell? ⟨gb142, 0, none⟩ = some (.int .i64 0) := (blk_cell BK142.out 0).trans rfl; have hcz9_1 : w7.cell? ⟨gb142, 1, none⟩ = some (.int .i64 0) := (blk_cell BK142.out 1).trans rfl; have hfz9_0 := blk_frozen BK142.out 0; have hfz9_1 := blk_frozen BK142.out 1; have hsz9_1 : ∀ A_ B_ : Value, ((w7.setCell ⟨gb142, 0, none⟩ A_).setCell ⟨gb142, 1, none⟩ B_).cell? ⟨gb142, 1, none⟩ = some B_ := fun A_ B_ => World.cell?_setCell_same _ _ _ ((World.cell?_setCell_other _ _ _ _ (by simp)).trans hcz9_1)))
            go_loopg [3, 4, 22] k1 (fun kq v3 v4 v22 w' => ∃ (x3_2 : List Int) (x4_2 : Int) (x22_2 : Int), v4 = .int .i64 x4_2 ∧ v22 = .int .i64 x22_2 ∧ Aside0 (span_Indices.l1 kq x3_2 x4_2 l0_1 (l0_1.length : Int) x12_1 ((rd_T38 l0_1 x12_1).f1) x22_2 = some r) ∧ Aside0 (kq ≤ k1) ∧ Aside0 (Kd.R (Kd.int .i64) 3 w' w.heap.size (fun _ => True) v3 x3_2) ∧ Aside0 (w'.heap[gb140]? = some (.cells #[.int .i64 a0_0, (.slice (some ad141) l0_1.length c0_1)] 31 (0, 0))) ∧ Aside0 (w'.heap[gb142]? = some (.cells #[.int .i64 ((rd_T38 l0_1 x12_1).f0), .int .i64 ((rd_T38 l0_1 x12_1).f1)] 38 (0, 0))) ∧ Aside0 (Below w.heap.size w w'))
            case atStart => exact ⟨(x3_1), (wrap64 (x4_1 + ((rd_T38 l0_1 x12_1).f0))), (0), (by first | rfl | (simp; done) | (simp [*]; done) | (simp [*]; omega)), (by first | rfl | (simp; done) | (simp [*]; done) | (simp [*]; omega)), H', ⟨Nat.le_refl _⟩, ⟨by (with_reducible repeat (first | apply Kd.R_alloc | apply Kd.R_drewN | apply Kd.R_drew)); exact Kd.R_mono (Kd.R_far (p := ⟨gb142, 1, none⟩) (Kd.R_far (p := ⟨gb142, 0, none⟩) (Kd.R_types HO_3.out BK142.out (by decide)) (fun _ hk => hk.2) (.int .i64 ((rd_T38 l0_1 x12_1).f0))) (fun _ hk => hk.2) (.int .i64 ((rd_T38 l0_1 x12_1).f1))) (fun _ hk => trivial)⟩, ⟨by (with_reducible repeat (first | refine blk_drewN ?_ _ | refine blk_drew ?_ | refine blk_alloc ?_ _)); refine blk_far ?_ NB140_142.out _; (with_reducible repeat (first | refine blk_drewN ?_ _ | refine blk_drew ?_ | refine blk_alloc ?_ _)); refine blk_far ?_ NB140_142.out _; (with_reducible repeat (first | refine blk_drewN ?_ _ | refine blk_drew ?_ | refine blk_alloc ?_ _)); exact BK140.out⟩, ⟨by (with_reducible repeat (first | refine blk_drewN ?_ _ | refine blk_drew ?_ | refine blk_alloc ?_ _)); refine blk_put (cs := #[.int .i64 ((rd_T38 l0_1 x12_1).f0), .int .i64 0]) ?_ 1 _ rfl; (with_reducible repeat (first | refine blk_drewN ?_ _ | refine blk_drew ?_ | refine blk_alloc ?_ _)); refine blk_put (cs := #[.int .i64 0, .int .i64 0]) ?_ 0 _ rfl; (with_reducible repeat (first | refine blk_drewN ?_ _ | refine blk_drew ?_ | refine blk_alloc ?_ _)); exact BK142.out⟩, ⟨by repeat (first | (with_reducible first | exact HB.out | apply below_alloc | apply pw_below_drewN | apply below_drew1 | refine below_set ?_ GE140.out | refine below_set ?_ GE142.out) | exact HB.out)⟩⟩
            case round =>
              clear H'
              try clear c1
              try clear p1
              try clear q1
              try clear hx1
              try clear p2
              try clear c4
              try clear c4b0
              try clear c5
              try clear c5b0
              try clear c6
              try clear c6b0
              try clear p6
              try clear c8
              try clear hcz3_0
              try clear hcz3_1
              try clear hcz9_0
              try clear hcz9_1
              try clear hfz3_0
              try clear hfz3_1
              try clear hfz9_0
              try clear hfz9_1
              try clear hx141_0
              try clear hx141_1
              try clear p141
              try clear p2
              try clear q141
              obtain ⟨x3_2, x4_2, x22_2, rfl, rfl, HA, HK2, HO_3, BK140, BK142, HB⟩ := hrel
              cases gk with
              | zero => exact absurd HA.out (by simp [span_Indices.l1])
              | succ k2 =>
                have H := HA.out
                clear HA
                simp only [span_Indices.l1] at H
                by_cases c10 : x22_2 < ((rd_T38 l0_1 x12_1).f1)
                · rw [if_pos c10] at H
                  have c10b0 : decide (x22_2 < ((rd_T38 l0_1 x12_1).f1)) = true := decide_eq_true c10
                  clear c10
                  by_cases c11 : x3_2.length < 17592186044416
                  · rw [if_pos c11] at H
                    have LMc11 := Aside0.mk c11
                    clear c11
                    obtain ⟨y143, hy143⟩ : ∃ y_ : List Int, y_ = (x3_2 ++ [x4_2]) := ⟨_, rfl⟩
                    replace H : (span_Indices.l1 k2 y143 (wrap64 (x4_2 + 1)) l0_1 (l0_1.length : Int) x12_1 ((rd_T38 l0_1 x12_1).f1) (wrap64 (x22_2 + 1))) = some r := by first | (rw [hy143]; with_reducible exact H) | (have H2_ := (Option.bind_some _ _).symm.trans H; rw [hy143]; with_reducible exact H2_) | (have H2_ := (Option.bind_some _ _).symm.trans H; with_reducible exact H2_) | with_reducible exact H | (rw [hy143]; exact H) | exact H
                    have Ny143 := Aside0.mk hy143
                    clear hy143
                    have H' := Aside0.mk H
                    clear H
                    go_wp2_with (first | ((with_reducible refine gate_builtin (b := .append) (xs := #[.tmp 24, .tmp 26]) rfl ?_); at_builtin; refine Kd.R_append (Kd.int .i64) (w0 := w) w.heap.size rfl (.tmp 24) (.tmp 26) 26 3 (.int .i64 0) 8 rfl Try.underlying26 info3 rfl (by decide) (by omega) u3 x3_2 x4_2 [.int .i64 x4_2] (fun _ => True) (fun _ => False) rfl rfl ?aP (fun _ hk => hk.elim) ?aF ?aO ?aB ?aS ?aL ?_; (case aP => exact rfl); (case aB => exact (by repeat (first | (with_reducible first | exact HB.out | apply below_alloc | apply pw_below_drewN | apply below_drew1 | refine below_set ?_ GE140.out | refine below_set ?_ GE142.out) | exact HB.out))); (case aF => exact (fun _ _ => trivial)); (case aO => exact (by (with_reducible repeat (first | apply Kd.R_alloc | apply Kd.R_drewN | apply Kd.R_drew)); exact HO_3.out)); (case aS => exact (below_size (by repeat (first | (with_reducible first | exact HB.out | apply below_alloc | apply pw_below_drewN | apply below_drew1 | refine below_set ?_ GE140.out | refine below_set ?_ GE142.out) | exact HB.out)))); (case aL => have := LMc11.out; omega); intro v144 w12 ho hb hg hat; rw [← Ny143.out] at ho; have n0_ := Aside0.mk (blk_grown (g := gb140) (o := .cells #[.int .i64 a0_0, .slice (some ad141) l0_1.length c0_1] 31 (0, 0)) (by (with_reducible repeat (first | refine blk_drewN ?_ _ | refine blk_drew ?_ | refine blk_alloc ?_ _)); exact BK140.out) hg (Kd.R_ne HO_3.out BK140.out (by decide))); have n1_ := Aside0.mk (blk_grown (g := gb142) (o := .cells #[.int .i64 ((rd_T38 l0_1 x12_1).f0), .int .i64 ((rd_T38 l0_1 x12_1).f1)] 38 (0, 0)) (by (with_reducible repeat (first | refine blk_drewN ?_ _ | refine blk_drew ?_ | refine blk_alloc ?_ _)); exact BK142.out) hg (Kd.R_ne HO_3.out BK142.out (by decide))); have n2_ := Aside0.mk (hb); have n3_ := Aside0.mk (ho); clear BK140; clear BK142; clear HB; clear HO_3; have BK140 := n0_; have BK142 := n1_; have HB := n2_; have HO145 := n3_; clear n0_ n1_ n2_ n3_; clear ho hb hg hat))
                    go_roundg k2
                    case measure => have := HK1.out; have := HK2.out; omega
                    case rel => exact ⟨(y143), (wrap64 (x4_2 + 1)), (wrap64 (x22_2 + 1)), (by first | rfl | (simp; done) | (simp [*]; done) | (simp [*]; omega)), (by first | rfl | (simp; done) | (simp [*]; done) | (simp [*]; omega)), H', ⟨by have := HK1.out; have := HK2.out; omega⟩, ⟨by (with_reducible repeat (first | apply Kd.R_alloc | apply Kd.R_drewN | apply Kd.R_drew)); exact HO145.out⟩, ⟨by (with_reducible repeat (first | refine blk_drewN ?_ _ | refine blk_drew ?_ | refine blk_alloc ?_ _)); exact BK140.out⟩, ⟨by (with_reducible repeat (first | refine blk_drewN ?_ _ | refine blk_drew ?_ | refine blk_alloc ?_ _)); exact BK142.out⟩, ⟨by repeat (first | (with_reducible first | exact HB.out | apply below_alloc | apply pw_below_drewN | apply below_drew1 | refine below_set ?_ GE140.out | refine below_set ?_ GE142.out) | exact HB.out)⟩⟩
                  · rw [if_neg c11] at H
                    exact absurd H (by simp)
                · rw [if_neg c10] at H
                  have c10b0 : decide (x22_2 < ((rd_T38 l0_1 x12_1).f1)) = false := decide_eq_false c10
                  clear c10
                  have H' := Aside0.mk H
                  clear H
                  go_wp2
                  go_roundg k2
                  case measure => have := HK1.out; have := HK2.out; omega
                  case rel => exact ⟨(x3_2), (x4_2), (wrap64 (x12_1 + 1)), (by first | rfl | (simp; done) | (simp [*]; done) | (simp [*]; omega)), (by first | rfl | (simp; done) | (simp [*]; done) | (simp [*]; omega)), H', ⟨by have := HK1.out; have := HK2.out; omega⟩, ⟨by (with_reducible repeat (first | apply Kd.R_alloc | apply Kd.R_drewN | apply Kd.R_drew)); exact HO_3.out⟩, ⟨by (with_reducible repeat (first | refine blk_drewN ?_ _ | refine blk_drew ?_ | refine blk_alloc ?_ _)); exact BK140.out⟩, ⟨by repeat (first | (with_reducible first | exact HB.out | apply below_alloc | apply pw_below_drewN | apply below_drew1 | refine below_set ?_ GE140.out | refine below_set ?_ GE142.out) | exact HB.out)⟩⟩
          · rw [if_neg c6] at H
            exact absurd H (by simp)
        · rw [if_neg c5] at H
          exact absurd H (by simp)
      · rw [if_neg c4] at H
        have c4b0 : decide (x12_1 < (l0_1.length : Int)) = false := decide_eq_false c4
        clear c4
        obtain rfl := Option.some.inj H
        go_wp2
        go_ret
        exact ⟨_, by first | rfl | (simp [errW_none, errW_some] <;> rfl) | (simp [*, errW_none, errW_some] <;> rfl), by (with_reducible repeat (first | apply Kd.R_alloc | apply Kd.R_drewN | apply Kd.R_drew)); exact HO_3.out, by repeat (first | (with_reducible first | exact HB.out | apply below_alloc | apply pw_below_drewN | apply below_drew1 | refine below_set ?_ GE140.out) | exact HB.out)⟩

end Go.Proofs.Ytpdhcgicnhgfoaa.QSpanJoins
